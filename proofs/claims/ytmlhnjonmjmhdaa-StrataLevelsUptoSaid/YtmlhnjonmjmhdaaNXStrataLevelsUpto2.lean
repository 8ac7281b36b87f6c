/- RowStrataLevelsUpto of the seat's law StrataLevelsUpto: the law holds, under the statement's own conditions. -/
import Derived.Test.YtmlhnjonmjmhdaaNXStrataLevelsUpto
import Derived.Test.YtmlhnjonmjmhdaaNXStrataLevelsUpto1
set_option linter.unusedVariables false
set_option linter.unusedSimpArgs false
set_option linter.unusedSectionVars false
namespace Go.Proofs.Ytmlhnjonmjmhdaa.H
open Go.RowKit Go.Proofs.YtmlhnjonmjmhdaaW.PrintWords Go.Proofs.YtmlhnjonmjmhdaaW.PrintLast Go.Proofs.YtmlhnjonmjmhdaaW.PrintMore
attribute [local go_sem] max2_int min2_int max_two min_two max_three min_three max_four min_four
mutual
def strata_edges.l0 : Nat → List (IPair) → List (IPair) → List (Rule) → Int → Int → List ByteArray → Option ((List (IPair)) × (List (IPair)))
 | 0, _, _, _, _, _, _ => none
 | k + 1, x6, x7, x16, x17, x18, x103000 => if x18 < x17 then (if 0 ≤ x18 then (if x18 < (x16.length : Int) then (strata_edges.l1 k x6 x7 x16 x17 x18 ((rd_T64 x16 x18).body) (((rd_T64 x16 x18).body).length : Int) 0 x103000 ((rd_T64 x16 x18).head.pred) ((rd_T64 x16 x18).head.args) ((rd_T64 x16 x18).body)) else (none)) else (none)) else (some (x6, x7))
def strata_edges.l1 : Nat → List (IPair) → List (IPair) → List (Rule) → Int → Int → List (Liter) → Int → Int → List ByteArray → ByteArray → List (Term) → List (Liter) → Option ((List (IPair)) × (List (IPair)))
 | 0, _, _, _, _, _, _, _, _, _, _, _, _ => none
 | k + 1, x6, x7, x16, x17, x18, x23, x24, x25, x103000, x105000, x105001, x105002 => if x25 < x24 then (if 0 ≤ x25 then (if x25 < (x23.length : Int) then (if ((rd_T71 x23 x25).kind) = 1 then (strata_edges.j2 k x6 x7 x16 x17 x18 x23 x24 x25 false x103000 x105000 x105001 x105002 ((rd_T71 x23 x25).kind) ((rd_T71 x23 x25).atom.pred) ((rd_T71 x23 x25).atom.args) ((rd_T71 x23 x25).op) ((rd_T71 x23 x25).l.isVar) ((rd_T71 x23 x25).l.name) ((rd_T71 x23 x25).l.val.isSym) ((rd_T71 x23 x25).l.val.sym) ((rd_T71 x23 x25).l.val.n) ((rd_T71 x23 x25).r.isVar) ((rd_T71 x23 x25).r.name) ((rd_T71 x23 x25).r.val.isSym) ((rd_T71 x23 x25).r.val.sym) ((rd_T71 x23 x25).r.val.n)) else (strata_edges.j2 k x6 x7 x16 x17 x18 x23 x24 x25 (((rd_T71 x23 x25).kind) != 2) x103000 x105000 x105001 x105002 ((rd_T71 x23 x25).kind) ((rd_T71 x23 x25).atom.pred) ((rd_T71 x23 x25).atom.args) ((rd_T71 x23 x25).op) ((rd_T71 x23 x25).l.isVar) ((rd_T71 x23 x25).l.name) ((rd_T71 x23 x25).l.val.isSym) ((rd_T71 x23 x25).l.val.sym) ((rd_T71 x23 x25).l.val.n) ((rd_T71 x23 x25).r.isVar) ((rd_T71 x23 x25).r.name) ((rd_T71 x23 x25).r.val.isSym) ((rd_T71 x23 x25).r.val.sym) ((rd_T71 x23 x25).r.val.n))) else (none)) else (none)) else (strata_edges.l0 k x6 x7 x16 x17 (wrap64 (x18 + 1)) x103000)
def strata_edges.j2 : Nat → List (IPair) → List (IPair) → List (Rule) → Int → Int → List (Liter) → Int → Int → Bool → List ByteArray → ByteArray → List (Term) → List (Liter) → Int → ByteArray → List (Term) → ByteArray → Bool → ByteArray → Bool → ByteArray → Int → Bool → ByteArray → Bool → ByteArray → Int → Option ((List (IPair)) × (List (IPair)))
 | 0, _, _, _, _, _, _, _, _, _, _, _, _, _, _, _, _, _, _, _, _, _, _, _, _, _, _, _ => none
 | k + 1, x6, x7, x16, x17, x18, x23, x24, x25, x36, x103000, x105000, x105001, x105002, x107000, x107001, x107002, x107003, x107004, x107005, x107006, x107007, x107008, x107009, x107010, x107011, x107012, x107013 => if x36 = true then (strata_edges.l1 k x6 x7 x16 x17 x18 x23 x24 (wrap64 (x25 + 1)) x103000 x105000 x105001 x105002) else ((EdgesAt.f x105000 x103000).bind fun t107 => ((EdgesAt.f x107001 x103000).bind fun t108 => (if x6.length < 8796093022208 then ((some (x6 ++ [(⟨t107, t108⟩ : IPair)] : List (IPair))).bind fun y110 => (if x107000 = 2 then (if x7.length < 8796093022208 then (strata_edges.l1 k y110 (x7 ++ [(⟨t107, t108⟩ : IPair)]) x16 x17 x18 x23 x24 (wrap64 (x25 + 1)) x103000 x105000 x105001 x105002) else (none)) else (strata_edges.l1 k y110 x7 x16 x17 x18 x23 x24 (wrap64 (x25 + 1)) x103000 x105000 x105001 x105002))) else (none))))
end
def strata_edges.f (k : Nat) (l0_0 : List (Decl)) (l0_1 : List (Rule)) (l1 : List ByteArray) : Option ((List (IPair)) × (List (IPair))) := strata_edges.l0 k ([] : List (IPair)) ([] : List (IPair)) l0_1 (l0_1.length : Int) 0 l1
theorem strata_edges.mono_l : ∀ k, (∀ y0 y1 y2 y3 y4 y5, LeO (strata_edges.l0 k y0 y1 y2 y3 y4 y5) (strata_edges.l0 (k + 1) y0 y1 y2 y3 y4 y5)) ∧ (∀ y0 y1 y2 y3 y4 y5 y6 y7 y8 y9 y10 y11, LeO (strata_edges.l1 k y0 y1 y2 y3 y4 y5 y6 y7 y8 y9 y10 y11) (strata_edges.l1 (k + 1) y0 y1 y2 y3 y4 y5 y6 y7 y8 y9 y10 y11)) ∧ (∀ y0 y1 y2 y3 y4 y5 y6 y7 y8 y9 y10 y11 y12 y13 y14 y15 y16 y17 y18 y19 y20 y21 y22 y23 y24 y25 y26, LeO (strata_edges.j2 k y0 y1 y2 y3 y4 y5 y6 y7 y8 y9 y10 y11 y12 y13 y14 y15 y16 y17 y18 y19 y20 y21 y22 y23 y24 y25 y26) (strata_edges.j2 (k + 1) y0 y1 y2 y3 y4 y5 y6 y7 y8 y9 y10 y11 y12 y13 y14 y15 y16 y17 y18 y19 y20 y21 y22 y23 y24 y25 y26))
 | 0 => ⟨fun _ _ _ _ _ _ r h => by simp [strata_edges.l0] at h, fun _ _ _ _ _ _ _ _ _ _ _ _ r h => by simp [strata_edges.l1] at h, fun _ _ _ _ _ _ _ _ _ _ _ _ _ _ _ _ _ _ _ _ _ _ _ _ _ _ _ r h => by simp [strata_edges.j2] at h⟩
 | k + 1 => by
  obtain ⟨ih0, ih1, ih2⟩ := strata_edges.mono_l k
  refine ⟨?_, ?_, ?_⟩
  ·intro y0 y1 y2 y3 y4 y5
   unfold strata_edges.l0
   repeat' first
   | (with_reducible exact ih0 _ _ _ _ _ _)
   | (with_reducible exact ih1 _ _ _ _ _ _ _ _ _ _ _ _)
   | (with_reducible exact ih2 _ _ _ _ _ _ _ _ _ _ _ _ _ _ _ _ _ _ _ _ _ _ _ _ _ _ _)
   | (with_reducible exact LeO.refl _)
   | (with_reducible exact LeO.none _)
   | (with_reducible refine LeO.ite ?_ ?_)
   | (with_reducible refine LeO.bind ?_ (fun _ => ?_))
   | exact ih0 _ _ _ _ _ _
   | exact ih1 _ _ _ _ _ _ _ _ _ _ _ _
   | exact ih2 _ _ _ _ _ _ _ _ _ _ _ _ _ _ _ _ _ _ _ _ _ _ _ _ _ _ _
   | exact LeO.none _
   | refine LeO.ite ?_ ?_
   | refine LeO.bind ?_ (fun _ => ?_)
  ·intro y0 y1 y2 y3 y4 y5 y6 y7 y8 y9 y10 y11
   unfold strata_edges.l1
   repeat' first
   | (with_reducible exact ih0 _ _ _ _ _ _)
   | (with_reducible exact ih1 _ _ _ _ _ _ _ _ _ _ _ _)
   | (with_reducible exact ih2 _ _ _ _ _ _ _ _ _ _ _ _ _ _ _ _ _ _ _ _ _ _ _ _ _ _ _)
   | (with_reducible exact LeO.refl _)
   | (with_reducible exact LeO.none _)
   | (with_reducible refine LeO.ite ?_ ?_)
   | (with_reducible refine LeO.bind ?_ (fun _ => ?_))
   | exact ih0 _ _ _ _ _ _
   | exact ih1 _ _ _ _ _ _ _ _ _ _ _ _
   | exact ih2 _ _ _ _ _ _ _ _ _ _ _ _ _ _ _ _ _ _ _ _ _ _ _ _ _ _ _
   | exact LeO.none _
   | refine LeO.ite ?_ ?_
   | refine LeO.bind ?_ (fun _ => ?_)
  ·intro y0 y1 y2 y3 y4 y5 y6 y7 y8 y9 y10 y11 y12 y13 y14 y15 y16 y17 y18 y19 y20 y21 y22 y23 y24 y25 y26
   unfold strata_edges.j2
   repeat' first
   | (with_reducible exact ih0 _ _ _ _ _ _)
   | (with_reducible exact ih1 _ _ _ _ _ _ _ _ _ _ _ _)
   | (with_reducible exact ih2 _ _ _ _ _ _ _ _ _ _ _ _ _ _ _ _ _ _ _ _ _ _ _ _ _ _ _)
   | (with_reducible exact LeO.refl _)
   | (with_reducible exact LeO.none _)
   | (with_reducible refine LeO.ite ?_ ?_)
   | (with_reducible refine LeO.bind ?_ (fun _ => ?_))
   | exact ih0 _ _ _ _ _ _
   | exact ih1 _ _ _ _ _ _ _ _ _ _ _ _
   | exact ih2 _ _ _ _ _ _ _ _ _ _ _ _ _ _ _ _ _ _ _ _ _ _ _ _ _ _ _
   | exact LeO.none _
   | refine LeO.ite ?_ ?_
   | refine LeO.bind ?_ (fun _ => ?_)
theorem strata_edges.mono : ∀ a0 a1 a2 k, LeO (strata_edges.f k a0 a1 a2) (strata_edges.f (k + 1) a0 a1 a2) := by
 intro a0 a1 a2 k
 obtain ⟨ih0, ih1, ih2⟩ := strata_edges.mono_l k
 unfold strata_edges.f
 repeat' first
   | (with_reducible exact ih0 _ _ _ _ _ _)
   | (with_reducible exact ih1 _ _ _ _ _ _ _ _ _ _ _ _)
   | (with_reducible exact ih2 _ _ _ _ _ _ _ _ _ _ _ _ _ _ _ _ _ _ _ _ _ _ _ _ _ _ _)
   | (with_reducible exact LeO.refl _)
   | (with_reducible exact LeO.none _)
   | (with_reducible refine LeO.ite ?_ ?_)
   | (with_reducible refine LeO.bind ?_ (fun _ => ?_))
   | exact ih0 _ _ _ _ _ _
   | exact ih1 _ _ _ _ _ _ _ _ _ _ _ _
   | exact ih2 _ _ _ _ _ _ _ _ _ _ _ _ _ _ _ _ _ _ _ _ _ _ _ _ _ _ _
   | exact LeO.none _
   | refine LeO.ite ?_ ?_
   | refine LeO.bind ?_ (fun _ => ?_)
def strata_edges.T10 : Bool × List (List Nat × List Nat) := (true, [([], []), ([], []), ([1], [1]), ([2], [2]), ([0, 3], [0, 3]), ([], []), ([], []), ([6], [6]), ([7], [7]), ([5, 8, 4], [5, 8]), ([4, 9], [4, 9]), ([], []), ([11, 10, 9, 0, 1, 2, 3, 4, 5, 6, 7, 8, 9, 10, 11], [10, 11])])
def strata_edges.B10 : List Nat := [0, 0, 2, 6, 15, 0, 0, 64, 192, 511, 1023, 0, 4095]
theorem strata_edges.tab10 : rtab .any (opsOf Try.f52 10) = strata_edges.T10 := by kernel_rfl
theorem strata_edges.bits10 : waitsOk strata_edges.T10.2 strata_edges.B10 = true := by kernel_rfl
set_option maxHeartbeats 8000000 in
set_option maxRecDepth 100000 in
theorem strata_edges.calls (k : Nat) (A0_0 : Option Addr) (c0_0 : Nat) (l0_0 : List (Decl)) (A0_1 : Option Addr) (c0_1 : Nat) (l0_1 : List (Rule)) (A1 : Option Addr) (c1 : Nat) (l1 : List ByteArray) (r1 : List (IPair)) (r2 : List (IPair)) (w : World) (hr0_0 : Kd.C k96 w A0_0 l0_0.length l0_0) (hc0_0 : l0_0.length ≤ c0_0) (hr0_1 : Kd.C k64 w A0_1 l0_1.length l0_1) (hc0_1 : l0_1.length ≤ c0_1) (hr1 : Kd.C Kd.string w A1 l1.length l1) (hc1 : l1.length ≤ c1) (h : strata_edges.f k l0_0 l0_1 l1 = some (r1, r2)) :
  Calls Try.prog 52 #[.agg #[.slice A0_0 l0_0.length c0_0, .slice A0_1 l0_1.length c0_1], .slice A1 l1.length c1] w fun e w' => ∃ v0_ v1_ : Value, e = .returned (.tuple #[v0_, v1_]) ∧ Kd.R k27 27 w' w.heap.size (fun k_ => some k_ ≠ (v1_ : Value).ownBlock) v0_ r1 ∧ Kd.R k27 27 w' w.heap.size (fun k_ => some k_ ≠ (v0_ : Value).ownBlock) v1_ r2 ∧ Below w.heap.size w w' := by
 have hu50 := Try.underlying50
 have hu64 := Try.underlying64
 have hu71 := Try.underlying71
 have hu27 := Try.underlying27
 have HR0_0 := am hr0_0
 have HC0_0 := am hc0_0
 clear hr0_0 hc0_0
 have HR0_1 := am hr0_1
 have HC0_1 := am hc0_1
 clear hr0_1 hc0_1
 have HR1 := am hr1
 have HC1 := am hc1
 clear hr1 hc1
 have HB := am (Below.refl w.heap.size w)
 have H : (strata_edges.l0 k ([] : List (IPair)) ([] : List (IPair)) l0_1 (l0_1.length : Int) 0 l1) = some (r1, r2) := h
 clear h
 have H' := am H
 clear H
 go_enter Try.func52, Try.ntmps52
 go_wp2_with (first | ((with_reducible refine gate_dst (N := 2) rfl ?_); refine box_event ?hg (N := 2) ?hd (cs := #[.slice A0_0 l0_0.length c0_0, .slice A0_1 l0_1.length c0_1]) (t := 50) ?hr ?_; (case hd => rfl); (case hg => rfl); (case hr => first | (go_simp; done) | (go_simp; rfl)); intro gb101 hg w3 hbox hb; have BK101 := am (hbox); have GW101 := am ((by rw [hg]; exact (below_size (by repeat (first | (with_reducible first | exact HB.out | apply lA | apply lN | apply lD) | exact HB.out))) : w.heap.size ≤ gb101)); have GE101 := am ((by rw [hg]; exact (below_size (by repeat (first | (with_reducible first | exact HB.out | apply lA | apply lN | apply lD) | exact HB.out))) : w.heap.size ≤ gb101)); replace HB := am (below_step (by repeat (first | (with_reducible first | exact HB.out | apply lA | apply lN | apply lD) | exact HB.out)) hb); clear hb hbox hg) | ((with_reducible refine gate_dst (N := 3) rfl ?_); refine box_event ?hg (N := 3) ?hd (cs := #[.slice A1 l1.length c1]) (t := 52) ?hr ?_; (case hd => rfl); (case hg => rfl); (case hr => first | (go_simp; done) | (go_simp; rfl)); intro gb102 hg w4 hbox hb; have BK102 := am (hbox); have GW102 := am ((by rw [hg]; exact (below_size (by repeat (first | (with_reducible first | exact HB.out | apply lA | apply lN | apply lD | refine lS ?_ GE101.out) | exact HB.out))) : w.heap.size ≤ gb102)); have GE102 := am ((by rw [hg]; exact (below_size (by repeat (first | (with_reducible first | exact HB.out | apply lA | apply lN | apply lD | refine lS ?_ GE101.out) | exact HB.out))) : w.heap.size ≤ gb102)); replace HB := am (below_step (by repeat (first | (with_reducible first | exact HB.out | apply lA | apply lN | apply lD | refine lS ?_ GE101.out) | exact HB.out)) hb); have NB101_102 := am ((by rw [hg]; exact Nat.ne_of_lt (blk_lt (g := gb101) (o := .cells #[.slice A0_0 l0_0.length c0_0, .slice A0_1 l0_1.length c0_1] 50 (0, 0)) (by (with_reducible repeat (first | refine bN ?_ _ | refine bD ?_ | refine bA ?_ _)); exact BK101.out)) : gb101 ≠ gb102)); have NB102_101 := am ((by rw [hg]; exact Nat.ne_of_gt (blk_lt (g := gb101) (o := .cells #[.slice A0_0 l0_0.length c0_0, .slice A0_1 l0_1.length c0_1] 50 (0, 0)) (by (with_reducible repeat (first | refine bN ?_ _ | refine bD ?_ | refine bA ?_ _)); exact BK101.out)) : gb102 ≠ gb101)); replace BK101 := am (blk_below (g := gb101) (o := .cells #[.slice A0_0 l0_0.length c0_0, .slice A0_1 l0_1.length c0_1] 50 (0, 0)) (by (with_reducible repeat (first | refine bN ?_ _ | refine bD ?_ | refine bA ?_ _)); exact BK101.out) hb); clear hb hbox hg; have hnb5 := NB101_102.out; have hnc5 := NB102_101.out; have hcz6_0 : w4.cell? ⟨gb101, 0, none⟩ = some (.slice A0_0 l0_0.length c0_0) := (blk_cell BK101.out 0).trans rfl; have hcz6_1 : w4.cell? ⟨gb101, 1, none⟩ = some (.slice A0_1 l0_1.length c0_1) := (blk_cell BK101.out 1).trans rfl; have hfz6_0 := blk_frozen BK101.out 0; have hfz6_1 := blk_frozen BK101.out 1))
 go_loopg [6, 7, 18] k (fun kq v6 v7 v18 w' => ∃ (x6_1 : List (IPair)) (x7_1 : List (IPair)) (x18_1 : Int), v18 = .int .i64 x18_1 ∧ Aside0 (strata_edges.l0 kq x6_1 x7_1 l0_1 (l0_1.length : Int) x18_1 l1 = some (r1, r2)) ∧ Aside0 (kq ≤ k) ∧ Aside0 (Kd.R k27 27 w' w.heap.size (fun k_ => some k_ ≠ (v7 : Value).ownBlock) v6 x6_1) ∧ Aside0 (Kd.R k27 27 w' w.heap.size (fun k_ => some k_ ≠ (v6 : Value).ownBlock) v7 x7_1) ∧ Aside0 (w'.heap[gb101]? = some (.cells #[(.slice A0_0 l0_0.length c0_0), (.slice A0_1 l0_1.length c0_1)] 50 (0, 0))) ∧ Aside0 (w'.heap[gb102]? = some (.cells #[(.slice A1 l1.length c1)] 52 (0, 0))) ∧ Aside0 (Below w.heap.size w w'))
 case atStart => exact ⟨(([] : List (IPair))), (([] : List (IPair))), (0), (by first | rfl | (simp; done) | (simp [*]; done)), H', ⟨Nat.le_refl _⟩, ⟨by first | exact Kd.R_nil _ _ _ _ _ | exact Kd.N_nil _ _ _ _ _ | exact Kd.V_nil _ _ _ _ _ | exact Kd.Q_nil _ _ _ _ _ | exact Kd.S_nil _ _ _ _ _⟩, ⟨by first | exact Kd.R_nil _ _ _ _ _ | exact Kd.N_nil _ _ _ _ _ | exact Kd.V_nil _ _ _ _ _ | exact Kd.Q_nil _ _ _ _ _ | exact Kd.S_nil _ _ _ _ _⟩, ⟨by (with_reducible repeat (first | refine bN ?_ _ | refine bD ?_ | refine bA ?_ _)); exact BK101.out⟩, ⟨by (with_reducible repeat (first | refine bN ?_ _ | refine bD ?_ | refine bA ?_ _)); exact BK102.out⟩, ⟨by repeat (first | (with_reducible first | exact HB.out | apply lA | apply lN | apply lD | refine lS ?_ GE101.out | refine lS ?_ GE102.out) | exact HB.out)⟩⟩
 case round =>
  clear H'
  try clear c1
  try clear p2
  try clear c5
  try clear hcz6_0
  try clear hcz6_1
  try clear hfz6_0
  try clear hfz6_1
  obtain ⟨x6_1, x7_1, x18_1, rfl, HA, HK1, HO_6, HO_7, BK101, BK102, HB⟩ := hrel
  cases gk with
  | zero => exact absurd HA.out (by simp [strata_edges.l0])
  | succ k1 =>
   have H := HA.out
   clear HA
   simp only [strata_edges.l0] at H
   by_cases c7 : x18_1 < (l0_1.length : Int)
   ·rw [if_pos c7] at H
    have c7b0 : decide (x18_1 < (l0_1.length : Int)) = true := decide_eq_true c7
    clear c7
    by_cases c8 : 0 ≤ x18_1
    ·rw [if_pos c8] at H
     have c8b0 : decide (0 ≤ x18_1) = true := decide_eq_true c8
     clear c8
     by_cases c9 : x18_1 < (l0_1.length : Int)
     ·rw [if_pos c9] at H
      have c9b0 : decide (x18_1 < (l0_1.length : Int)) = true := decide_eq_true c9
      clear c9
      have H' := am H
      clear H
      have p103 : 0 ≤ (x18_1 : Int) := of_decide_eq_true (by first | (with_reducible assumption) | assumption)
      have q103 : x18_1 < (l0_1.length : Int) := of_decide_eq_true (by first | (with_reducible assumption) | assumption)
      obtain ⟨ad103, A103_1, c103_1, A103_2, c103_2, e103, hx103_0, hx103_1, hx103_2, hl103_1, hi103_1, hl103_2, hi103_2⟩ := at_T64 HR0_1.out x18_1 p103 q103
      cases e103
      replace hx103_0 := (HB.out.cell (blt_ hx103_0)).trans hx103_0
      replace hx103_1 := (HB.out.cell (blt_ hx103_1)).trans hx103_1
      replace hx103_2 := (HB.out.cell (blt_ hx103_2)).trans hx103_2
      have HR103_1 := am hi103_1
      have HC103_1 := am hl103_1
      clear hi103_1 hl103_1
      have HR103_2 := am hi103_2
      have HC103_2 := am hl103_2
      clear hi103_2 hl103_2
      replace p103 := eq_true p103
      replace q103 := eq_true q103
      go_wp2_with (first | ((with_reducible refine gate_dst (N := 10) rfl ?_); refine box_event ?hg (N := 10) ?hd (cs := #[.string (⟨#[]⟩ : ByteArray), .slice none 0 0, .slice none 0 0]) (t := 64) ?hr ?_; (case hd => rfl); (case hg => rfl); (case hr => first | (go_simp; done) | (go_simp; rfl)); intro gb104 hg w10 hbox hb; replace HO_6 := am (Kd.R_below (by (with_reducible repeat (first | apply Ra | apply Rn | apply Rd)); exact HO_6.out) hb); replace HO_7 := am (Kd.R_below (by (with_reducible repeat (first | apply Ra | apply Rn | apply Rd)); exact HO_7.out) hb); have BK104 := am (hbox); have GW104 := am ((by rw [hg]; exact (below_size (by repeat (first | (with_reducible first | exact HB.out | apply lA | apply lN | apply lD | refine lS ?_ GE101.out | refine lS ?_ GE102.out) | exact HB.out))) : w.heap.size ≤ gb104)); have GE104 := am ((by rw [hg]; exact (below_size (by repeat (first | (with_reducible first | exact HB.out | apply lA | apply lN | apply lD | refine lS ?_ GE101.out | refine lS ?_ GE102.out) | exact HB.out))) : w.heap.size ≤ gb104)); replace HB := am (below_step (by repeat (first | (with_reducible first | exact HB.out | apply lA | apply lN | apply lD | refine lS ?_ GE101.out | refine lS ?_ GE102.out) | exact HB.out)) hb); have NB101_104 := am ((by rw [hg]; exact Nat.ne_of_lt (blk_lt (g := gb101) (o := .cells #[.slice A0_0 l0_0.length c0_0, .slice (some ad103) l0_1.length c0_1] 50 (0, 0)) (by (with_reducible repeat (first | refine bN ?_ _ | refine bD ?_ | refine bA ?_ _)); exact BK101.out)) : gb101 ≠ gb104)); have NB104_101 := am ((by rw [hg]; exact Nat.ne_of_gt (blk_lt (g := gb101) (o := .cells #[.slice A0_0 l0_0.length c0_0, .slice (some ad103) l0_1.length c0_1] 50 (0, 0)) (by (with_reducible repeat (first | refine bN ?_ _ | refine bD ?_ | refine bA ?_ _)); exact BK101.out)) : gb104 ≠ gb101)); replace BK101 := am (blk_below (g := gb101) (o := .cells #[.slice A0_0 l0_0.length c0_0, .slice (some ad103) l0_1.length c0_1] 50 (0, 0)) (by (with_reducible repeat (first | refine bN ?_ _ | refine bD ?_ | refine bA ?_ _)); exact BK101.out) hb); have NB102_104 := am ((by rw [hg]; exact Nat.ne_of_lt (blk_lt (g := gb102) (o := .cells #[.slice A1 l1.length c1] 52 (0, 0)) (by (with_reducible repeat (first | refine bN ?_ _ | refine bD ?_ | refine bA ?_ _)); exact BK102.out)) : gb102 ≠ gb104)); have NB104_102 := am ((by rw [hg]; exact Nat.ne_of_gt (blk_lt (g := gb102) (o := .cells #[.slice A1 l1.length c1] 52 (0, 0)) (by (with_reducible repeat (first | refine bN ?_ _ | refine bD ?_ | refine bA ?_ _)); exact BK102.out)) : gb104 ≠ gb102)); replace BK102 := am (blk_below (g := gb102) (o := .cells #[.slice A1 l1.length c1] 52 (0, 0)) (by (with_reducible repeat (first | refine bN ?_ _ | refine bD ?_ | refine bA ?_ _)); exact BK102.out) hb); clear hb hbox hg; have hnb11 := NB104_101.out; have hnc11 := NB101_104.out; have hnb12 := NB104_102.out; have hnc12 := NB102_104.out; have hcz13_0 : w10.cell? ⟨gb104, 0, none⟩ = some (.string (⟨#[]⟩ : ByteArray)) := (blk_cell BK104.out 0).trans rfl; have hcz13_1 : w10.cell? ⟨gb104, 1, none⟩ = some (.slice none 0 0) := (blk_cell BK104.out 1).trans rfl; have hcz13_2 : w10.cell? ⟨gb104, 2, none⟩ = some (.slice none 0 0) := (blk_cell BK104.out 2).trans rfl; have hfz13_0 := blk_frozen BK104.out 0; have hfz13_1 := blk_frozen BK104.out 1; have hfz13_2 := blk_frozen BK104.out 2))
      go_loopg [6, 7, 25] k1 (fun kq v6 v7 v25 w' => ∃ (x6_2 : List (IPair)) (x7_2 : List (IPair)) (x25_2 : Int), v25 = .int .i64 x25_2 ∧ Aside0 (strata_edges.l1 kq x6_2 x7_2 l0_1 (l0_1.length : Int) x18_1 ((rd_T64 l0_1 x18_1).body) (((rd_T64 l0_1 x18_1).body).length : Int) x25_2 l1 ((rd_T64 l0_1 x18_1).head.pred) ((rd_T64 l0_1 x18_1).head.args) ((rd_T64 l0_1 x18_1).body) = some (r1, r2)) ∧ Aside0 (kq ≤ k1) ∧ Aside0 (Kd.R k27 27 w' w.heap.size (fun k_ => some k_ ≠ (v7 : Value).ownBlock) v6 x6_2) ∧ Aside0 (Kd.R k27 27 w' w.heap.size (fun k_ => some k_ ≠ (v6 : Value).ownBlock) v7 x7_2) ∧ Aside0 (w'.heap[gb101]? = some (.cells #[(.slice A0_0 l0_0.length c0_0), (.slice (some ad103) l0_1.length c0_1)] 50 (0, 0))) ∧ Aside0 (w'.heap[gb102]? = some (.cells #[(.slice A1 l1.length c1)] 52 (0, 0))) ∧ Aside0 (w'.heap[gb104]? = some (.cells #[.string ((rd_T64 l0_1 x18_1).head.pred), (.slice A103_1 ((rd_T64 l0_1 x18_1).head.args).length c103_1), (.slice A103_2 ((rd_T64 l0_1 x18_1).body).length c103_2)] 64 (0, 0))) ∧ Aside0 (Below w.heap.size w w'))
      case atStart => exact ⟨(x6_1), (x7_1), (0), (by first | rfl | (simp; done) | (simp [*]; done)), H', ⟨Nat.le_refl _⟩, ⟨by (with_reducible repeat (first | apply Ra | apply Rn | apply Rd)); exact Kd.R_mono (Kd.R_far (p := ⟨gb104, 2, none⟩) (Kd.R_far (p := ⟨gb104, 1, none⟩) (Kd.R_far (p := ⟨gb104, 0, none⟩) (Kd.R_types HO_6.out BK104.out (by decide)) (fun _ hk => hk.2) _) (fun _ hk => hk.2) _) (fun _ hk => hk.2) _) (fun _ hk => hk.1)⟩, ⟨by (with_reducible repeat (first | apply Ra | apply Rn | apply Rd)); exact Kd.R_mono (Kd.R_far (p := ⟨gb104, 2, none⟩) (Kd.R_far (p := ⟨gb104, 1, none⟩) (Kd.R_far (p := ⟨gb104, 0, none⟩) (Kd.R_types HO_7.out BK104.out (by decide)) (fun _ hk => hk.2) _) (fun _ hk => hk.2) _) (fun _ hk => hk.2) _) (fun _ hk => hk.1)⟩, ⟨by repeat (first | (with_reducible first | exact BK101.out | refine bN ?_ _ | refine bD ?_ | refine bA ?_ _) | refine blk_far ?_ NB101_104.out _ | exact BK101.out)⟩, ⟨by repeat (first | (with_reducible first | exact BK102.out | refine bN ?_ _ | refine bD ?_ | refine bA ?_ _) | refine blk_far ?_ NB102_104.out _ | exact BK102.out)⟩, ⟨by (with_reducible repeat (first | refine bN ?_ _ | refine bD ?_ | refine bA ?_ _)); refine blk_put (cs := #[.string ((rd_T64 l0_1 x18_1).head.pred), .slice A103_1 ((rd_T64 l0_1 x18_1).head.args).length c103_1, .slice none 0 0]) ?_ 2 _ rfl; (with_reducible repeat (first | refine bN ?_ _ | refine bD ?_ | refine bA ?_ _)); refine blk_put (cs := #[.string ((rd_T64 l0_1 x18_1).head.pred), .slice none 0 0, .slice none 0 0]) ?_ 1 _ rfl; (with_reducible repeat (first | refine bN ?_ _ | refine bD ?_ | refine bA ?_ _)); refine blk_put (cs := #[.string (⟨#[]⟩ : ByteArray), .slice none 0 0, .slice none 0 0]) ?_ 0 _ rfl; (with_reducible repeat (first | refine bN ?_ _ | refine bD ?_ | refine bA ?_ _)); exact BK104.out⟩, ⟨by repeat (first | (with_reducible first | exact HB.out | apply lA | apply lN | apply lD | refine lS ?_ GE101.out | refine lS ?_ GE102.out | refine lS ?_ GE104.out) | exact HB.out)⟩⟩
      case round =>
       clear H'
       try clear c1
       try clear p1
       try clear q1
       try clear hx1
       try clear p2
       try clear c5
       try clear c7
       try clear c7b0
       try clear c8
       try clear c8b0
       try clear c9
       try clear c9b0
       try clear c10
       try clear p10
       try clear q10
       try clear hx10
       try clear c11
       try clear c12
       try clear hcz13_0
       try clear hcz13_1
       try clear hcz13_2
       try clear hcz6_0
       try clear hcz6_1
       try clear hfz13_0
       try clear hfz13_1
       try clear hfz13_2
       try clear hfz6_0
       try clear hfz6_1
       try clear hx103_0
       try clear hx103_1
       try clear hx103_2
       try clear p103
       try clear p2
       try clear q103
       obtain ⟨x6_2, x7_2, x25_2, rfl, HA, HK2, HO_6, HO_7, BK101, BK102, BK104, HB⟩ := hrel
       cases gk with
       | zero => exact absurd HA.out (by simp [strata_edges.l1])
       | succ k2 =>
        have H := HA.out
        clear HA
        simp only [strata_edges.l1] at H
        by_cases c14 : x25_2 < (((rd_T64 l0_1 x18_1).body).length : Int)
        ·rw [if_pos c14] at H
         have c14b0 : decide (x25_2 < (((rd_T64 l0_1 x18_1).body).length : Int)) = true := decide_eq_true c14
         clear c14
         by_cases c15 : 0 ≤ x25_2
         ·rw [if_pos c15] at H
          have c15b0 : decide (0 ≤ x25_2) = true := decide_eq_true c15
          clear c15
          by_cases c16 : x25_2 < (((rd_T64 l0_1 x18_1).body).length : Int)
          ·rw [if_pos c16] at H
           have c16b0 : decide (x25_2 < (((rd_T64 l0_1 x18_1).body).length : Int)) = true := decide_eq_true c16
           clear c16
           have HC17 := am H
           clear H
           have p105 : 0 ≤ (x25_2 : Int) := of_decide_eq_true (by first | (with_reducible assumption) | assumption)
           have q105 : x25_2 < (((rd_T64 l0_1 x18_1).body).length : Int) := of_decide_eq_true (by first | (with_reducible assumption) | assumption)
           obtain ⟨ad105, A105_2, c105_2, e105, hx105_0, hx105_1, hx105_2, hx105_3, hx105_4, hx105_5, hx105_6, hx105_7, hx105_8, hx105_9, hx105_10, hx105_11, hx105_12, hx105_13, hl105_2, hi105_2⟩ := at_T71 HR103_2.out x25_2 p105 q105
           cases e105
           replace hx105_0 := (HB.out.cell (blt_ hx105_0)).trans hx105_0
           replace hx105_1 := (HB.out.cell (blt_ hx105_1)).trans hx105_1
           replace hx105_2 := (HB.out.cell (blt_ hx105_2)).trans hx105_2
           replace hx105_3 := (HB.out.cell (blt_ hx105_3)).trans hx105_3
           replace hx105_4 := (HB.out.cell (blt_ hx105_4)).trans hx105_4
           replace hx105_5 := (HB.out.cell (blt_ hx105_5)).trans hx105_5
           replace hx105_6 := (HB.out.cell (blt_ hx105_6)).trans hx105_6
           replace hx105_7 := (HB.out.cell (blt_ hx105_7)).trans hx105_7
           replace hx105_8 := (HB.out.cell (blt_ hx105_8)).trans hx105_8
           replace hx105_9 := (HB.out.cell (blt_ hx105_9)).trans hx105_9
           replace hx105_10 := (HB.out.cell (blt_ hx105_10)).trans hx105_10
           replace hx105_11 := (HB.out.cell (blt_ hx105_11)).trans hx105_11
           replace hx105_12 := (HB.out.cell (blt_ hx105_12)).trans hx105_12
           replace hx105_13 := (HB.out.cell (blt_ hx105_13)).trans hx105_13
           have HR105_2 := am hi105_2
           have HC105_2 := am hl105_2
           clear hi105_2 hl105_2
           replace p105 := eq_true p105
           replace q105 := eq_true q105
           go_upto_region 9 with (first | ((with_reducible refine gate_dst (N := 12) rfl ?_); refine box_event ?hg (N := 12) ?hd (cs := #[.int .i64 0, .string (⟨#[]⟩ : ByteArray), .slice none 0 0, .string (⟨#[]⟩ : ByteArray), .bool false, .string (⟨#[]⟩ : ByteArray), .bool false, .string (⟨#[]⟩ : ByteArray), .int .i64 0, .bool false, .string (⟨#[]⟩ : ByteArray), .bool false, .string (⟨#[]⟩ : ByteArray), .int .i64 0]) (t := 71) ?hr ?_; (case hd => rfl); (case hg => rfl); (case hr => first | (go_simp; done) | (go_simp; rfl)); intro gb106 hg w18 hbox hb; replace HO_6 := am (Kd.R_below (by (with_reducible repeat (first | apply Ra | apply Rn | apply Rd)); exact HO_6.out) hb); replace HO_7 := am (Kd.R_below (by (with_reducible repeat (first | apply Ra | apply Rn | apply Rd)); exact HO_7.out) hb); have BK106 := am (hbox); have GW106 := am ((by rw [hg]; exact (below_size (by repeat (first | (with_reducible first | exact HB.out | apply lA | apply lN | apply lD | refine lS ?_ GE101.out | refine lS ?_ GE102.out | refine lS ?_ GE104.out) | exact HB.out))) : w.heap.size ≤ gb106)); have GE106 := am ((by rw [hg]; exact (below_size (by repeat (first | (with_reducible first | exact HB.out | apply lA | apply lN | apply lD | refine lS ?_ GE101.out | refine lS ?_ GE102.out | refine lS ?_ GE104.out) | exact HB.out))) : w.heap.size ≤ gb106)); replace HB := am (below_step (by repeat (first | (with_reducible first | exact HB.out | apply lA | apply lN | apply lD | refine lS ?_ GE101.out | refine lS ?_ GE102.out | refine lS ?_ GE104.out) | exact HB.out)) hb); have NB101_106 := am ((by rw [hg]; exact Nat.ne_of_lt (blk_lt (g := gb101) (o := .cells #[.slice A0_0 l0_0.length c0_0, .slice (some ad103) l0_1.length c0_1] 50 (0, 0)) (by (with_reducible repeat (first | refine bN ?_ _ | refine bD ?_ | refine bA ?_ _)); exact BK101.out)) : gb101 ≠ gb106)); have NB106_101 := am ((by rw [hg]; exact Nat.ne_of_gt (blk_lt (g := gb101) (o := .cells #[.slice A0_0 l0_0.length c0_0, .slice (some ad103) l0_1.length c0_1] 50 (0, 0)) (by (with_reducible repeat (first | refine bN ?_ _ | refine bD ?_ | refine bA ?_ _)); exact BK101.out)) : gb106 ≠ gb101)); replace BK101 := am (blk_below (g := gb101) (o := .cells #[.slice A0_0 l0_0.length c0_0, .slice (some ad103) l0_1.length c0_1] 50 (0, 0)) (by (with_reducible repeat (first | refine bN ?_ _ | refine bD ?_ | refine bA ?_ _)); exact BK101.out) hb); have NB102_106 := am ((by rw [hg]; exact Nat.ne_of_lt (blk_lt (g := gb102) (o := .cells #[.slice A1 l1.length c1] 52 (0, 0)) (by (with_reducible repeat (first | refine bN ?_ _ | refine bD ?_ | refine bA ?_ _)); exact BK102.out)) : gb102 ≠ gb106)); have NB106_102 := am ((by rw [hg]; exact Nat.ne_of_gt (blk_lt (g := gb102) (o := .cells #[.slice A1 l1.length c1] 52 (0, 0)) (by (with_reducible repeat (first | refine bN ?_ _ | refine bD ?_ | refine bA ?_ _)); exact BK102.out)) : gb106 ≠ gb102)); replace BK102 := am (blk_below (g := gb102) (o := .cells #[.slice A1 l1.length c1] 52 (0, 0)) (by (with_reducible repeat (first | refine bN ?_ _ | refine bD ?_ | refine bA ?_ _)); exact BK102.out) hb); have NB104_106 := am ((by rw [hg]; exact Nat.ne_of_lt (blk_lt (g := gb104) (o := .cells #[.string ((rd_T64 l0_1 x18_1).head.pred), .slice A103_1 ((rd_T64 l0_1 x18_1).head.args).length c103_1, .slice (some ad105) ((rd_T64 l0_1 x18_1).body).length c103_2] 64 (0, 0)) (by (with_reducible repeat (first | refine bN ?_ _ | refine bD ?_ | refine bA ?_ _)); exact BK104.out)) : gb104 ≠ gb106)); have NB106_104 := am ((by rw [hg]; exact Nat.ne_of_gt (blk_lt (g := gb104) (o := .cells #[.string ((rd_T64 l0_1 x18_1).head.pred), .slice A103_1 ((rd_T64 l0_1 x18_1).head.args).length c103_1, .slice (some ad105) ((rd_T64 l0_1 x18_1).body).length c103_2] 64 (0, 0)) (by (with_reducible repeat (first | refine bN ?_ _ | refine bD ?_ | refine bA ?_ _)); exact BK104.out)) : gb106 ≠ gb104)); replace BK104 := am (blk_below (g := gb104) (o := .cells #[.string ((rd_T64 l0_1 x18_1).head.pred), .slice A103_1 ((rd_T64 l0_1 x18_1).head.args).length c103_1, .slice (some ad105) ((rd_T64 l0_1 x18_1).body).length c103_2] 64 (0, 0)) (by (with_reducible repeat (first | refine bN ?_ _ | refine bD ?_ | refine bA ?_ _)); exact BK104.out) hb); clear hb hbox hg; have hnb19 := NB106_101.out; have hnc19 := NB101_106.out; have hnb20 := NB106_102.out; have hnc20 := NB102_106.out; have hnb21 := NB106_104.out; have hnc21 := NB104_106.out; have hcz22_0 : w18.cell? ⟨gb106, 0, none⟩ = some (.int .i64 0) := (blk_cell BK106.out 0).trans rfl; have hcz22_1 : w18.cell? ⟨gb106, 1, none⟩ = some (.string (⟨#[]⟩ : ByteArray)) := (blk_cell BK106.out 1).trans rfl; have hcz22_2 : w18.cell? ⟨gb106, 2, none⟩ = some (.slice none 0 0) := (blk_cell BK106.out 2).trans rfl; have hcz22_3 : w18.cell? ⟨gb106, 3, none⟩ = some (.string (⟨#[]⟩ : ByteArray)) := (blk_cell BK106.out 3).trans rfl; have hcz22_4 : w18.cell? ⟨gb106, 4, none⟩ = some (.bool false) := (blk_cell BK106.out 4).trans rfl; have hcz22_5 : w18.cell? ⟨gb106, 5, none⟩ = some (.string (⟨#[]⟩ : ByteArray)) := (blk_cell BK106.out 5).trans rfl; have hcz22_6 : w18.cell? ⟨gb106, 6, none⟩ = some (.bool false) := (blk_cell BK106.out 6).trans rfl; have hcz22_7 : w18.cell? ⟨gb106, 7, none⟩ = some (.string (⟨#[]⟩ : ByteArray)) := (blk_cell BK106.out 7).trans rfl; have hcz22_8 : w18.cell? ⟨gb106, 8, none⟩ = some (.int .i64 0) := (blk_cell BK106.out 8).trans rfl; have hcz22_9 : w18.cell? ⟨gb106, 9, none⟩ = some (.bool false) := (blk_cell BK106.out 9).trans rfl; have hcz22_10 : w18.cell? ⟨gb106, 10, none⟩ = some (.string (⟨#[]⟩ : ByteArray)) := (blk_cell BK106.out 10).trans rfl; have hcz22_11 : w18.cell? ⟨gb106, 11, none⟩ = some (.bool false) := (blk_cell BK106.out 11).trans rfl; have hcz22_12 : w18.cell? ⟨gb106, 12, none⟩ = some (.string (⟨#[]⟩ : ByteArray)) := (blk_cell BK106.out 12).trans rfl; have hcz22_13 : w18.cell? ⟨gb106, 13, none⟩ = some (.int .i64 0) := (blk_cell BK106.out 13).trans rfl; have hfz22_0 := blk_frozen BK106.out 0; have hfz22_1 := blk_frozen BK106.out 1; have hfz22_2 := blk_frozen BK106.out 2; have hfz22_3 := blk_frozen BK106.out 3; have hfz22_4 := blk_frozen BK106.out 4; have hfz22_5 := blk_frozen BK106.out 5; have hfz22_6 := blk_frozen BK106.out 6; have hfz22_7 := blk_frozen BK106.out 7; have hfz22_8 := blk_frozen BK106.out 8; have hfz22_9 := blk_frozen BK106.out 9; have hfz22_10 := blk_frozen BK106.out 10; have hfz22_11 := blk_frozen BK106.out 11; have hfz22_12 := blk_frozen BK106.out 12; have hfz22_13 := blk_frozen BK106.out 13))
           (try simp only [Act.put, List.setIfInBounds_toArray, List.set_cons_zero, List.set_cons_succ])
           go_cut [36] (fun v36 wc => ∃ (kq : Nat) (x36_16 : Bool), v36 = .bool x36_16 ∧ Aside0 (strata_edges.j2 kq x6_2 x7_2 l0_1 (l0_1.length : Int) x18_1 ((rd_T64 l0_1 x18_1).body) (((rd_T64 l0_1 x18_1).body).length : Int) x25_2 x36_16 l1 ((rd_T64 l0_1 x18_1).head.pred) ((rd_T64 l0_1 x18_1).head.args) ((rd_T64 l0_1 x18_1).body) ((rd_T71 ((rd_T64 l0_1 x18_1).body) x25_2).kind) ((rd_T71 ((rd_T64 l0_1 x18_1).body) x25_2).atom.pred) ((rd_T71 ((rd_T64 l0_1 x18_1).body) x25_2).atom.args) ((rd_T71 ((rd_T64 l0_1 x18_1).body) x25_2).op) ((rd_T71 ((rd_T64 l0_1 x18_1).body) x25_2).l.isVar) ((rd_T71 ((rd_T64 l0_1 x18_1).body) x25_2).l.name) ((rd_T71 ((rd_T64 l0_1 x18_1).body) x25_2).l.val.isSym) ((rd_T71 ((rd_T64 l0_1 x18_1).body) x25_2).l.val.sym) ((rd_T71 ((rd_T64 l0_1 x18_1).body) x25_2).l.val.n) ((rd_T71 ((rd_T64 l0_1 x18_1).body) x25_2).r.isVar) ((rd_T71 ((rd_T64 l0_1 x18_1).body) x25_2).r.name) ((rd_T71 ((rd_T64 l0_1 x18_1).body) x25_2).r.val.isSym) ((rd_T71 ((rd_T64 l0_1 x18_1).body) x25_2).r.val.sym) ((rd_T71 ((rd_T64 l0_1 x18_1).body) x25_2).r.val.n) = some (r1, r2)) ∧ Aside0 (kq ≤ k2) ∧ Aside0 (Kd.R k27 27 wc w.heap.size (fun k_ => some k_ ≠ (u7 : Value).ownBlock) u6 x6_2) ∧ Aside0 (Kd.R k27 27 wc w.heap.size (fun k_ => some k_ ≠ (u6 : Value).ownBlock) u7 x7_2) ∧ Aside0 (wc.heap[gb101]? = some (.cells #[(.slice A0_0 l0_0.length c0_0), (.slice (some ad103) l0_1.length c0_1)] 50 (0, 0))) ∧ Aside0 (wc.heap[gb102]? = some (.cells #[(.slice A1 l1.length c1)] 52 (0, 0))) ∧ Aside0 (wc.heap[gb104]? = some (.cells #[.string ((rd_T64 l0_1 x18_1).head.pred), (.slice A103_1 ((rd_T64 l0_1 x18_1).head.args).length c103_1), (.slice (some ad105) ((rd_T64 l0_1 x18_1).body).length c103_2)] 64 (0, 0))) ∧ Aside0 (wc.heap[gb106]? = some (.cells #[.int .i64 ((rd_T71 ((rd_T64 l0_1 x18_1).body) x25_2).kind), .string ((rd_T71 ((rd_T64 l0_1 x18_1).body) x25_2).atom.pred), (.slice A105_2 ((rd_T71 ((rd_T64 l0_1 x18_1).body) x25_2).atom.args).length c105_2), .string ((rd_T71 ((rd_T64 l0_1 x18_1).body) x25_2).op), .bool ((rd_T71 ((rd_T64 l0_1 x18_1).body) x25_2).l.isVar), .string ((rd_T71 ((rd_T64 l0_1 x18_1).body) x25_2).l.name), .bool ((rd_T71 ((rd_T64 l0_1 x18_1).body) x25_2).l.val.isSym), .string ((rd_T71 ((rd_T64 l0_1 x18_1).body) x25_2).l.val.sym), .int .i64 ((rd_T71 ((rd_T64 l0_1 x18_1).body) x25_2).l.val.n), .bool ((rd_T71 ((rd_T64 l0_1 x18_1).body) x25_2).r.isVar), .string ((rd_T71 ((rd_T64 l0_1 x18_1).body) x25_2).r.name), .bool ((rd_T71 ((rd_T64 l0_1 x18_1).body) x25_2).r.val.isSym), .string ((rd_T71 ((rd_T64 l0_1 x18_1).body) x25_2).r.val.sym), .int .i64 ((rd_T71 ((rd_T64 l0_1 x18_1).body) x25_2).r.val.n)] 71 (0, 0))) ∧ Aside0 (Below w.heap.size w wc))
           case first =>
            have H := HC17.out
            clear HC17
            by_cases c23 : ((rd_T71 ((rd_T64 l0_1 x18_1).body) x25_2).kind) = 1
            ·rw [if_pos c23] at H
             have c23b0 : (((rd_T71 ((rd_T64 l0_1 x18_1).body) x25_2).kind) == 1) = true := beq_iff_eq.mpr c23
             have c23b1 : (((rd_T71 ((rd_T64 l0_1 x18_1).body) x25_2).kind) != 1) = false := bne_eq_false_iff_eq.mpr c23
             clear c23
             (first | rw [c23b0] | (simp only [i64_w, i32_w]; rw [c23b0]) | skip)
             have H' := am H
             clear H
             have hnb24 := NB106_101.out
             have hnc24 := NB101_106.out
             have hnb25 := NB106_102.out
             have hnc25 := NB102_106.out
             have hnb26 := NB106_104.out
             have hnc26 := NB104_106.out
             have hcz27_0 : w18.cell? ⟨gb106, 0, none⟩ = some (.int .i64 0) := (blk_cell BK106.out 0).trans rfl
             have hcz27_1 : w18.cell? ⟨gb106, 1, none⟩ = some (.string (⟨#[]⟩ : ByteArray)) := (blk_cell BK106.out 1).trans rfl
             have hcz27_2 : w18.cell? ⟨gb106, 2, none⟩ = some (.slice none 0 0) := (blk_cell BK106.out 2).trans rfl
             have hcz27_3 : w18.cell? ⟨gb106, 3, none⟩ = some (.string (⟨#[]⟩ : ByteArray)) := (blk_cell BK106.out 3).trans rfl
             have hcz27_4 : w18.cell? ⟨gb106, 4, none⟩ = some (.bool false) := (blk_cell BK106.out 4).trans rfl
             have hcz27_5 : w18.cell? ⟨gb106, 5, none⟩ = some (.string (⟨#[]⟩ : ByteArray)) := (blk_cell BK106.out 5).trans rfl
             have hcz27_6 : w18.cell? ⟨gb106, 6, none⟩ = some (.bool false) := (blk_cell BK106.out 6).trans rfl
             have hcz27_7 : w18.cell? ⟨gb106, 7, none⟩ = some (.string (⟨#[]⟩ : ByteArray)) := (blk_cell BK106.out 7).trans rfl
             have hcz27_8 : w18.cell? ⟨gb106, 8, none⟩ = some (.int .i64 0) := (blk_cell BK106.out 8).trans rfl
             have hcz27_9 : w18.cell? ⟨gb106, 9, none⟩ = some (.bool false) := (blk_cell BK106.out 9).trans rfl
             have hcz27_10 : w18.cell? ⟨gb106, 10, none⟩ = some (.string (⟨#[]⟩ : ByteArray)) := (blk_cell BK106.out 10).trans rfl
             have hcz27_11 : w18.cell? ⟨gb106, 11, none⟩ = some (.bool false) := (blk_cell BK106.out 11).trans rfl
             have hcz27_12 : w18.cell? ⟨gb106, 12, none⟩ = some (.string (⟨#[]⟩ : ByteArray)) := (blk_cell BK106.out 12).trans rfl
             have hcz27_13 : w18.cell? ⟨gb106, 13, none⟩ = some (.int .i64 0) := (blk_cell BK106.out 13).trans rfl
             have hfz27_0 := blk_frozen BK106.out 0
             have hfz27_1 := blk_frozen BK106.out 1
             have hfz27_2 := blk_frozen BK106.out 2
             have hfz27_3 := blk_frozen BK106.out 3
             have hfz27_4 := blk_frozen BK106.out 4
             have hfz27_5 := blk_frozen BK106.out 5
             have hfz27_6 := blk_frozen BK106.out 6
             have hfz27_7 := blk_frozen BK106.out 7
             have hfz27_8 := blk_frozen BK106.out 8
             have hfz27_9 := blk_frozen BK106.out 9
             have hfz27_10 := blk_frozen BK106.out 10
             have hfz27_11 := blk_frozen BK106.out 11
             have hfz27_12 := blk_frozen BK106.out 12
             have hfz27_13 := blk_frozen BK106.out 13
             go_wp2
             go_meet
             case rel => exact ⟨_, (false), (by first | rfl | (simp; done) | (simp [*]; done)), H', ⟨by have := HK1.out; have := HK2.out; first | omega | exact Nat.le_refl _⟩, ⟨by (with_reducible repeat (first | apply Ra | apply Rn | apply Rd)); exact Kd.R_mono (Kd.R_far (p := ⟨gb106, 13, none⟩) (Kd.R_far (p := ⟨gb106, 12, none⟩) (Kd.R_far (p := ⟨gb106, 11, none⟩) (Kd.R_far (p := ⟨gb106, 10, none⟩) (Kd.R_far (p := ⟨gb106, 9, none⟩) (Kd.R_far (p := ⟨gb106, 8, none⟩) (Kd.R_far (p := ⟨gb106, 7, none⟩) (Kd.R_far (p := ⟨gb106, 6, none⟩) (Kd.R_far (p := ⟨gb106, 5, none⟩) (Kd.R_far (p := ⟨gb106, 4, none⟩) (Kd.R_far (p := ⟨gb106, 3, none⟩) (Kd.R_far (p := ⟨gb106, 2, none⟩) (Kd.R_far (p := ⟨gb106, 1, none⟩) (Kd.R_far (p := ⟨gb106, 0, none⟩) (Kd.R_types HO_6.out BK106.out (by decide)) (fun _ hk => hk.2) _) (fun _ hk => hk.2) _) (fun _ hk => hk.2) _) (fun _ hk => hk.2) _) (fun _ hk => hk.2) _) (fun _ hk => hk.2) _) (fun _ hk => hk.2) _) (fun _ hk => hk.2) _) (fun _ hk => hk.2) _) (fun _ hk => hk.2) _) (fun _ hk => hk.2) _) (fun _ hk => hk.2) _) (fun _ hk => hk.2) _) (fun _ hk => hk.2) _) (fun _ hk => hk.1)⟩, ⟨by (with_reducible repeat (first | apply Ra | apply Rn | apply Rd)); exact Kd.R_mono (Kd.R_far (p := ⟨gb106, 13, none⟩) (Kd.R_far (p := ⟨gb106, 12, none⟩) (Kd.R_far (p := ⟨gb106, 11, none⟩) (Kd.R_far (p := ⟨gb106, 10, none⟩) (Kd.R_far (p := ⟨gb106, 9, none⟩) (Kd.R_far (p := ⟨gb106, 8, none⟩) (Kd.R_far (p := ⟨gb106, 7, none⟩) (Kd.R_far (p := ⟨gb106, 6, none⟩) (Kd.R_far (p := ⟨gb106, 5, none⟩) (Kd.R_far (p := ⟨gb106, 4, none⟩) (Kd.R_far (p := ⟨gb106, 3, none⟩) (Kd.R_far (p := ⟨gb106, 2, none⟩) (Kd.R_far (p := ⟨gb106, 1, none⟩) (Kd.R_far (p := ⟨gb106, 0, none⟩) (Kd.R_types HO_7.out BK106.out (by decide)) (fun _ hk => hk.2) _) (fun _ hk => hk.2) _) (fun _ hk => hk.2) _) (fun _ hk => hk.2) _) (fun _ hk => hk.2) _) (fun _ hk => hk.2) _) (fun _ hk => hk.2) _) (fun _ hk => hk.2) _) (fun _ hk => hk.2) _) (fun _ hk => hk.2) _) (fun _ hk => hk.2) _) (fun _ hk => hk.2) _) (fun _ hk => hk.2) _) (fun _ hk => hk.2) _) (fun _ hk => hk.1)⟩, ⟨by repeat (first | (with_reducible first | exact BK101.out | refine bN ?_ _ | refine bD ?_ | refine bA ?_ _) | refine blk_far ?_ NB101_106.out _ | exact BK101.out)⟩, ⟨by repeat (first | (with_reducible first | exact BK102.out | refine bN ?_ _ | refine bD ?_ | refine bA ?_ _) | refine blk_far ?_ NB102_106.out _ | exact BK102.out)⟩, ⟨by repeat (first | (with_reducible first | exact BK104.out | refine bN ?_ _ | refine bD ?_ | refine bA ?_ _) | refine blk_far ?_ NB104_106.out _ | exact BK104.out)⟩, ⟨by (with_reducible repeat (first | refine bN ?_ _ | refine bD ?_ | refine bA ?_ _)); refine blk_put (cs := #[.int .i64 ((rd_T71 ((rd_T64 l0_1 x18_1).body) x25_2).kind), .string ((rd_T71 ((rd_T64 l0_1 x18_1).body) x25_2).atom.pred), .slice A105_2 ((rd_T71 ((rd_T64 l0_1 x18_1).body) x25_2).atom.args).length c105_2, .string ((rd_T71 ((rd_T64 l0_1 x18_1).body) x25_2).op), .bool ((rd_T71 ((rd_T64 l0_1 x18_1).body) x25_2).l.isVar), .string ((rd_T71 ((rd_T64 l0_1 x18_1).body) x25_2).l.name), .bool ((rd_T71 ((rd_T64 l0_1 x18_1).body) x25_2).l.val.isSym), .string ((rd_T71 ((rd_T64 l0_1 x18_1).body) x25_2).l.val.sym), .int .i64 ((rd_T71 ((rd_T64 l0_1 x18_1).body) x25_2).l.val.n), .bool ((rd_T71 ((rd_T64 l0_1 x18_1).body) x25_2).r.isVar), .string ((rd_T71 ((rd_T64 l0_1 x18_1).body) x25_2).r.name), .bool ((rd_T71 ((rd_T64 l0_1 x18_1).body) x25_2).r.val.isSym), .string ((rd_T71 ((rd_T64 l0_1 x18_1).body) x25_2).r.val.sym), .int .i64 0]) ?_ 13 _ rfl; (with_reducible repeat (first | refine bN ?_ _ | refine bD ?_ | refine bA ?_ _)); refine blk_put (cs := #[.int .i64 ((rd_T71 ((rd_T64 l0_1 x18_1).body) x25_2).kind), .string ((rd_T71 ((rd_T64 l0_1 x18_1).body) x25_2).atom.pred), .slice A105_2 ((rd_T71 ((rd_T64 l0_1 x18_1).body) x25_2).atom.args).length c105_2, .string ((rd_T71 ((rd_T64 l0_1 x18_1).body) x25_2).op), .bool ((rd_T71 ((rd_T64 l0_1 x18_1).body) x25_2).l.isVar), .string ((rd_T71 ((rd_T64 l0_1 x18_1).body) x25_2).l.name), .bool ((rd_T71 ((rd_T64 l0_1 x18_1).body) x25_2).l.val.isSym), .string ((rd_T71 ((rd_T64 l0_1 x18_1).body) x25_2).l.val.sym), .int .i64 ((rd_T71 ((rd_T64 l0_1 x18_1).body) x25_2).l.val.n), .bool ((rd_T71 ((rd_T64 l0_1 x18_1).body) x25_2).r.isVar), .string ((rd_T71 ((rd_T64 l0_1 x18_1).body) x25_2).r.name), .bool ((rd_T71 ((rd_T64 l0_1 x18_1).body) x25_2).r.val.isSym), .string (⟨#[]⟩ : ByteArray), .int .i64 0]) ?_ 12 _ rfl; (with_reducible repeat (first | refine bN ?_ _ | refine bD ?_ | refine bA ?_ _)); refine blk_put (cs := #[.int .i64 ((rd_T71 ((rd_T64 l0_1 x18_1).body) x25_2).kind), .string ((rd_T71 ((rd_T64 l0_1 x18_1).body) x25_2).atom.pred), .slice A105_2 ((rd_T71 ((rd_T64 l0_1 x18_1).body) x25_2).atom.args).length c105_2, .string ((rd_T71 ((rd_T64 l0_1 x18_1).body) x25_2).op), .bool ((rd_T71 ((rd_T64 l0_1 x18_1).body) x25_2).l.isVar), .string ((rd_T71 ((rd_T64 l0_1 x18_1).body) x25_2).l.name), .bool ((rd_T71 ((rd_T64 l0_1 x18_1).body) x25_2).l.val.isSym), .string ((rd_T71 ((rd_T64 l0_1 x18_1).body) x25_2).l.val.sym), .int .i64 ((rd_T71 ((rd_T64 l0_1 x18_1).body) x25_2).l.val.n), .bool ((rd_T71 ((rd_T64 l0_1 x18_1).body) x25_2).r.isVar), .string ((rd_T71 ((rd_T64 l0_1 x18_1).body) x25_2).r.name), .bool false, .string (⟨#[]⟩ : ByteArray), .int .i64 0]) ?_ 11 _ rfl; (with_reducible repeat (first | refine bN ?_ _ | refine bD ?_ | refine bA ?_ _)); refine blk_put (cs := #[.int .i64 ((rd_T71 ((rd_T64 l0_1 x18_1).body) x25_2).kind), .string ((rd_T71 ((rd_T64 l0_1 x18_1).body) x25_2).atom.pred), .slice A105_2 ((rd_T71 ((rd_T64 l0_1 x18_1).body) x25_2).atom.args).length c105_2, .string ((rd_T71 ((rd_T64 l0_1 x18_1).body) x25_2).op), .bool ((rd_T71 ((rd_T64 l0_1 x18_1).body) x25_2).l.isVar), .string ((rd_T71 ((rd_T64 l0_1 x18_1).body) x25_2).l.name), .bool ((rd_T71 ((rd_T64 l0_1 x18_1).body) x25_2).l.val.isSym), .string ((rd_T71 ((rd_T64 l0_1 x18_1).body) x25_2).l.val.sym), .int .i64 ((rd_T71 ((rd_T64 l0_1 x18_1).body) x25_2).l.val.n), .bool ((rd_T71 ((rd_T64 l0_1 x18_1).body) x25_2).r.isVar), .string (⟨#[]⟩ : ByteArray), .bool false, .string (⟨#[]⟩ : ByteArray), .int .i64 0]) ?_ 10 _ rfl; (with_reducible repeat (first | refine bN ?_ _ | refine bD ?_ | refine bA ?_ _)); refine blk_put (cs := #[.int .i64 ((rd_T71 ((rd_T64 l0_1 x18_1).body) x25_2).kind), .string ((rd_T71 ((rd_T64 l0_1 x18_1).body) x25_2).atom.pred), .slice A105_2 ((rd_T71 ((rd_T64 l0_1 x18_1).body) x25_2).atom.args).length c105_2, .string ((rd_T71 ((rd_T64 l0_1 x18_1).body) x25_2).op), .bool ((rd_T71 ((rd_T64 l0_1 x18_1).body) x25_2).l.isVar), .string ((rd_T71 ((rd_T64 l0_1 x18_1).body) x25_2).l.name), .bool ((rd_T71 ((rd_T64 l0_1 x18_1).body) x25_2).l.val.isSym), .string ((rd_T71 ((rd_T64 l0_1 x18_1).body) x25_2).l.val.sym), .int .i64 ((rd_T71 ((rd_T64 l0_1 x18_1).body) x25_2).l.val.n), .bool false, .string (⟨#[]⟩ : ByteArray), .bool false, .string (⟨#[]⟩ : ByteArray), .int .i64 0]) ?_ 9 _ rfl; (with_reducible repeat (first | refine bN ?_ _ | refine bD ?_ | refine bA ?_ _)); refine blk_put (cs := #[.int .i64 ((rd_T71 ((rd_T64 l0_1 x18_1).body) x25_2).kind), .string ((rd_T71 ((rd_T64 l0_1 x18_1).body) x25_2).atom.pred), .slice A105_2 ((rd_T71 ((rd_T64 l0_1 x18_1).body) x25_2).atom.args).length c105_2, .string ((rd_T71 ((rd_T64 l0_1 x18_1).body) x25_2).op), .bool ((rd_T71 ((rd_T64 l0_1 x18_1).body) x25_2).l.isVar), .string ((rd_T71 ((rd_T64 l0_1 x18_1).body) x25_2).l.name), .bool ((rd_T71 ((rd_T64 l0_1 x18_1).body) x25_2).l.val.isSym), .string ((rd_T71 ((rd_T64 l0_1 x18_1).body) x25_2).l.val.sym), .int .i64 0, .bool false, .string (⟨#[]⟩ : ByteArray), .bool false, .string (⟨#[]⟩ : ByteArray), .int .i64 0]) ?_ 8 _ rfl; (with_reducible repeat (first | refine bN ?_ _ | refine bD ?_ | refine bA ?_ _)); refine blk_put (cs := #[.int .i64 ((rd_T71 ((rd_T64 l0_1 x18_1).body) x25_2).kind), .string ((rd_T71 ((rd_T64 l0_1 x18_1).body) x25_2).atom.pred), .slice A105_2 ((rd_T71 ((rd_T64 l0_1 x18_1).body) x25_2).atom.args).length c105_2, .string ((rd_T71 ((rd_T64 l0_1 x18_1).body) x25_2).op), .bool ((rd_T71 ((rd_T64 l0_1 x18_1).body) x25_2).l.isVar), .string ((rd_T71 ((rd_T64 l0_1 x18_1).body) x25_2).l.name), .bool ((rd_T71 ((rd_T64 l0_1 x18_1).body) x25_2).l.val.isSym), .string (⟨#[]⟩ : ByteArray), .int .i64 0, .bool false, .string (⟨#[]⟩ : ByteArray), .bool false, .string (⟨#[]⟩ : ByteArray), .int .i64 0]) ?_ 7 _ rfl; (with_reducible repeat (first | refine bN ?_ _ | refine bD ?_ | refine bA ?_ _)); refine blk_put (cs := #[.int .i64 ((rd_T71 ((rd_T64 l0_1 x18_1).body) x25_2).kind), .string ((rd_T71 ((rd_T64 l0_1 x18_1).body) x25_2).atom.pred), .slice A105_2 ((rd_T71 ((rd_T64 l0_1 x18_1).body) x25_2).atom.args).length c105_2, .string ((rd_T71 ((rd_T64 l0_1 x18_1).body) x25_2).op), .bool ((rd_T71 ((rd_T64 l0_1 x18_1).body) x25_2).l.isVar), .string ((rd_T71 ((rd_T64 l0_1 x18_1).body) x25_2).l.name), .bool false, .string (⟨#[]⟩ : ByteArray), .int .i64 0, .bool false, .string (⟨#[]⟩ : ByteArray), .bool false, .string (⟨#[]⟩ : ByteArray), .int .i64 0]) ?_ 6 _ rfl; (with_reducible repeat (first | refine bN ?_ _ | refine bD ?_ | refine bA ?_ _)); refine blk_put (cs := #[.int .i64 ((rd_T71 ((rd_T64 l0_1 x18_1).body) x25_2).kind), .string ((rd_T71 ((rd_T64 l0_1 x18_1).body) x25_2).atom.pred), .slice A105_2 ((rd_T71 ((rd_T64 l0_1 x18_1).body) x25_2).atom.args).length c105_2, .string ((rd_T71 ((rd_T64 l0_1 x18_1).body) x25_2).op), .bool ((rd_T71 ((rd_T64 l0_1 x18_1).body) x25_2).l.isVar), .string (⟨#[]⟩ : ByteArray), .bool false, .string (⟨#[]⟩ : ByteArray), .int .i64 0, .bool false, .string (⟨#[]⟩ : ByteArray), .bool false, .string (⟨#[]⟩ : ByteArray), .int .i64 0]) ?_ 5 _ rfl; (with_reducible repeat (first | refine bN ?_ _ | refine bD ?_ | refine bA ?_ _)); refine blk_put (cs := #[.int .i64 ((rd_T71 ((rd_T64 l0_1 x18_1).body) x25_2).kind), .string ((rd_T71 ((rd_T64 l0_1 x18_1).body) x25_2).atom.pred), .slice A105_2 ((rd_T71 ((rd_T64 l0_1 x18_1).body) x25_2).atom.args).length c105_2, .string ((rd_T71 ((rd_T64 l0_1 x18_1).body) x25_2).op), .bool false, .string (⟨#[]⟩ : ByteArray), .bool false, .string (⟨#[]⟩ : ByteArray), .int .i64 0, .bool false, .string (⟨#[]⟩ : ByteArray), .bool false, .string (⟨#[]⟩ : ByteArray), .int .i64 0]) ?_ 4 _ rfl; (with_reducible repeat (first | refine bN ?_ _ | refine bD ?_ | refine bA ?_ _)); refine blk_put (cs := #[.int .i64 ((rd_T71 ((rd_T64 l0_1 x18_1).body) x25_2).kind), .string ((rd_T71 ((rd_T64 l0_1 x18_1).body) x25_2).atom.pred), .slice A105_2 ((rd_T71 ((rd_T64 l0_1 x18_1).body) x25_2).atom.args).length c105_2, .string (⟨#[]⟩ : ByteArray), .bool false, .string (⟨#[]⟩ : ByteArray), .bool false, .string (⟨#[]⟩ : ByteArray), .int .i64 0, .bool false, .string (⟨#[]⟩ : ByteArray), .bool false, .string (⟨#[]⟩ : ByteArray), .int .i64 0]) ?_ 3 _ rfl; (with_reducible repeat (first | refine bN ?_ _ | refine bD ?_ | refine bA ?_ _)); refine blk_put (cs := #[.int .i64 ((rd_T71 ((rd_T64 l0_1 x18_1).body) x25_2).kind), .string ((rd_T71 ((rd_T64 l0_1 x18_1).body) x25_2).atom.pred), .slice none 0 0, .string (⟨#[]⟩ : ByteArray), .bool false, .string (⟨#[]⟩ : ByteArray), .bool false, .string (⟨#[]⟩ : ByteArray), .int .i64 0, .bool false, .string (⟨#[]⟩ : ByteArray), .bool false, .string (⟨#[]⟩ : ByteArray), .int .i64 0]) ?_ 2 _ rfl; (with_reducible repeat (first | refine bN ?_ _ | refine bD ?_ | refine bA ?_ _)); refine blk_put (cs := #[.int .i64 ((rd_T71 ((rd_T64 l0_1 x18_1).body) x25_2).kind), .string (⟨#[]⟩ : ByteArray), .slice none 0 0, .string (⟨#[]⟩ : ByteArray), .bool false, .string (⟨#[]⟩ : ByteArray), .bool false, .string (⟨#[]⟩ : ByteArray), .int .i64 0, .bool false, .string (⟨#[]⟩ : ByteArray), .bool false, .string (⟨#[]⟩ : ByteArray), .int .i64 0]) ?_ 1 _ rfl; (with_reducible repeat (first | refine bN ?_ _ | refine bD ?_ | refine bA ?_ _)); refine blk_put (cs := #[.int .i64 0, .string (⟨#[]⟩ : ByteArray), .slice none 0 0, .string (⟨#[]⟩ : ByteArray), .bool false, .string (⟨#[]⟩ : ByteArray), .bool false, .string (⟨#[]⟩ : ByteArray), .int .i64 0, .bool false, .string (⟨#[]⟩ : ByteArray), .bool false, .string (⟨#[]⟩ : ByteArray), .int .i64 0]) ?_ 0 _ rfl; (with_reducible repeat (first | refine bN ?_ _ | refine bD ?_ | refine bA ?_ _)); exact BK106.out⟩, ⟨by repeat (first | (with_reducible first | exact HB.out | apply lA | apply lN | apply lD | refine lS ?_ GE101.out | refine lS ?_ GE102.out | refine lS ?_ GE104.out | refine lS ?_ GE106.out) | exact HB.out)⟩⟩
            ·rw [if_neg c23] at H
             have c23b0 : (((rd_T71 ((rd_T64 l0_1 x18_1).body) x25_2).kind) == 1) = false := beq_eq_false_iff_ne.mpr c23
             have c23b1 : (((rd_T71 ((rd_T64 l0_1 x18_1).body) x25_2).kind) != 1) = true := bne_iff_ne.mpr c23
             (first | rw [c23b0] | (simp only [i64_w, i32_w]; rw [c23b0]) | skip)
             have H' := am H
             clear H
             have hnb28 := NB106_101.out
             have hnc28 := NB101_106.out
             have hnb29 := NB106_102.out
             have hnc29 := NB102_106.out
             have hnb30 := NB106_104.out
             have hnc30 := NB104_106.out
             have hcz31_0 : w18.cell? ⟨gb106, 0, none⟩ = some (.int .i64 0) := (blk_cell BK106.out 0).trans rfl
             have hcz31_1 : w18.cell? ⟨gb106, 1, none⟩ = some (.string (⟨#[]⟩ : ByteArray)) := (blk_cell BK106.out 1).trans rfl
             have hcz31_2 : w18.cell? ⟨gb106, 2, none⟩ = some (.slice none 0 0) := (blk_cell BK106.out 2).trans rfl
             have hcz31_3 : w18.cell? ⟨gb106, 3, none⟩ = some (.string (⟨#[]⟩ : ByteArray)) := (blk_cell BK106.out 3).trans rfl
             have hcz31_4 : w18.cell? ⟨gb106, 4, none⟩ = some (.bool false) := (blk_cell BK106.out 4).trans rfl
             have hcz31_5 : w18.cell? ⟨gb106, 5, none⟩ = some (.string (⟨#[]⟩ : ByteArray)) := (blk_cell BK106.out 5).trans rfl
             have hcz31_6 : w18.cell? ⟨gb106, 6, none⟩ = some (.bool false) := (blk_cell BK106.out 6).trans rfl
             have hcz31_7 : w18.cell? ⟨gb106, 7, none⟩ = some (.string (⟨#[]⟩ : ByteArray)) := (blk_cell BK106.out 7).trans rfl
             have hcz31_8 : w18.cell? ⟨gb106, 8, none⟩ = some (.int .i64 0) := (blk_cell BK106.out 8).trans rfl
             have hcz31_9 : w18.cell? ⟨gb106, 9, none⟩ = some (.bool false) := (blk_cell BK106.out 9).trans rfl
             have hcz31_10 : w18.cell? ⟨gb106, 10, none⟩ = some (.string (⟨#[]⟩ : ByteArray)) := (blk_cell BK106.out 10).trans rfl
             have hcz31_11 : w18.cell? ⟨gb106, 11, none⟩ = some (.bool false) := (blk_cell BK106.out 11).trans rfl
             have hcz31_12 : w18.cell? ⟨gb106, 12, none⟩ = some (.string (⟨#[]⟩ : ByteArray)) := (blk_cell BK106.out 12).trans rfl
             have hcz31_13 : w18.cell? ⟨gb106, 13, none⟩ = some (.int .i64 0) := (blk_cell BK106.out 13).trans rfl
             have hfz31_0 := blk_frozen BK106.out 0
             have hfz31_1 := blk_frozen BK106.out 1
             have hfz31_2 := blk_frozen BK106.out 2
             have hfz31_3 := blk_frozen BK106.out 3
             have hfz31_4 := blk_frozen BK106.out 4
             have hfz31_5 := blk_frozen BK106.out 5
             have hfz31_6 := blk_frozen BK106.out 6
             have hfz31_7 := blk_frozen BK106.out 7
             have hfz31_8 := blk_frozen BK106.out 8
             have hfz31_9 := blk_frozen BK106.out 9
             have hfz31_10 := blk_frozen BK106.out 10
             have hfz31_11 := blk_frozen BK106.out 11
             have hfz31_12 := blk_frozen BK106.out 12
             have hfz31_13 := blk_frozen BK106.out 13
             go_wp2
             go_meet
             case rel => exact ⟨_, ((((rd_T71 ((rd_T64 l0_1 x18_1).body) x25_2).kind) != 2)), (by first | rfl | (simp; done) | (simp [*]; done)), H', ⟨by have := HK1.out; have := HK2.out; first | omega | exact Nat.le_refl _⟩, ⟨by (with_reducible repeat (first | apply Ra | apply Rn | apply Rd)); exact Kd.R_mono (Kd.R_far (p := ⟨gb106, 13, none⟩) (Kd.R_far (p := ⟨gb106, 12, none⟩) (Kd.R_far (p := ⟨gb106, 11, none⟩) (Kd.R_far (p := ⟨gb106, 10, none⟩) (Kd.R_far (p := ⟨gb106, 9, none⟩) (Kd.R_far (p := ⟨gb106, 8, none⟩) (Kd.R_far (p := ⟨gb106, 7, none⟩) (Kd.R_far (p := ⟨gb106, 6, none⟩) (Kd.R_far (p := ⟨gb106, 5, none⟩) (Kd.R_far (p := ⟨gb106, 4, none⟩) (Kd.R_far (p := ⟨gb106, 3, none⟩) (Kd.R_far (p := ⟨gb106, 2, none⟩) (Kd.R_far (p := ⟨gb106, 1, none⟩) (Kd.R_far (p := ⟨gb106, 0, none⟩) (Kd.R_types HO_6.out BK106.out (by decide)) (fun _ hk => hk.2) _) (fun _ hk => hk.2) _) (fun _ hk => hk.2) _) (fun _ hk => hk.2) _) (fun _ hk => hk.2) _) (fun _ hk => hk.2) _) (fun _ hk => hk.2) _) (fun _ hk => hk.2) _) (fun _ hk => hk.2) _) (fun _ hk => hk.2) _) (fun _ hk => hk.2) _) (fun _ hk => hk.2) _) (fun _ hk => hk.2) _) (fun _ hk => hk.2) _) (fun _ hk => hk.1)⟩, ⟨by (with_reducible repeat (first | apply Ra | apply Rn | apply Rd)); exact Kd.R_mono (Kd.R_far (p := ⟨gb106, 13, none⟩) (Kd.R_far (p := ⟨gb106, 12, none⟩) (Kd.R_far (p := ⟨gb106, 11, none⟩) (Kd.R_far (p := ⟨gb106, 10, none⟩) (Kd.R_far (p := ⟨gb106, 9, none⟩) (Kd.R_far (p := ⟨gb106, 8, none⟩) (Kd.R_far (p := ⟨gb106, 7, none⟩) (Kd.R_far (p := ⟨gb106, 6, none⟩) (Kd.R_far (p := ⟨gb106, 5, none⟩) (Kd.R_far (p := ⟨gb106, 4, none⟩) (Kd.R_far (p := ⟨gb106, 3, none⟩) (Kd.R_far (p := ⟨gb106, 2, none⟩) (Kd.R_far (p := ⟨gb106, 1, none⟩) (Kd.R_far (p := ⟨gb106, 0, none⟩) (Kd.R_types HO_7.out BK106.out (by decide)) (fun _ hk => hk.2) _) (fun _ hk => hk.2) _) (fun _ hk => hk.2) _) (fun _ hk => hk.2) _) (fun _ hk => hk.2) _) (fun _ hk => hk.2) _) (fun _ hk => hk.2) _) (fun _ hk => hk.2) _) (fun _ hk => hk.2) _) (fun _ hk => hk.2) _) (fun _ hk => hk.2) _) (fun _ hk => hk.2) _) (fun _ hk => hk.2) _) (fun _ hk => hk.2) _) (fun _ hk => hk.1)⟩, ⟨by repeat (first | (with_reducible first | exact BK101.out | refine bN ?_ _ | refine bD ?_ | refine bA ?_ _) | refine blk_far ?_ NB101_106.out _ | exact BK101.out)⟩, ⟨by repeat (first | (with_reducible first | exact BK102.out | refine bN ?_ _ | refine bD ?_ | refine bA ?_ _) | refine blk_far ?_ NB102_106.out _ | exact BK102.out)⟩, ⟨by repeat (first | (with_reducible first | exact BK104.out | refine bN ?_ _ | refine bD ?_ | refine bA ?_ _) | refine blk_far ?_ NB104_106.out _ | exact BK104.out)⟩, ⟨by (with_reducible repeat (first | refine bN ?_ _ | refine bD ?_ | refine bA ?_ _)); refine blk_put (cs := #[.int .i64 ((rd_T71 ((rd_T64 l0_1 x18_1).body) x25_2).kind), .string ((rd_T71 ((rd_T64 l0_1 x18_1).body) x25_2).atom.pred), .slice A105_2 ((rd_T71 ((rd_T64 l0_1 x18_1).body) x25_2).atom.args).length c105_2, .string ((rd_T71 ((rd_T64 l0_1 x18_1).body) x25_2).op), .bool ((rd_T71 ((rd_T64 l0_1 x18_1).body) x25_2).l.isVar), .string ((rd_T71 ((rd_T64 l0_1 x18_1).body) x25_2).l.name), .bool ((rd_T71 ((rd_T64 l0_1 x18_1).body) x25_2).l.val.isSym), .string ((rd_T71 ((rd_T64 l0_1 x18_1).body) x25_2).l.val.sym), .int .i64 ((rd_T71 ((rd_T64 l0_1 x18_1).body) x25_2).l.val.n), .bool ((rd_T71 ((rd_T64 l0_1 x18_1).body) x25_2).r.isVar), .string ((rd_T71 ((rd_T64 l0_1 x18_1).body) x25_2).r.name), .bool ((rd_T71 ((rd_T64 l0_1 x18_1).body) x25_2).r.val.isSym), .string ((rd_T71 ((rd_T64 l0_1 x18_1).body) x25_2).r.val.sym), .int .i64 0]) ?_ 13 _ rfl; (with_reducible repeat (first | refine bN ?_ _ | refine bD ?_ | refine bA ?_ _)); refine blk_put (cs := #[.int .i64 ((rd_T71 ((rd_T64 l0_1 x18_1).body) x25_2).kind), .string ((rd_T71 ((rd_T64 l0_1 x18_1).body) x25_2).atom.pred), .slice A105_2 ((rd_T71 ((rd_T64 l0_1 x18_1).body) x25_2).atom.args).length c105_2, .string ((rd_T71 ((rd_T64 l0_1 x18_1).body) x25_2).op), .bool ((rd_T71 ((rd_T64 l0_1 x18_1).body) x25_2).l.isVar), .string ((rd_T71 ((rd_T64 l0_1 x18_1).body) x25_2).l.name), .bool ((rd_T71 ((rd_T64 l0_1 x18_1).body) x25_2).l.val.isSym), .string ((rd_T71 ((rd_T64 l0_1 x18_1).body) x25_2).l.val.sym), .int .i64 ((rd_T71 ((rd_T64 l0_1 x18_1).body) x25_2).l.val.n), .bool ((rd_T71 ((rd_T64 l0_1 x18_1).body) x25_2).r.isVar), .string ((rd_T71 ((rd_T64 l0_1 x18_1).body) x25_2).r.name), .bool ((rd_T71 ((rd_T64 l0_1 x18_1).body) x25_2).r.val.isSym), .string (⟨#[]⟩ : ByteArray), .int .i64 0]) ?_ 12 _ rfl; (with_reducible repeat (first | refine bN ?_ _ | refine bD ?_ | refine bA ?_ _)); refine blk_put (cs := #[.int .i64 ((rd_T71 ((rd_T64 l0_1 x18_1).body) x25_2).kind), .string ((rd_T71 ((rd_T64 l0_1 x18_1).body) x25_2).atom.pred), .slice A105_2 ((rd_T71 ((rd_T64 l0_1 x18_1).body) x25_2).atom.args).length c105_2, .string ((rd_T71 ((rd_T64 l0_1 x18_1).body) x25_2).op), .bool ((rd_T71 ((rd_T64 l0_1 x18_1).body) x25_2).l.isVar), .string ((rd_T71 ((rd_T64 l0_1 x18_1).body) x25_2).l.name), .bool ((rd_T71 ((rd_T64 l0_1 x18_1).body) x25_2).l.val.isSym), .string ((rd_T71 ((rd_T64 l0_1 x18_1).body) x25_2).l.val.sym), .int .i64 ((rd_T71 ((rd_T64 l0_1 x18_1).body) x25_2).l.val.n), .bool ((rd_T71 ((rd_T64 l0_1 x18_1).body) x25_2).r.isVar), .string ((rd_T71 ((rd_T64 l0_1 x18_1).body) x25_2).r.name), .bool false, .string (⟨#[]⟩ : ByteArray), .int .i64 0]) ?_ 11 _ rfl; (with_reducible repeat (first | refine bN ?_ _ | refine bD ?_ | refine bA ?_ _)); refine blk_put (cs := #[.int .i64 ((rd_T71 ((rd_T64 l0_1 x18_1).body) x25_2).kind), .string ((rd_T71 ((rd_T64 l0_1 x18_1).body) x25_2).atom.pred), .slice A105_2 ((rd_T71 ((rd_T64 l0_1 x18_1).body) x25_2).atom.args).length c105_2, .string ((rd_T71 ((rd_T64 l0_1 x18_1).body) x25_2).op), .bool ((rd_T71 ((rd_T64 l0_1 x18_1).body) x25_2).l.isVar), .string ((rd_T71 ((rd_T64 l0_1 x18_1).body) x25_2).l.name), .bool ((rd_T71 ((rd_T64 l0_1 x18_1).body) x25_2).l.val.isSym), .string ((rd_T71 ((rd_T64 l0_1 x18_1).body) x25_2).l.val.sym), .int .i64 ((rd_T71 ((rd_T64 l0_1 x18_1).body) x25_2).l.val.n), .bool ((rd_T71 ((rd_T64 l0_1 x18_1).body) x25_2).r.isVar), .string (⟨#[]⟩ : ByteArray), .bool false, .string (⟨#[]⟩ : ByteArray), .int .i64 0]) ?_ 10 _ rfl; (with_reducible repeat (first | refine bN ?_ _ | refine bD ?_ | refine bA ?_ _)); refine blk_put (cs := #[.int .i64 ((rd_T71 ((rd_T64 l0_1 x18_1).body) x25_2).kind), .string ((rd_T71 ((rd_T64 l0_1 x18_1).body) x25_2).atom.pred), .slice A105_2 ((rd_T71 ((rd_T64 l0_1 x18_1).body) x25_2).atom.args).length c105_2, .string ((rd_T71 ((rd_T64 l0_1 x18_1).body) x25_2).op), .bool ((rd_T71 ((rd_T64 l0_1 x18_1).body) x25_2).l.isVar), .string ((rd_T71 ((rd_T64 l0_1 x18_1).body) x25_2).l.name), .bool ((rd_T71 ((rd_T64 l0_1 x18_1).body) x25_2).l.val.isSym), .string ((rd_T71 ((rd_T64 l0_1 x18_1).body) x25_2).l.val.sym), .int .i64 ((rd_T71 ((rd_T64 l0_1 x18_1).body) x25_2).l.val.n), .bool false, .string (⟨#[]⟩ : ByteArray), .bool false, .string (⟨#[]⟩ : ByteArray), .int .i64 0]) ?_ 9 _ rfl; (with_reducible repeat (first | refine bN ?_ _ | refine bD ?_ | refine bA ?_ _)); refine blk_put (cs := #[.int .i64 ((rd_T71 ((rd_T64 l0_1 x18_1).body) x25_2).kind), .string ((rd_T71 ((rd_T64 l0_1 x18_1).body) x25_2).atom.pred), .slice A105_2 ((rd_T71 ((rd_T64 l0_1 x18_1).body) x25_2).atom.args).length c105_2, .string ((rd_T71 ((rd_T64 l0_1 x18_1).body) x25_2).op), .bool ((rd_T71 ((rd_T64 l0_1 x18_1).body) x25_2).l.isVar), .string ((rd_T71 ((rd_T64 l0_1 x18_1).body) x25_2).l.name), .bool ((rd_T71 ((rd_T64 l0_1 x18_1).body) x25_2).l.val.isSym), .string ((rd_T71 ((rd_T64 l0_1 x18_1).body) x25_2).l.val.sym), .int .i64 0, .bool false, .string (⟨#[]⟩ : ByteArray), .bool false, .string (⟨#[]⟩ : ByteArray), .int .i64 0]) ?_ 8 _ rfl; (with_reducible repeat (first | refine bN ?_ _ | refine bD ?_ | refine bA ?_ _)); refine blk_put (cs := #[.int .i64 ((rd_T71 ((rd_T64 l0_1 x18_1).body) x25_2).kind), .string ((rd_T71 ((rd_T64 l0_1 x18_1).body) x25_2).atom.pred), .slice A105_2 ((rd_T71 ((rd_T64 l0_1 x18_1).body) x25_2).atom.args).length c105_2, .string ((rd_T71 ((rd_T64 l0_1 x18_1).body) x25_2).op), .bool ((rd_T71 ((rd_T64 l0_1 x18_1).body) x25_2).l.isVar), .string ((rd_T71 ((rd_T64 l0_1 x18_1).body) x25_2).l.name), .bool ((rd_T71 ((rd_T64 l0_1 x18_1).body) x25_2).l.val.isSym), .string (⟨#[]⟩ : ByteArray), .int .i64 0, .bool false, .string (⟨#[]⟩ : ByteArray), .bool false, .string (⟨#[]⟩ : ByteArray), .int .i64 0]) ?_ 7 _ rfl; (with_reducible repeat (first | refine bN ?_ _ | refine bD ?_ | refine bA ?_ _)); refine blk_put (cs := #[.int .i64 ((rd_T71 ((rd_T64 l0_1 x18_1).body) x25_2).kind), .string ((rd_T71 ((rd_T64 l0_1 x18_1).body) x25_2).atom.pred), .slice A105_2 ((rd_T71 ((rd_T64 l0_1 x18_1).body) x25_2).atom.args).length c105_2, .string ((rd_T71 ((rd_T64 l0_1 x18_1).body) x25_2).op), .bool ((rd_T71 ((rd_T64 l0_1 x18_1).body) x25_2).l.isVar), .string ((rd_T71 ((rd_T64 l0_1 x18_1).body) x25_2).l.name), .bool false, .string (⟨#[]⟩ : ByteArray), .int .i64 0, .bool false, .string (⟨#[]⟩ : ByteArray), .bool false, .string (⟨#[]⟩ : ByteArray), .int .i64 0]) ?_ 6 _ rfl; (with_reducible repeat (first | refine bN ?_ _ | refine bD ?_ | refine bA ?_ _)); refine blk_put (cs := #[.int .i64 ((rd_T71 ((rd_T64 l0_1 x18_1).body) x25_2).kind), .string ((rd_T71 ((rd_T64 l0_1 x18_1).body) x25_2).atom.pred), .slice A105_2 ((rd_T71 ((rd_T64 l0_1 x18_1).body) x25_2).atom.args).length c105_2, .string ((rd_T71 ((rd_T64 l0_1 x18_1).body) x25_2).op), .bool ((rd_T71 ((rd_T64 l0_1 x18_1).body) x25_2).l.isVar), .string (⟨#[]⟩ : ByteArray), .bool false, .string (⟨#[]⟩ : ByteArray), .int .i64 0, .bool false, .string (⟨#[]⟩ : ByteArray), .bool false, .string (⟨#[]⟩ : ByteArray), .int .i64 0]) ?_ 5 _ rfl; (with_reducible repeat (first | refine bN ?_ _ | refine bD ?_ | refine bA ?_ _)); refine blk_put (cs := #[.int .i64 ((rd_T71 ((rd_T64 l0_1 x18_1).body) x25_2).kind), .string ((rd_T71 ((rd_T64 l0_1 x18_1).body) x25_2).atom.pred), .slice A105_2 ((rd_T71 ((rd_T64 l0_1 x18_1).body) x25_2).atom.args).length c105_2, .string ((rd_T71 ((rd_T64 l0_1 x18_1).body) x25_2).op), .bool false, .string (⟨#[]⟩ : ByteArray), .bool false, .string (⟨#[]⟩ : ByteArray), .int .i64 0, .bool false, .string (⟨#[]⟩ : ByteArray), .bool false, .string (⟨#[]⟩ : ByteArray), .int .i64 0]) ?_ 4 _ rfl; (with_reducible repeat (first | refine bN ?_ _ | refine bD ?_ | refine bA ?_ _)); refine blk_put (cs := #[.int .i64 ((rd_T71 ((rd_T64 l0_1 x18_1).body) x25_2).kind), .string ((rd_T71 ((rd_T64 l0_1 x18_1).body) x25_2).atom.pred), .slice A105_2 ((rd_T71 ((rd_T64 l0_1 x18_1).body) x25_2).atom.args).length c105_2, .string (⟨#[]⟩ : ByteArray), .bool false, .string (⟨#[]⟩ : ByteArray), .bool false, .string (⟨#[]⟩ : ByteArray), .int .i64 0, .bool false, .string (⟨#[]⟩ : ByteArray), .bool false, .string (⟨#[]⟩ : ByteArray), .int .i64 0]) ?_ 3 _ rfl; (with_reducible repeat (first | refine bN ?_ _ | refine bD ?_ | refine bA ?_ _)); refine blk_put (cs := #[.int .i64 ((rd_T71 ((rd_T64 l0_1 x18_1).body) x25_2).kind), .string ((rd_T71 ((rd_T64 l0_1 x18_1).body) x25_2).atom.pred), .slice none 0 0, .string (⟨#[]⟩ : ByteArray), .bool false, .string (⟨#[]⟩ : ByteArray), .bool false, .string (⟨#[]⟩ : ByteArray), .int .i64 0, .bool false, .string (⟨#[]⟩ : ByteArray), .bool false, .string (⟨#[]⟩ : ByteArray), .int .i64 0]) ?_ 2 _ rfl; (with_reducible repeat (first | refine bN ?_ _ | refine bD ?_ | refine bA ?_ _)); refine blk_put (cs := #[.int .i64 ((rd_T71 ((rd_T64 l0_1 x18_1).body) x25_2).kind), .string (⟨#[]⟩ : ByteArray), .slice none 0 0, .string (⟨#[]⟩ : ByteArray), .bool false, .string (⟨#[]⟩ : ByteArray), .bool false, .string (⟨#[]⟩ : ByteArray), .int .i64 0, .bool false, .string (⟨#[]⟩ : ByteArray), .bool false, .string (⟨#[]⟩ : ByteArray), .int .i64 0]) ?_ 1 _ rfl; (with_reducible repeat (first | refine bN ?_ _ | refine bD ?_ | refine bA ?_ _)); refine blk_put (cs := #[.int .i64 0, .string (⟨#[]⟩ : ByteArray), .slice none 0 0, .string (⟨#[]⟩ : ByteArray), .bool false, .string (⟨#[]⟩ : ByteArray), .bool false, .string (⟨#[]⟩ : ByteArray), .int .i64 0, .bool false, .string (⟨#[]⟩ : ByteArray), .bool false, .string (⟨#[]⟩ : ByteArray), .int .i64 0]) ?_ 0 _ rfl; (with_reducible repeat (first | refine bN ?_ _ | refine bD ?_ | refine bA ?_ _)); exact BK106.out⟩, ⟨by repeat (first | (with_reducible first | exact HB.out | apply lA | apply lN | apply lD | refine lS ?_ GE101.out | refine lS ?_ GE102.out | refine lS ?_ GE104.out | refine lS ?_ GE106.out) | exact HB.out)⟩⟩
           case rest =>
            clear HC17
            try clear c1
            try clear p1
            try clear q1
            try clear hx1
            try clear c2
            try clear p2
            try clear c3
            try clear c5
            try clear c7
            try clear c7b0
            try clear c8
            try clear c8b0
            try clear c9
            try clear c9b0
            try clear c10
            try clear p10
            try clear q10
            try clear hx10
            try clear c11
            try clear c12
            try clear c14
            try clear c14b0
            try clear c15
            try clear c15b0
            try clear c16
            try clear c16b0
            try clear c19
            try clear c20
            try clear c21
            try clear c23
            try clear c23b0
            try clear c23b1
            try clear c24
            try clear c25
            try clear c26
            try clear c28
            try clear c29
            try clear c30
            try clear hcz13_0
            try clear hcz13_1
            try clear hcz13_2
            try clear hcz22_0
            try clear hcz22_1
            try clear hcz22_10
            try clear hcz22_11
            try clear hcz22_12
            try clear hcz22_13
            try clear hcz22_2
            try clear hcz22_3
            try clear hcz22_4
            try clear hcz22_5
            try clear hcz22_6
            try clear hcz22_7
            try clear hcz22_8
            try clear hcz22_9
            try clear hcz27_0
            try clear hcz27_1
            try clear hcz27_10
            try clear hcz27_11
            try clear hcz27_12
            try clear hcz27_13
            try clear hcz27_2
            try clear hcz27_3
            try clear hcz27_4
            try clear hcz27_5
            try clear hcz27_6
            try clear hcz27_7
            try clear hcz27_8
            try clear hcz27_9
            try clear hcz31_0
            try clear hcz31_1
            try clear hcz31_10
            try clear hcz31_11
            try clear hcz31_12
            try clear hcz31_13
            try clear hcz31_2
            try clear hcz31_3
            try clear hcz31_4
            try clear hcz31_5
            try clear hcz31_6
            try clear hcz31_7
            try clear hcz31_8
            try clear hcz31_9
            try clear hcz6_0
            try clear hcz6_1
            try clear hfz13_0
            try clear hfz13_1
            try clear hfz13_2
            try clear hfz22_0
            try clear hfz22_1
            try clear hfz22_10
            try clear hfz22_11
            try clear hfz22_12
            try clear hfz22_13
            try clear hfz22_2
            try clear hfz22_3
            try clear hfz22_4
            try clear hfz22_5
            try clear hfz22_6
            try clear hfz22_7
            try clear hfz22_8
            try clear hfz22_9
            try clear hfz27_0
            try clear hfz27_1
            try clear hfz27_10
            try clear hfz27_11
            try clear hfz27_12
            try clear hfz27_13
            try clear hfz27_2
            try clear hfz27_3
            try clear hfz27_4
            try clear hfz27_5
            try clear hfz27_6
            try clear hfz27_7
            try clear hfz27_8
            try clear hfz27_9
            try clear hfz31_0
            try clear hfz31_1
            try clear hfz31_10
            try clear hfz31_11
            try clear hfz31_12
            try clear hfz31_13
            try clear hfz31_2
            try clear hfz31_3
            try clear hfz31_4
            try clear hfz31_5
            try clear hfz31_6
            try clear hfz31_7
            try clear hfz31_8
            try clear hfz31_9
            try clear hfz6_0
            try clear hfz6_1
            try clear hx103_0
            try clear hx103_1
            try clear hx103_2
            try clear hx105_0
            try clear hx105_1
            try clear hx105_10
            try clear hx105_11
            try clear hx105_12
            try clear hx105_13
            try clear hx105_2
            try clear hx105_3
            try clear hx105_4
            try clear hx105_5
            try clear hx105_6
            try clear hx105_7
            try clear hx105_8
            try clear hx105_9
            try clear p1
            try clear p10
            try clear p103
            try clear p105
            try clear p2
            try clear q1
            try clear q10
            try clear q103
            try clear q105
            obtain ⟨kq, x36_16, rfl, HA, HJ16, HO_6, HO_7, BK101, BK102, BK104, BK106, HB⟩ := hcut
            cases kq with
            | zero => exact absurd HA.out (by simp [strata_edges.j2])
            | succ kj16 =>
             have H := HA.out
             clear HA
             simp only [strata_edges.j2] at H
             by_cases c32 : x36_16 = true
             ·subst c32
              have H1 : (strata_edges.l1 kj16 x6_2 x7_2 l0_1 (l0_1.length : Int) x18_1 ((rd_T64 l0_1 x18_1).body) (((rd_T64 l0_1 x18_1).body).length : Int) (wrap64 (x25_2 + 1)) l1 ((rd_T64 l0_1 x18_1).head.pred) ((rd_T64 l0_1 x18_1).head.args) ((rd_T64 l0_1 x18_1).body)) = some (r1, r2) := by rw [if_pos rfl] at H; exact H
              clear H
              have H := H1
              clear H1
              have H' := am H
              clear H
              go_wp2
              go_roundg kj16
              case measure => have := HK1.out; have := HK2.out; have := HJ16.out; omega
              case rel => exact ⟨(x6_2), (x7_2), (wrap64 (x25_2 + 1)), (by first | rfl | (simp; done) | (simp [*]; done)), H', ⟨by have := HK1.out; have := HK2.out; have := HJ16.out; omega⟩, ⟨by (with_reducible repeat (first | apply Ra | apply Rn | apply Rd)); exact HO_6.out⟩, ⟨by (with_reducible repeat (first | apply Ra | apply Rn | apply Rd)); exact HO_7.out⟩, ⟨by (with_reducible repeat (first | refine bN ?_ _ | refine bD ?_ | refine bA ?_ _)); exact BK101.out⟩, ⟨by (with_reducible repeat (first | refine bN ?_ _ | refine bD ?_ | refine bA ?_ _)); exact BK102.out⟩, ⟨by (with_reducible repeat (first | refine bN ?_ _ | refine bD ?_ | refine bA ?_ _)); exact BK104.out⟩, ⟨by repeat (first | (with_reducible first | exact HB.out | apply lA | apply lN | apply lD | refine lS ?_ GE101.out | refine lS ?_ GE102.out | refine lS ?_ GE104.out | refine lS ?_ GE106.out) | exact HB.out)⟩⟩
             ·replace c32 := Bool.eq_false_iff.mpr c32
              subst c32
              have H1 : ((EdgesAt.f ((rd_T64 l0_1 x18_1).head.pred) l1).bind fun t107 => ((EdgesAt.f ((rd_T71 ((rd_T64 l0_1 x18_1).body) x25_2).atom.pred) l1).bind fun t108 => (if x6_2.length < 8796093022208 then ((some (x6_2 ++ [(⟨t107, t108⟩ : IPair)] : List (IPair))).bind fun y110 => (if ((rd_T71 ((rd_T64 l0_1 x18_1).body) x25_2).kind) = 2 then (if x7_2.length < 8796093022208 then (strata_edges.l1 kj16 y110 (x7_2 ++ [(⟨t107, t108⟩ : IPair)]) l0_1 (l0_1.length : Int) x18_1 ((rd_T64 l0_1 x18_1).body) (((rd_T64 l0_1 x18_1).body).length : Int) (wrap64 (x25_2 + 1)) l1 ((rd_T64 l0_1 x18_1).head.pred) ((rd_T64 l0_1 x18_1).head.args) ((rd_T64 l0_1 x18_1).body)) else (none)) else (strata_edges.l1 kj16 y110 x7_2 l0_1 (l0_1.length : Int) x18_1 ((rd_T64 l0_1 x18_1).body) (((rd_T64 l0_1 x18_1).body).length : Int) (wrap64 (x25_2 + 1)) l1 ((rd_T64 l0_1 x18_1).head.pred) ((rd_T64 l0_1 x18_1).head.args) ((rd_T64 l0_1 x18_1).body)))) else (none)))) = some (r1, r2) := by rw [if_neg (show ¬ (false = true) by decide)] at H; exact H
              clear H
              have H := H1
              clear H1
              replace H := Option.bind_eq_some_iff.mp H
              obtain ⟨t107, A330, H⟩ := H
              replace H : ((EdgesAt.f ((rd_T71 ((rd_T64 l0_1 x18_1).body) x25_2).atom.pred) l1).bind fun t108 => (if x6_2.length < 8796093022208 then ((some (x6_2 ++ [(⟨t107, t108⟩ : IPair)] : List (IPair))).bind fun y110 => (if ((rd_T71 ((rd_T64 l0_1 x18_1).body) x25_2).kind) = 2 then (if x7_2.length < 8796093022208 then (strata_edges.l1 kj16 y110 (x7_2 ++ [(⟨t107, t108⟩ : IPair)]) l0_1 (l0_1.length : Int) x18_1 ((rd_T64 l0_1 x18_1).body) (((rd_T64 l0_1 x18_1).body).length : Int) (wrap64 (x25_2 + 1)) l1 ((rd_T64 l0_1 x18_1).head.pred) ((rd_T64 l0_1 x18_1).head.args) ((rd_T64 l0_1 x18_1).body)) else (none)) else (strata_edges.l1 kj16 y110 x7_2 l0_1 (l0_1.length : Int) x18_1 ((rd_T64 l0_1 x18_1).body) (((rd_T64 l0_1 x18_1).body).length : Int) (wrap64 (x25_2 + 1)) l1 ((rd_T64 l0_1 x18_1).head.pred) ((rd_T64 l0_1 x18_1).head.args) ((rd_T64 l0_1 x18_1).body)))) else (none))) = some (r1, r2) := H
              have A33 := am A330
              clear A330
              replace H := Option.bind_eq_some_iff.mp H
              obtain ⟨t108, A340, H⟩ := H
              replace H : (if x6_2.length < 8796093022208 then ((some (x6_2 ++ [(⟨t107, t108⟩ : IPair)] : List (IPair))).bind fun y110 => (if ((rd_T71 ((rd_T64 l0_1 x18_1).body) x25_2).kind) = 2 then (if x7_2.length < 8796093022208 then (strata_edges.l1 kj16 y110 (x7_2 ++ [(⟨t107, t108⟩ : IPair)]) l0_1 (l0_1.length : Int) x18_1 ((rd_T64 l0_1 x18_1).body) (((rd_T64 l0_1 x18_1).body).length : Int) (wrap64 (x25_2 + 1)) l1 ((rd_T64 l0_1 x18_1).head.pred) ((rd_T64 l0_1 x18_1).head.args) ((rd_T64 l0_1 x18_1).body)) else (none)) else (strata_edges.l1 kj16 y110 x7_2 l0_1 (l0_1.length : Int) x18_1 ((rd_T64 l0_1 x18_1).body) (((rd_T64 l0_1 x18_1).body).length : Int) (wrap64 (x25_2 + 1)) l1 ((rd_T64 l0_1 x18_1).head.pred) ((rd_T64 l0_1 x18_1).head.args) ((rd_T64 l0_1 x18_1).body)))) else (none)) = some (r1, r2) := H
              have A34 := am A340
              clear A340
              by_cases c35 : x6_2.length < 8796093022208
              ·rw [if_pos c35] at H
               have LMc35 := am c35
               clear c35
               obtain ⟨y110, hy110⟩ : ∃ y_ : List (IPair), y_ = (x6_2 ++ [(⟨t107, t108⟩ : IPair)]) := ⟨_, rfl⟩
               replace H : (if ((rd_T71 ((rd_T64 l0_1 x18_1).body) x25_2).kind) = 2 then (if x7_2.length < 8796093022208 then (strata_edges.l1 kj16 y110 (x7_2 ++ [(⟨t107, t108⟩ : IPair)]) l0_1 (l0_1.length : Int) x18_1 ((rd_T64 l0_1 x18_1).body) (((rd_T64 l0_1 x18_1).body).length : Int) (wrap64 (x25_2 + 1)) l1 ((rd_T64 l0_1 x18_1).head.pred) ((rd_T64 l0_1 x18_1).head.args) ((rd_T64 l0_1 x18_1).body)) else (none)) else (strata_edges.l1 kj16 y110 x7_2 l0_1 (l0_1.length : Int) x18_1 ((rd_T64 l0_1 x18_1).body) (((rd_T64 l0_1 x18_1).body).length : Int) (wrap64 (x25_2 + 1)) l1 ((rd_T64 l0_1 x18_1).head.pred) ((rd_T64 l0_1 x18_1).head.args) ((rd_T64 l0_1 x18_1).body))) = some (r1, r2) := by first | (rw [hy110]; with_reducible exact H) | (have H2_ := (Option.bind_some _ _).symm.trans H; rw [hy110]; with_reducible exact H2_) | (have H2_ := (Option.bind_some _ _).symm.trans H; with_reducible exact H2_) | with_reducible exact H | (rw [hy110]; exact H) | exact H
               have Ny110 := am hy110
               clear hy110
               by_cases c36 : ((rd_T71 ((rd_T64 l0_1 x18_1).body) x25_2).kind) = 2
               ·rw [if_pos c36] at H
                have c36b0 : (((rd_T71 ((rd_T64 l0_1 x18_1).body) x25_2).kind) == 2) = true := beq_iff_eq.mpr c36
                have c36b1 : (((rd_T71 ((rd_T64 l0_1 x18_1).body) x25_2).kind) != 2) = false := bne_eq_false_iff_eq.mpr c36
                clear c36
                by_cases c37 : x7_2.length < 8796093022208
                ·rw [if_pos c37] at H
                 have LMc37 := am c37
                 clear c37
                 obtain ⟨y113, hy113⟩ : ∃ y_ : List (IPair), y_ = (x7_2 ++ [(⟨t107, t108⟩ : IPair)]) := ⟨_, rfl⟩
                 replace H : (strata_edges.l1 kj16 y110 y113 l0_1 (l0_1.length : Int) x18_1 ((rd_T64 l0_1 x18_1).body) (((rd_T64 l0_1 x18_1).body).length : Int) (wrap64 (x25_2 + 1)) l1 ((rd_T64 l0_1 x18_1).head.pred) ((rd_T64 l0_1 x18_1).head.args) ((rd_T64 l0_1 x18_1).body)) = some (r1, r2) := by first | (rw [hy113]; with_reducible exact H) | (have H2_ := (Option.bind_some _ _).symm.trans H; rw [hy113]; with_reducible exact H2_) | (have H2_ := (Option.bind_some _ _).symm.trans H; with_reducible exact H2_) | with_reducible exact H | (rw [hy113]; exact H) | exact H
                 have Ny113 := am hy113
                 clear hy113
                 have H' := am H
                 clear H
                 try go_wp2
                 replace HO_6 := am (Kd.R_drew HO_6.out)
                 replace HO_7 := am (Kd.R_drew HO_7.out)
                 replace BK101 := am (blk_drew BK101.out)
                 replace BK102 := am (blk_drew BK102.out)
                 replace BK104 := am (blk_drew BK104.out)
                 replace BK106 := am (blk_drew BK106.out)
                 replace HB := am (below_drew1 HB.out)
                 refine start_ (n := 13) (S := fun w' => w'.cell? ⟨gb104, 0, none⟩ = some (.string ((rd_T64 l0_1 x18_1).head.pred)) ∧ w'.cell? ⟨gb104, 1, none⟩ = some (.slice A103_1 ((rd_T64 l0_1 x18_1).head.args).length c103_1) ∧ w'.cell? ⟨gb104, 2, none⟩ = some (.slice (some ad105) ((rd_T64 l0_1 x18_1).body).length c103_2) ∧ w'.cell? ⟨gb106, 0, none⟩ = some (.int .i64 ((rd_T71 ((rd_T64 l0_1 x18_1).body) x25_2).kind)) ∧ w'.cell? ⟨gb106, 1, none⟩ = some (.string ((rd_T71 ((rd_T64 l0_1 x18_1).body) x25_2).atom.pred)) ∧ w'.cell? ⟨gb106, 2, none⟩ = some (.slice A105_2 ((rd_T71 ((rd_T64 l0_1 x18_1).body) x25_2).atom.args).length c105_2) ∧ w'.cell? ⟨gb106, 3, none⟩ = some (.string ((rd_T71 ((rd_T64 l0_1 x18_1).body) x25_2).op)) ∧ w'.cell? ⟨gb106, 4, none⟩ = some (.bool ((rd_T71 ((rd_T64 l0_1 x18_1).body) x25_2).l.isVar)) ∧ w'.cell? ⟨gb106, 5, none⟩ = some (.string ((rd_T71 ((rd_T64 l0_1 x18_1).body) x25_2).l.name)) ∧ w'.cell? ⟨gb106, 6, none⟩ = some (.bool ((rd_T71 ((rd_T64 l0_1 x18_1).body) x25_2).l.val.isSym)) ∧ w'.cell? ⟨gb106, 7, none⟩ = some (.string ((rd_T71 ((rd_T64 l0_1 x18_1).body) x25_2).l.val.sym)) ∧ w'.cell? ⟨gb106, 8, none⟩ = some (.int .i64 ((rd_T71 ((rd_T64 l0_1 x18_1).body) x25_2).l.val.n)) ∧ w'.cell? ⟨gb106, 9, none⟩ = some (.bool ((rd_T71 ((rd_T64 l0_1 x18_1).body) x25_2).r.isVar)) ∧ w'.cell? ⟨gb106, 10, none⟩ = some (.string ((rd_T71 ((rd_T64 l0_1 x18_1).body) x25_2).r.name)) ∧ w'.cell? ⟨gb106, 11, none⟩ = some (.bool ((rd_T71 ((rd_T64 l0_1 x18_1).body) x25_2).r.val.isSym)) ∧ w'.cell? ⟨gb106, 12, none⟩ = some (.string ((rd_T71 ((rd_T64 l0_1 x18_1).body) x25_2).r.val.sym)) ∧ w'.cell? ⟨gb106, 13, none⟩ = some (.int .i64 ((rd_T71 ((rd_T64 l0_1 x18_1).body) x25_2).r.val.n))) (ds := []) (bl 13 0) (by kernel_rfl) rfl rfl ⟨(blk_cell BK104.out 0).trans rfl, (blk_cell BK104.out 1).trans rfl, (blk_cell BK104.out 2).trans rfl, (blk_cell BK106.out 0).trans rfl, (blk_cell BK106.out 1).trans rfl, (blk_cell BK106.out 2).trans rfl, (blk_cell BK106.out 3).trans rfl, (blk_cell BK106.out 4).trans rfl, (blk_cell BK106.out 5).trans rfl, (blk_cell BK106.out 6).trans rfl, (blk_cell BK106.out 7).trans rfl, (blk_cell BK106.out 8).trans rfl, (blk_cell BK106.out 9).trans rfl, (blk_cell BK106.out 10).trans rfl, (blk_cell BK106.out 11).trans rfl, (blk_cell BK106.out 12).trans rfl, (blk_cell BK106.out 13).trans rfl⟩ (fun hHeld => ?_); refine with_tabW strata_edges.tab10 strata_edges.bits10 (fun HT_ HW_ => ?_)
                 generalize wc.drew = w38 at HO_6 HO_7 BK101 BK102 BK104 BK106 HB hHeld ⊢
                 refine pure_ (i := 0) (N := some 37) (v := ?_) (a' := ?_) (bl 13 1) rfl rfl (any_of HT_.out (by kernel_rfl)) (fun _ _ _ h => h) (Or.inl ⟨by rfl, ?_⟩) ?_ ?_
                 rotate_left
                 ·intro w'
                  go_simp
                  with_reducible rfl
                 rotate_left
                 ·simp only [Act.put, sA, sZ, sS, i64_w, i32_w]
                  rfl
                 refine pure_ (i := 1) (N := some 38) (v := ?_) (a' := ?_) (bl 13 3) rfl rfl (any_of HT_.out (by kernel_rfl)) (fun _ _ _ h => h) (Or.inl ⟨by rfl, ?_⟩) ?_ ?_
                 rotate_left
                 ·intro w'
                  go_simp
                  with_reducible rfl
                 rotate_left
                 ·simp only [Act.put, sA, sZ, sS, i64_w, i32_w]
                  rfl
                 refine pure_ (i := 2) (N := some 39) (v := ?_) (a' := ?_) (bl 13 7) rfl rfl (any_of HT_.out (by kernel_rfl)) (fun _ _ _ h => h) (Or.inl ⟨by rfl, ?_⟩) ?_ ?_
                 rotate_left
                 ·intro w'
                  go_simp
                  with_reducible rfl
                 rotate_left
                 ·simp only [Act.put, sA, sZ, sS, i64_w, i32_w]
                  rfl
                 refine pure_ (i := 5) (N := some 42) (v := ?_) (a' := ?_) (bl 13 39) rfl rfl (any_of HT_.out (by kernel_rfl)) (fun _ _ _ h => h) (Or.inl ⟨by rfl, ?_⟩) ?_ ?_
                 rotate_left
                 ·intro w'
                  go_simp
                  with_reducible rfl
                 rotate_left
                 ·simp only [Act.put, sA, sZ, sS, i64_w, i32_w]
                  rfl
                 refine pure_ (i := 6) (N := some 43) (v := ?_) (a' := ?_) (bl 13 103) rfl rfl (any_of HT_.out (by kernel_rfl)) (fun _ _ _ h => h) (Or.inl ⟨by rfl, ?_⟩) ?_ ?_
                 rotate_left
                 ·intro w'
                  go_simp
                  with_reducible rfl
                 rotate_left
                 ·simp only [Act.put, sA, sZ, sS, i64_w, i32_w]
                  rfl
                 refine pure_ (i := 7) (N := some 44) (v := ?_) (a' := ?_) (bl 13 231) rfl rfl (any_of HT_.out (by kernel_rfl)) (fun _ _ _ h => h) (Or.inl ⟨by rfl, ?_⟩) ?_ ?_
                 rotate_left
                 ·intro w'
                  go_simp
                  with_reducible rfl
                 rotate_left
                 ·simp only [Act.put, sA, sZ, sS, i64_w, i32_w]
                  rfl
                 refine take_ (i := 3) (N := some 40) (v := ?_) (a' := ?_) (bl 13 239) rfl rfl (take_ofW HT_.out HW_.out (by kernel_rfl)) (fun _ _ _ h => h) (Or.inl ⟨by rfl, ?_⟩) hHeld ?_ ?_
                 rotate_left
                 ·rintro w' ⟨s0, s1, s2, s3, s4, s5, s6, s7, s8, s9, s10, s11, s12, s13, s14, s15, s16⟩
                  go_simp
                  with_reducible rfl
                 rotate_left
                 ·simp only [Act.put, sA, sZ, sS, i64_w, i32_w]
                  rfl
                 refine take_ (i := 8) (N := some 45) (v := ?_) (a' := ?_) (bl 13 495) rfl rfl (take_ofW HT_.out HW_.out (by kernel_rfl)) (fun _ _ _ h => h) (Or.inl ⟨by rfl, ?_⟩) hHeld ?_ ?_
                 rotate_left
                 ·rintro w' ⟨s0, s1, s2, s3, s4, s5, s6, s7, s8, s9, s10, s11, s12, s13, s14, s15, s16⟩
                  go_simp
                  with_reducible rfl
                 rotate_left
                 ·simp only [Act.put, sA, sZ, sS, i64_w, i32_w]
                  rfl
                 refine join_ (σ := Nat) 1 (bl 13 4095) (fun s_ => [(41, .int .i64 t107), (46, .int .i64 t108), (13, .pointer (some ⟨s_, 0, none⟩)), (47, .agg #[.int .i64 t107, .int .i64 t108])]) (fun s_ w' => (w'.cell? ⟨gb104, 0, none⟩ = some (.string ((rd_T64 l0_1 x18_1).head.pred)) ∧ w'.cell? ⟨gb104, 1, none⟩ = some (.slice A103_1 ((rd_T64 l0_1 x18_1).head.args).length c103_1) ∧ w'.cell? ⟨gb104, 2, none⟩ = some (.slice (some ad105) ((rd_T64 l0_1 x18_1).body).length c103_2) ∧ w'.cell? ⟨gb106, 0, none⟩ = some (.int .i64 ((rd_T71 ((rd_T64 l0_1 x18_1).body) x25_2).kind)) ∧ w'.cell? ⟨gb106, 1, none⟩ = some (.string ((rd_T71 ((rd_T64 l0_1 x18_1).body) x25_2).atom.pred)) ∧ w'.cell? ⟨gb106, 2, none⟩ = some (.slice A105_2 ((rd_T71 ((rd_T64 l0_1 x18_1).body) x25_2).atom.args).length c105_2) ∧ w'.cell? ⟨gb106, 3, none⟩ = some (.string ((rd_T71 ((rd_T64 l0_1 x18_1).body) x25_2).op)) ∧ w'.cell? ⟨gb106, 4, none⟩ = some (.bool ((rd_T71 ((rd_T64 l0_1 x18_1).body) x25_2).l.isVar)) ∧ w'.cell? ⟨gb106, 5, none⟩ = some (.string ((rd_T71 ((rd_T64 l0_1 x18_1).body) x25_2).l.name)) ∧ w'.cell? ⟨gb106, 6, none⟩ = some (.bool ((rd_T71 ((rd_T64 l0_1 x18_1).body) x25_2).l.val.isSym)) ∧ w'.cell? ⟨gb106, 7, none⟩ = some (.string ((rd_T71 ((rd_T64 l0_1 x18_1).body) x25_2).l.val.sym)) ∧ w'.cell? ⟨gb106, 8, none⟩ = some (.int .i64 ((rd_T71 ((rd_T64 l0_1 x18_1).body) x25_2).l.val.n)) ∧ w'.cell? ⟨gb106, 9, none⟩ = some (.bool ((rd_T71 ((rd_T64 l0_1 x18_1).body) x25_2).r.isVar)) ∧ w'.cell? ⟨gb106, 10, none⟩ = some (.string ((rd_T71 ((rd_T64 l0_1 x18_1).body) x25_2).r.name)) ∧ w'.cell? ⟨gb106, 11, none⟩ = some (.bool ((rd_T71 ((rd_T64 l0_1 x18_1).body) x25_2).r.val.isSym)) ∧ w'.cell? ⟨gb106, 12, none⟩ = some (.string ((rd_T71 ((rd_T64 l0_1 x18_1).body) x25_2).r.val.sym)) ∧ w'.cell? ⟨gb106, 13, none⟩ = some (.int .i64 ((rd_T71 ((rd_T64 l0_1 x18_1).body) x25_2).r.val.n))) ∧ (Kd.R k27 27 w' w.heap.size (fun k_ => some k_ ≠ (u7 : Value).ownBlock ∧ k_ ≠ s_) u6 x6_2) ∧ (Kd.R k27 27 w' w.heap.size (fun k_ => some k_ ≠ (u6 : Value).ownBlock ∧ k_ ≠ s_) u7 x7_2) ∧ (w'.heap[gb101]? = some (.cells #[.slice A0_0 l0_0.length c0_0, .slice (some ad103) l0_1.length c0_1] 50 (0, 0))) ∧ (w'.heap[gb102]? = some (.cells #[.slice A1 l1.length c1] 52 (0, 0))) ∧ (w'.heap[gb104]? = some (.cells #[.string ((rd_T64 l0_1 x18_1).head.pred), .slice A103_1 ((rd_T64 l0_1 x18_1).head.args).length c103_1, .slice (some ad105) ((rd_T64 l0_1 x18_1).body).length c103_2] 64 (0, 0))) ∧ (w'.heap[gb106]? = some (.cells #[.int .i64 ((rd_T71 ((rd_T64 l0_1 x18_1).body) x25_2).kind), .string ((rd_T71 ((rd_T64 l0_1 x18_1).body) x25_2).atom.pred), .slice A105_2 ((rd_T71 ((rd_T64 l0_1 x18_1).body) x25_2).atom.args).length c105_2, .string ((rd_T71 ((rd_T64 l0_1 x18_1).body) x25_2).op), .bool ((rd_T71 ((rd_T64 l0_1 x18_1).body) x25_2).l.isVar), .string ((rd_T71 ((rd_T64 l0_1 x18_1).body) x25_2).l.name), .bool ((rd_T71 ((rd_T64 l0_1 x18_1).body) x25_2).l.val.isSym), .string ((rd_T71 ((rd_T64 l0_1 x18_1).body) x25_2).l.val.sym), .int .i64 ((rd_T71 ((rd_T64 l0_1 x18_1).body) x25_2).l.val.n), .bool ((rd_T71 ((rd_T64 l0_1 x18_1).body) x25_2).r.isVar), .string ((rd_T71 ((rd_T64 l0_1 x18_1).body) x25_2).r.name), .bool ((rd_T71 ((rd_T64 l0_1 x18_1).body) x25_2).r.val.isSym), .string ((rd_T71 ((rd_T64 l0_1 x18_1).body) x25_2).r.val.sym), .int .i64 ((rd_T71 ((rd_T64 l0_1 x18_1).body) x25_2).r.val.n)] 71 (0, 0))) ∧ (w'.heap[s_]? = some (.cells #[.int .i64 0, .int .i64 0] 27 (0, 0))) ∧ (w.heap.size ≤ s_) ∧ (w.heap.size ≤ s_) ∧ (gb101 ≠ s_) ∧ (s_ ≠ gb101) ∧ (gb102 ≠ s_) ∧ (s_ ≠ gb102) ∧ (gb104 ≠ s_) ∧ (s_ ≠ gb104) ∧ (gb106 ≠ s_) ∧ (s_ ≠ gb106) ∧ (Below w.heap.size w w')) ?_ ?_
                 rotate_left
                 ·intro hCont
                  refine two_ (i := 4) (j := 11) (Ni := some 41) (Nj := some 13) (bl 13 511) (bl 13 2543) rfl rfl rfl rfl (two_of HT_.out (by kernel_rfl)) (by decide) (by decide) (fun K hK => ?_) (fun K hK => ?_)
                  ·skip
                   refine goesT_ (caps := #[.pointer (some ⟨gb102, 0, none⟩)]) Try.func63 (by kernel_rfl) rfl #[.string ((rd_T64 l0_1 x18_1).head.pred), .pointer (some ⟨gb102, 0, none⟩)] (by rfl) rfl rfl (by first | rfl | (go_simp; done)) (by (try simp only [List.map_toArray, List.map_cons, List.map_nil]); first | done | rfl | (simp only [List.length_drop, List.length_take]; rfl)) ?_
                   refine (EdgesAt.calls ((rd_T64 l0_1 x18_1).head.pred) A1 c1 l1 t107 _ ?side1 ?side2 ?side3 A33.out).mono ?_
                   (case side1 => repeat (first | exact (Kd.C_below HR1.out HB.out) | (with_reducible refine Kd.C_alloc ?_ _) | (with_reducible refine Kd.C_drewN ?_ _) | (with_reducible refine Kd.C_drew ?_)))
                   (case side2 => exact HC1.out)
                   (case side3 => (with_reducible repeat (first | refine bN ?_ _ | refine bD ?_ | refine bA ?_ _)); exact BK102.out)
                   rintro e w39 ⟨rfl, hb⟩
                   refine ⟨_, rfl, ?_⟩
                   replace HO_6 := am (Kd.R_below (by (with_reducible repeat (first | apply Ra | apply Rn | apply Rd)); exact HO_6.out) hb)
                   replace HO_7 := am (Kd.R_below (by (with_reducible repeat (first | apply Ra | apply Rn | apply Rd)); exact HO_7.out) hb)
                   replace BK101 := am (blk_below (g := gb101) (o := .cells #[.slice A0_0 l0_0.length c0_0, .slice (some ad103) l0_1.length c0_1] 50 (0, 0)) (by (with_reducible repeat (first | refine bN ?_ _ | refine bD ?_ | refine bA ?_ _)); exact BK101.out) hb)
                   replace BK102 := am (blk_below (g := gb102) (o := .cells #[.slice A1 l1.length c1] 52 (0, 0)) (by (with_reducible repeat (first | refine bN ?_ _ | refine bD ?_ | refine bA ?_ _)); exact BK102.out) hb)
                   replace BK104 := am (blk_below (g := gb104) (o := .cells #[.string ((rd_T64 l0_1 x18_1).head.pred), .slice A103_1 ((rd_T64 l0_1 x18_1).head.args).length c103_1, .slice (some ad105) ((rd_T64 l0_1 x18_1).body).length c103_2] 64 (0, 0)) (by (with_reducible repeat (first | refine bN ?_ _ | refine bD ?_ | refine bA ?_ _)); exact BK104.out) hb)
                   replace BK106 := am (blk_below (g := gb106) (o := .cells #[.int .i64 ((rd_T71 ((rd_T64 l0_1 x18_1).body) x25_2).kind), .string ((rd_T71 ((rd_T64 l0_1 x18_1).body) x25_2).atom.pred), .slice A105_2 ((rd_T71 ((rd_T64 l0_1 x18_1).body) x25_2).atom.args).length c105_2, .string ((rd_T71 ((rd_T64 l0_1 x18_1).body) x25_2).op), .bool ((rd_T71 ((rd_T64 l0_1 x18_1).body) x25_2).l.isVar), .string ((rd_T71 ((rd_T64 l0_1 x18_1).body) x25_2).l.name), .bool ((rd_T71 ((rd_T64 l0_1 x18_1).body) x25_2).l.val.isSym), .string ((rd_T71 ((rd_T64 l0_1 x18_1).body) x25_2).l.val.sym), .int .i64 ((rd_T71 ((rd_T64 l0_1 x18_1).body) x25_2).l.val.n), .bool ((rd_T71 ((rd_T64 l0_1 x18_1).body) x25_2).r.isVar), .string ((rd_T71 ((rd_T64 l0_1 x18_1).body) x25_2).r.name), .bool ((rd_T71 ((rd_T64 l0_1 x18_1).body) x25_2).r.val.isSym), .string ((rd_T71 ((rd_T64 l0_1 x18_1).body) x25_2).r.val.sym), .int .i64 ((rd_T71 ((rd_T64 l0_1 x18_1).body) x25_2).r.val.n)] 71 (0, 0)) (by (with_reducible repeat (first | refine bN ?_ _ | refine bD ?_ | refine bA ?_ _)); exact BK106.out) hb)
                   replace HB := am (below_step (by repeat (first | (with_reducible first | exact HB.out | apply lA | apply lN | apply lD | refine lS ?_ GE101.out | refine lS ?_ GE102.out | refine lS ?_ GE104.out | refine lS ?_ GE106.out) | exact HB.out)) hb)
                   (try clear hb)
                   (try clear hb2)
                   (try clear hk)
                   (try clear hi)
                   refine hK.out _ _ ⟨(blk_cell BK104.out 0).trans rfl, (blk_cell BK104.out 1).trans rfl, (blk_cell BK104.out 2).trans rfl, (blk_cell BK106.out 0).trans rfl, (blk_cell BK106.out 1).trans rfl, (blk_cell BK106.out 2).trans rfl, (blk_cell BK106.out 3).trans rfl, (blk_cell BK106.out 4).trans rfl, (blk_cell BK106.out 5).trans rfl, (blk_cell BK106.out 6).trans rfl, (blk_cell BK106.out 7).trans rfl, (blk_cell BK106.out 8).trans rfl, (blk_cell BK106.out 9).trans rfl, (blk_cell BK106.out 10).trans rfl, (blk_cell BK106.out 11).trans rfl, (blk_cell BK106.out 12).trans rfl, (blk_cell BK106.out 13).trans rfl⟩ (fun hHeld => ?_)
                   clear hK K
                   refine norm_ (a' := ?_) ?_ ?_
                   rotate_left
                   ·show Act.put _ (some 41) _ = _
                    simp only [Act.put, sA, sZ, sS, i64_w, i32_w]
                    rfl
                   refine two_ (i := 9) (j := 11) (Ni := some 46) (Nj := some 13) (bl 13 1023) (bl 13 2559) rfl rfl rfl rfl (two_of HT_.out (by kernel_rfl)) (by decide) (by decide) (fun K hK => ?_) (fun K hK => ?_)
                   ·skip
                    refine goesT_ (caps := #[.pointer (some ⟨gb102, 0, none⟩)]) Try.func63 (by kernel_rfl) rfl #[.string ((rd_T71 ((rd_T64 l0_1 x18_1).body) x25_2).atom.pred), .pointer (some ⟨gb102, 0, none⟩)] (by rfl) rfl rfl (by first | rfl | (go_simp; done)) (by (try simp only [List.map_toArray, List.map_cons, List.map_nil]); first | done | rfl | (simp only [List.length_drop, List.length_take]; rfl)) ?_
                    refine (EdgesAt.calls ((rd_T71 ((rd_T64 l0_1 x18_1).body) x25_2).atom.pred) A1 c1 l1 t108 _ ?side1 ?side2 ?side3 A34.out).mono ?_
                    (case side1 => repeat (first | exact (Kd.C_below HR1.out HB.out) | (with_reducible refine Kd.C_alloc ?_ _) | (with_reducible refine Kd.C_drewN ?_ _) | (with_reducible refine Kd.C_drew ?_)))
                    (case side2 => exact HC1.out)
                    (case side3 => (with_reducible repeat (first | refine bN ?_ _ | refine bD ?_ | refine bA ?_ _)); exact BK102.out)
                    rintro e w40 ⟨rfl, hb⟩
                    refine ⟨_, rfl, ?_⟩
                    replace HO_6 := am (Kd.R_below (by (with_reducible repeat (first | apply Ra | apply Rn | apply Rd)); exact HO_6.out) hb)
                    replace HO_7 := am (Kd.R_below (by (with_reducible repeat (first | apply Ra | apply Rn | apply Rd)); exact HO_7.out) hb)
                    replace BK101 := am (blk_below (g := gb101) (o := .cells #[.slice A0_0 l0_0.length c0_0, .slice (some ad103) l0_1.length c0_1] 50 (0, 0)) (by (with_reducible repeat (first | refine bN ?_ _ | refine bD ?_ | refine bA ?_ _)); exact BK101.out) hb)
                    replace BK102 := am (blk_below (g := gb102) (o := .cells #[.slice A1 l1.length c1] 52 (0, 0)) (by (with_reducible repeat (first | refine bN ?_ _ | refine bD ?_ | refine bA ?_ _)); exact BK102.out) hb)
                    replace BK104 := am (blk_below (g := gb104) (o := .cells #[.string ((rd_T64 l0_1 x18_1).head.pred), .slice A103_1 ((rd_T64 l0_1 x18_1).head.args).length c103_1, .slice (some ad105) ((rd_T64 l0_1 x18_1).body).length c103_2] 64 (0, 0)) (by (with_reducible repeat (first | refine bN ?_ _ | refine bD ?_ | refine bA ?_ _)); exact BK104.out) hb)
                    replace BK106 := am (blk_below (g := gb106) (o := .cells #[.int .i64 ((rd_T71 ((rd_T64 l0_1 x18_1).body) x25_2).kind), .string ((rd_T71 ((rd_T64 l0_1 x18_1).body) x25_2).atom.pred), .slice A105_2 ((rd_T71 ((rd_T64 l0_1 x18_1).body) x25_2).atom.args).length c105_2, .string ((rd_T71 ((rd_T64 l0_1 x18_1).body) x25_2).op), .bool ((rd_T71 ((rd_T64 l0_1 x18_1).body) x25_2).l.isVar), .string ((rd_T71 ((rd_T64 l0_1 x18_1).body) x25_2).l.name), .bool ((rd_T71 ((rd_T64 l0_1 x18_1).body) x25_2).l.val.isSym), .string ((rd_T71 ((rd_T64 l0_1 x18_1).body) x25_2).l.val.sym), .int .i64 ((rd_T71 ((rd_T64 l0_1 x18_1).body) x25_2).l.val.n), .bool ((rd_T71 ((rd_T64 l0_1 x18_1).body) x25_2).r.isVar), .string ((rd_T71 ((rd_T64 l0_1 x18_1).body) x25_2).r.name), .bool ((rd_T71 ((rd_T64 l0_1 x18_1).body) x25_2).r.val.isSym), .string ((rd_T71 ((rd_T64 l0_1 x18_1).body) x25_2).r.val.sym), .int .i64 ((rd_T71 ((rd_T64 l0_1 x18_1).body) x25_2).r.val.n)] 71 (0, 0)) (by (with_reducible repeat (first | refine bN ?_ _ | refine bD ?_ | refine bA ?_ _)); exact BK106.out) hb)
                    replace HB := am (below_step (by repeat (first | (with_reducible first | exact HB.out | apply lA | apply lN | apply lD | refine lS ?_ GE101.out | refine lS ?_ GE102.out | refine lS ?_ GE104.out | refine lS ?_ GE106.out) | exact HB.out)) hb)
                    (try clear hb)
                    (try clear hb2)
                    (try clear hk)
                    (try clear hi)
                    refine hK.out _ _ ⟨(blk_cell BK104.out 0).trans rfl, (blk_cell BK104.out 1).trans rfl, (blk_cell BK104.out 2).trans rfl, (blk_cell BK106.out 0).trans rfl, (blk_cell BK106.out 1).trans rfl, (blk_cell BK106.out 2).trans rfl, (blk_cell BK106.out 3).trans rfl, (blk_cell BK106.out 4).trans rfl, (blk_cell BK106.out 5).trans rfl, (blk_cell BK106.out 6).trans rfl, (blk_cell BK106.out 7).trans rfl, (blk_cell BK106.out 8).trans rfl, (blk_cell BK106.out 9).trans rfl, (blk_cell BK106.out 10).trans rfl, (blk_cell BK106.out 11).trans rfl, (blk_cell BK106.out 12).trans rfl, (blk_cell BK106.out 13).trans rfl⟩ (fun hHeld => ?_)
                    clear hK K
                    refine norm_ (a' := ?_) ?_ ?_
                    rotate_left
                    ·show Act.put _ (some 46) _ = _
                     simp only [Act.put, sA, sZ, sS, i64_w, i32_w]
                     rfl
                    refine pure_ (i := 10) (N := some 47) (v := ?_) (a' := ?_) (bl 13 2047) rfl rfl (any_of HT_.out (by kernel_rfl)) (fun _ _ _ h => h) (Or.inl ⟨by rfl, ?_⟩) ?_ ?_
                    rotate_left
                    ·intro w'
                     go_simp
                     with_reducible rfl
                    rotate_left
                    ·simp only [Act.put, sA, sZ, sS, i64_w, i32_w]
                     rfl
                    refine one_ (i := 11) (N := some 13) (bl 13 4095) rfl rfl (one_of HT_.out (by kernel_rfl)) (by decide) (fun K hK => ?_)
                    refine box_step ?hg (N := 13) ?hd (cs := #[.int .i64 0, .int .i64 0]) (t := 27) ?hr ?_; (case hd => rfl); (case hg => rfl); (case hr => first | (go_simp; done) | (go_simp; rfl))
                    intro gb109 hg w41 hbox hb
                    replace HO_6 := am (Kd.R_below (Kd.R_elderB (by (with_reducible repeat (first | apply Ra | apply Rn | apply Rd)); exact HO_6.out) gb109 (Nat.le_of_eq hg.symm)) hb)
                    replace HO_7 := am (Kd.R_below (Kd.R_elderB (by (with_reducible repeat (first | apply Ra | apply Rn | apply Rd)); exact HO_7.out) gb109 (Nat.le_of_eq hg.symm)) hb)
                    have BK109 := am (hbox)
                    have GW109 := am ((by rw [hg]; exact (below_size (by repeat (first | (with_reducible first | exact HB.out | apply lA | apply lN | apply lD | refine lS ?_ GE101.out | refine lS ?_ GE102.out | refine lS ?_ GE104.out | refine lS ?_ GE106.out) | exact HB.out))) : w.heap.size ≤ gb109))
                    have GE109 := am ((by rw [hg]; exact (below_size (by repeat (first | (with_reducible first | exact HB.out | apply lA | apply lN | apply lD | refine lS ?_ GE101.out | refine lS ?_ GE102.out | refine lS ?_ GE104.out | refine lS ?_ GE106.out) | exact HB.out))) : w.heap.size ≤ gb109))
                    replace HB := am (below_step (by repeat (first | (with_reducible first | exact HB.out | apply lA | apply lN | apply lD | refine lS ?_ GE101.out | refine lS ?_ GE102.out | refine lS ?_ GE104.out | refine lS ?_ GE106.out) | exact HB.out)) hb)
                    have NB101_109 := am ((by rw [hg]; exact Nat.ne_of_lt (blk_lt (g := gb101) (o := .cells #[.slice A0_0 l0_0.length c0_0, .slice (some ad103) l0_1.length c0_1] 50 (0, 0)) (by (with_reducible repeat (first | refine bN ?_ _ | refine bD ?_ | refine bA ?_ _)); exact BK101.out)) : gb101 ≠ gb109))
                    have NB109_101 := am ((by rw [hg]; exact Nat.ne_of_gt (blk_lt (g := gb101) (o := .cells #[.slice A0_0 l0_0.length c0_0, .slice (some ad103) l0_1.length c0_1] 50 (0, 0)) (by (with_reducible repeat (first | refine bN ?_ _ | refine bD ?_ | refine bA ?_ _)); exact BK101.out)) : gb109 ≠ gb101))
                    replace BK101 := am (blk_below (g := gb101) (o := .cells #[.slice A0_0 l0_0.length c0_0, .slice (some ad103) l0_1.length c0_1] 50 (0, 0)) (by (with_reducible repeat (first | refine bN ?_ _ | refine bD ?_ | refine bA ?_ _)); exact BK101.out) hb)
                    have NB102_109 := am ((by rw [hg]; exact Nat.ne_of_lt (blk_lt (g := gb102) (o := .cells #[.slice A1 l1.length c1] 52 (0, 0)) (by (with_reducible repeat (first | refine bN ?_ _ | refine bD ?_ | refine bA ?_ _)); exact BK102.out)) : gb102 ≠ gb109))
                    have NB109_102 := am ((by rw [hg]; exact Nat.ne_of_gt (blk_lt (g := gb102) (o := .cells #[.slice A1 l1.length c1] 52 (0, 0)) (by (with_reducible repeat (first | refine bN ?_ _ | refine bD ?_ | refine bA ?_ _)); exact BK102.out)) : gb109 ≠ gb102))
                    replace BK102 := am (blk_below (g := gb102) (o := .cells #[.slice A1 l1.length c1] 52 (0, 0)) (by (with_reducible repeat (first | refine bN ?_ _ | refine bD ?_ | refine bA ?_ _)); exact BK102.out) hb)
                    have NB104_109 := am ((by rw [hg]; exact Nat.ne_of_lt (blk_lt (g := gb104) (o := .cells #[.string ((rd_T64 l0_1 x18_1).head.pred), .slice A103_1 ((rd_T64 l0_1 x18_1).head.args).length c103_1, .slice (some ad105) ((rd_T64 l0_1 x18_1).body).length c103_2] 64 (0, 0)) (by (with_reducible repeat (first | refine bN ?_ _ | refine bD ?_ | refine bA ?_ _)); exact BK104.out)) : gb104 ≠ gb109))
                    have NB109_104 := am ((by rw [hg]; exact Nat.ne_of_gt (blk_lt (g := gb104) (o := .cells #[.string ((rd_T64 l0_1 x18_1).head.pred), .slice A103_1 ((rd_T64 l0_1 x18_1).head.args).length c103_1, .slice (some ad105) ((rd_T64 l0_1 x18_1).body).length c103_2] 64 (0, 0)) (by (with_reducible repeat (first | refine bN ?_ _ | refine bD ?_ | refine bA ?_ _)); exact BK104.out)) : gb109 ≠ gb104))
                    replace BK104 := am (blk_below (g := gb104) (o := .cells #[.string ((rd_T64 l0_1 x18_1).head.pred), .slice A103_1 ((rd_T64 l0_1 x18_1).head.args).length c103_1, .slice (some ad105) ((rd_T64 l0_1 x18_1).body).length c103_2] 64 (0, 0)) (by (with_reducible repeat (first | refine bN ?_ _ | refine bD ?_ | refine bA ?_ _)); exact BK104.out) hb)
                    have NB106_109 := am ((by rw [hg]; exact Nat.ne_of_lt (blk_lt (g := gb106) (o := .cells #[.int .i64 ((rd_T71 ((rd_T64 l0_1 x18_1).body) x25_2).kind), .string ((rd_T71 ((rd_T64 l0_1 x18_1).body) x25_2).atom.pred), .slice A105_2 ((rd_T71 ((rd_T64 l0_1 x18_1).body) x25_2).atom.args).length c105_2, .string ((rd_T71 ((rd_T64 l0_1 x18_1).body) x25_2).op), .bool ((rd_T71 ((rd_T64 l0_1 x18_1).body) x25_2).l.isVar), .string ((rd_T71 ((rd_T64 l0_1 x18_1).body) x25_2).l.name), .bool ((rd_T71 ((rd_T64 l0_1 x18_1).body) x25_2).l.val.isSym), .string ((rd_T71 ((rd_T64 l0_1 x18_1).body) x25_2).l.val.sym), .int .i64 ((rd_T71 ((rd_T64 l0_1 x18_1).body) x25_2).l.val.n), .bool ((rd_T71 ((rd_T64 l0_1 x18_1).body) x25_2).r.isVar), .string ((rd_T71 ((rd_T64 l0_1 x18_1).body) x25_2).r.name), .bool ((rd_T71 ((rd_T64 l0_1 x18_1).body) x25_2).r.val.isSym), .string ((rd_T71 ((rd_T64 l0_1 x18_1).body) x25_2).r.val.sym), .int .i64 ((rd_T71 ((rd_T64 l0_1 x18_1).body) x25_2).r.val.n)] 71 (0, 0)) (by (with_reducible repeat (first | refine bN ?_ _ | refine bD ?_ | refine bA ?_ _)); exact BK106.out)) : gb106 ≠ gb109))
                    have NB109_106 := am ((by rw [hg]; exact Nat.ne_of_gt (blk_lt (g := gb106) (o := .cells #[.int .i64 ((rd_T71 ((rd_T64 l0_1 x18_1).body) x25_2).kind), .string ((rd_T71 ((rd_T64 l0_1 x18_1).body) x25_2).atom.pred), .slice A105_2 ((rd_T71 ((rd_T64 l0_1 x18_1).body) x25_2).atom.args).length c105_2, .string ((rd_T71 ((rd_T64 l0_1 x18_1).body) x25_2).op), .bool ((rd_T71 ((rd_T64 l0_1 x18_1).body) x25_2).l.isVar), .string ((rd_T71 ((rd_T64 l0_1 x18_1).body) x25_2).l.name), .bool ((rd_T71 ((rd_T64 l0_1 x18_1).body) x25_2).l.val.isSym), .string ((rd_T71 ((rd_T64 l0_1 x18_1).body) x25_2).l.val.sym), .int .i64 ((rd_T71 ((rd_T64 l0_1 x18_1).body) x25_2).l.val.n), .bool ((rd_T71 ((rd_T64 l0_1 x18_1).body) x25_2).r.isVar), .string ((rd_T71 ((rd_T64 l0_1 x18_1).body) x25_2).r.name), .bool ((rd_T71 ((rd_T64 l0_1 x18_1).body) x25_2).r.val.isSym), .string ((rd_T71 ((rd_T64 l0_1 x18_1).body) x25_2).r.val.sym), .int .i64 ((rd_T71 ((rd_T64 l0_1 x18_1).body) x25_2).r.val.n)] 71 (0, 0)) (by (with_reducible repeat (first | refine bN ?_ _ | refine bD ?_ | refine bA ?_ _)); exact BK106.out)) : gb109 ≠ gb106))
                    replace BK106 := am (blk_below (g := gb106) (o := .cells #[.int .i64 ((rd_T71 ((rd_T64 l0_1 x18_1).body) x25_2).kind), .string ((rd_T71 ((rd_T64 l0_1 x18_1).body) x25_2).atom.pred), .slice A105_2 ((rd_T71 ((rd_T64 l0_1 x18_1).body) x25_2).atom.args).length c105_2, .string ((rd_T71 ((rd_T64 l0_1 x18_1).body) x25_2).op), .bool ((rd_T71 ((rd_T64 l0_1 x18_1).body) x25_2).l.isVar), .string ((rd_T71 ((rd_T64 l0_1 x18_1).body) x25_2).l.name), .bool ((rd_T71 ((rd_T64 l0_1 x18_1).body) x25_2).l.val.isSym), .string ((rd_T71 ((rd_T64 l0_1 x18_1).body) x25_2).l.val.sym), .int .i64 ((rd_T71 ((rd_T64 l0_1 x18_1).body) x25_2).l.val.n), .bool ((rd_T71 ((rd_T64 l0_1 x18_1).body) x25_2).r.isVar), .string ((rd_T71 ((rd_T64 l0_1 x18_1).body) x25_2).r.name), .bool ((rd_T71 ((rd_T64 l0_1 x18_1).body) x25_2).r.val.isSym), .string ((rd_T71 ((rd_T64 l0_1 x18_1).body) x25_2).r.val.sym), .int .i64 ((rd_T71 ((rd_T64 l0_1 x18_1).body) x25_2).r.val.n)] 71 (0, 0)) (by (with_reducible repeat (first | refine bN ?_ _ | refine bD ?_ | refine bA ?_ _)); exact BK106.out) hb)
                    clear hb hbox hg
                    refine hK.out _ _ ⟨(blk_cell BK104.out 0).trans rfl, (blk_cell BK104.out 1).trans rfl, (blk_cell BK104.out 2).trans rfl, (blk_cell BK106.out 0).trans rfl, (blk_cell BK106.out 1).trans rfl, (blk_cell BK106.out 2).trans rfl, (blk_cell BK106.out 3).trans rfl, (blk_cell BK106.out 4).trans rfl, (blk_cell BK106.out 5).trans rfl, (blk_cell BK106.out 6).trans rfl, (blk_cell BK106.out 7).trans rfl, (blk_cell BK106.out 8).trans rfl, (blk_cell BK106.out 9).trans rfl, (blk_cell BK106.out 10).trans rfl, (blk_cell BK106.out 11).trans rfl, (blk_cell BK106.out 12).trans rfl, (blk_cell BK106.out 13).trans rfl⟩ (fun hHeld => ?_)
                    clear hK K
                    refine norm_ (a' := ?_) ?_ ?_
                    rotate_left
                    ·show Act.put _ (some 13) _ = _
                     simp only [Act.put, sA, sZ, sS, i64_w, i32_w]
                     rfl
                    exact norm_ (by simp only [putAll, Act.put, List.setIfInBounds_toArray, List.set_cons_zero, List.set_cons_succ]) (hCont (gb109) _ ⟨hHeld, (by (with_reducible repeat (first | apply Ra | apply Rn | apply Rd)); exact HO_6.out), (by (with_reducible repeat (first | apply Ra | apply Rn | apply Rd)); exact HO_7.out), (by (with_reducible repeat (first | refine bN ?_ _ | refine bD ?_ | refine bA ?_ _)); exact BK101.out), (by (with_reducible repeat (first | refine bN ?_ _ | refine bD ?_ | refine bA ?_ _)); exact BK102.out), (by (with_reducible repeat (first | refine bN ?_ _ | refine bD ?_ | refine bA ?_ _)); exact BK104.out), (by (with_reducible repeat (first | refine bN ?_ _ | refine bD ?_ | refine bA ?_ _)); exact BK106.out), (by (with_reducible repeat (first | refine bN ?_ _ | refine bD ?_ | refine bA ?_ _)); exact BK109.out), GW109.out, GE109.out, NB101_109.out, NB109_101.out, NB102_109.out, NB109_102.out, NB104_109.out, NB109_104.out, NB106_109.out, NB109_106.out, (by repeat (first | (with_reducible first | exact HB.out | apply lA | apply lN | apply lD | refine lS ?_ GE101.out | refine lS ?_ GE102.out | refine lS ?_ GE104.out | refine lS ?_ GE106.out | refine lS ?_ GE109.out) | exact HB.out))⟩)
                   ·skip
                    refine box_step ?hg (N := 13) ?hd (cs := #[.int .i64 0, .int .i64 0]) (t := 27) ?hr ?_; (case hd => rfl); (case hg => rfl); (case hr => first | (go_simp; done) | (go_simp; rfl))
                    intro gb109 hg w40 hbox hb
                    replace HO_6 := am (Kd.R_below (Kd.R_elderB (by (with_reducible repeat (first | apply Ra | apply Rn | apply Rd)); exact HO_6.out) gb109 (Nat.le_of_eq hg.symm)) hb)
                    replace HO_7 := am (Kd.R_below (Kd.R_elderB (by (with_reducible repeat (first | apply Ra | apply Rn | apply Rd)); exact HO_7.out) gb109 (Nat.le_of_eq hg.symm)) hb)
                    have BK109 := am (hbox)
                    have GW109 := am ((by rw [hg]; exact (below_size (by repeat (first | (with_reducible first | exact HB.out | apply lA | apply lN | apply lD | refine lS ?_ GE101.out | refine lS ?_ GE102.out | refine lS ?_ GE104.out | refine lS ?_ GE106.out) | exact HB.out))) : w.heap.size ≤ gb109))
                    have GE109 := am ((by rw [hg]; exact (below_size (by repeat (first | (with_reducible first | exact HB.out | apply lA | apply lN | apply lD | refine lS ?_ GE101.out | refine lS ?_ GE102.out | refine lS ?_ GE104.out | refine lS ?_ GE106.out) | exact HB.out))) : w.heap.size ≤ gb109))
                    replace HB := am (below_step (by repeat (first | (with_reducible first | exact HB.out | apply lA | apply lN | apply lD | refine lS ?_ GE101.out | refine lS ?_ GE102.out | refine lS ?_ GE104.out | refine lS ?_ GE106.out) | exact HB.out)) hb)
                    have NB101_109 := am ((by rw [hg]; exact Nat.ne_of_lt (blk_lt (g := gb101) (o := .cells #[.slice A0_0 l0_0.length c0_0, .slice (some ad103) l0_1.length c0_1] 50 (0, 0)) (by (with_reducible repeat (first | refine bN ?_ _ | refine bD ?_ | refine bA ?_ _)); exact BK101.out)) : gb101 ≠ gb109))
                    have NB109_101 := am ((by rw [hg]; exact Nat.ne_of_gt (blk_lt (g := gb101) (o := .cells #[.slice A0_0 l0_0.length c0_0, .slice (some ad103) l0_1.length c0_1] 50 (0, 0)) (by (with_reducible repeat (first | refine bN ?_ _ | refine bD ?_ | refine bA ?_ _)); exact BK101.out)) : gb109 ≠ gb101))
                    replace BK101 := am (blk_below (g := gb101) (o := .cells #[.slice A0_0 l0_0.length c0_0, .slice (some ad103) l0_1.length c0_1] 50 (0, 0)) (by (with_reducible repeat (first | refine bN ?_ _ | refine bD ?_ | refine bA ?_ _)); exact BK101.out) hb)
                    have NB102_109 := am ((by rw [hg]; exact Nat.ne_of_lt (blk_lt (g := gb102) (o := .cells #[.slice A1 l1.length c1] 52 (0, 0)) (by (with_reducible repeat (first | refine bN ?_ _ | refine bD ?_ | refine bA ?_ _)); exact BK102.out)) : gb102 ≠ gb109))
                    have NB109_102 := am ((by rw [hg]; exact Nat.ne_of_gt (blk_lt (g := gb102) (o := .cells #[.slice A1 l1.length c1] 52 (0, 0)) (by (with_reducible repeat (first | refine bN ?_ _ | refine bD ?_ | refine bA ?_ _)); exact BK102.out)) : gb109 ≠ gb102))
                    replace BK102 := am (blk_below (g := gb102) (o := .cells #[.slice A1 l1.length c1] 52 (0, 0)) (by (with_reducible repeat (first | refine bN ?_ _ | refine bD ?_ | refine bA ?_ _)); exact BK102.out) hb)
                    have NB104_109 := am ((by rw [hg]; exact Nat.ne_of_lt (blk_lt (g := gb104) (o := .cells #[.string ((rd_T64 l0_1 x18_1).head.pred), .slice A103_1 ((rd_T64 l0_1 x18_1).head.args).length c103_1, .slice (some ad105) ((rd_T64 l0_1 x18_1).body).length c103_2] 64 (0, 0)) (by (with_reducible repeat (first | refine bN ?_ _ | refine bD ?_ | refine bA ?_ _)); exact BK104.out)) : gb104 ≠ gb109))
                    have NB109_104 := am ((by rw [hg]; exact Nat.ne_of_gt (blk_lt (g := gb104) (o := .cells #[.string ((rd_T64 l0_1 x18_1).head.pred), .slice A103_1 ((rd_T64 l0_1 x18_1).head.args).length c103_1, .slice (some ad105) ((rd_T64 l0_1 x18_1).body).length c103_2] 64 (0, 0)) (by (with_reducible repeat (first | refine bN ?_ _ | refine bD ?_ | refine bA ?_ _)); exact BK104.out)) : gb109 ≠ gb104))
                    replace BK104 := am (blk_below (g := gb104) (o := .cells #[.string ((rd_T64 l0_1 x18_1).head.pred), .slice A103_1 ((rd_T64 l0_1 x18_1).head.args).length c103_1, .slice (some ad105) ((rd_T64 l0_1 x18_1).body).length c103_2] 64 (0, 0)) (by (with_reducible repeat (first | refine bN ?_ _ | refine bD ?_ | refine bA ?_ _)); exact BK104.out) hb)
                    have NB106_109 := am ((by rw [hg]; exact Nat.ne_of_lt (blk_lt (g := gb106) (o := .cells #[.int .i64 ((rd_T71 ((rd_T64 l0_1 x18_1).body) x25_2).kind), .string ((rd_T71 ((rd_T64 l0_1 x18_1).body) x25_2).atom.pred), .slice A105_2 ((rd_T71 ((rd_T64 l0_1 x18_1).body) x25_2).atom.args).length c105_2, .string ((rd_T71 ((rd_T64 l0_1 x18_1).body) x25_2).op), .bool ((rd_T71 ((rd_T64 l0_1 x18_1).body) x25_2).l.isVar), .string ((rd_T71 ((rd_T64 l0_1 x18_1).body) x25_2).l.name), .bool ((rd_T71 ((rd_T64 l0_1 x18_1).body) x25_2).l.val.isSym), .string ((rd_T71 ((rd_T64 l0_1 x18_1).body) x25_2).l.val.sym), .int .i64 ((rd_T71 ((rd_T64 l0_1 x18_1).body) x25_2).l.val.n), .bool ((rd_T71 ((rd_T64 l0_1 x18_1).body) x25_2).r.isVar), .string ((rd_T71 ((rd_T64 l0_1 x18_1).body) x25_2).r.name), .bool ((rd_T71 ((rd_T64 l0_1 x18_1).body) x25_2).r.val.isSym), .string ((rd_T71 ((rd_T64 l0_1 x18_1).body) x25_2).r.val.sym), .int .i64 ((rd_T71 ((rd_T64 l0_1 x18_1).body) x25_2).r.val.n)] 71 (0, 0)) (by (with_reducible repeat (first | refine bN ?_ _ | refine bD ?_ | refine bA ?_ _)); exact BK106.out)) : gb106 ≠ gb109))
                    have NB109_106 := am ((by rw [hg]; exact Nat.ne_of_gt (blk_lt (g := gb106) (o := .cells #[.int .i64 ((rd_T71 ((rd_T64 l0_1 x18_1).body) x25_2).kind), .string ((rd_T71 ((rd_T64 l0_1 x18_1).body) x25_2).atom.pred), .slice A105_2 ((rd_T71 ((rd_T64 l0_1 x18_1).body) x25_2).atom.args).length c105_2, .string ((rd_T71 ((rd_T64 l0_1 x18_1).body) x25_2).op), .bool ((rd_T71 ((rd_T64 l0_1 x18_1).body) x25_2).l.isVar), .string ((rd_T71 ((rd_T64 l0_1 x18_1).body) x25_2).l.name), .bool ((rd_T71 ((rd_T64 l0_1 x18_1).body) x25_2).l.val.isSym), .string ((rd_T71 ((rd_T64 l0_1 x18_1).body) x25_2).l.val.sym), .int .i64 ((rd_T71 ((rd_T64 l0_1 x18_1).body) x25_2).l.val.n), .bool ((rd_T71 ((rd_T64 l0_1 x18_1).body) x25_2).r.isVar), .string ((rd_T71 ((rd_T64 l0_1 x18_1).body) x25_2).r.name), .bool ((rd_T71 ((rd_T64 l0_1 x18_1).body) x25_2).r.val.isSym), .string ((rd_T71 ((rd_T64 l0_1 x18_1).body) x25_2).r.val.sym), .int .i64 ((rd_T71 ((rd_T64 l0_1 x18_1).body) x25_2).r.val.n)] 71 (0, 0)) (by (with_reducible repeat (first | refine bN ?_ _ | refine bD ?_ | refine bA ?_ _)); exact BK106.out)) : gb109 ≠ gb106))
                    replace BK106 := am (blk_below (g := gb106) (o := .cells #[.int .i64 ((rd_T71 ((rd_T64 l0_1 x18_1).body) x25_2).kind), .string ((rd_T71 ((rd_T64 l0_1 x18_1).body) x25_2).atom.pred), .slice A105_2 ((rd_T71 ((rd_T64 l0_1 x18_1).body) x25_2).atom.args).length c105_2, .string ((rd_T71 ((rd_T64 l0_1 x18_1).body) x25_2).op), .bool ((rd_T71 ((rd_T64 l0_1 x18_1).body) x25_2).l.isVar), .string ((rd_T71 ((rd_T64 l0_1 x18_1).body) x25_2).l.name), .bool ((rd_T71 ((rd_T64 l0_1 x18_1).body) x25_2).l.val.isSym), .string ((rd_T71 ((rd_T64 l0_1 x18_1).body) x25_2).l.val.sym), .int .i64 ((rd_T71 ((rd_T64 l0_1 x18_1).body) x25_2).l.val.n), .bool ((rd_T71 ((rd_T64 l0_1 x18_1).body) x25_2).r.isVar), .string ((rd_T71 ((rd_T64 l0_1 x18_1).body) x25_2).r.name), .bool ((rd_T71 ((rd_T64 l0_1 x18_1).body) x25_2).r.val.isSym), .string ((rd_T71 ((rd_T64 l0_1 x18_1).body) x25_2).r.val.sym), .int .i64 ((rd_T71 ((rd_T64 l0_1 x18_1).body) x25_2).r.val.n)] 71 (0, 0)) (by (with_reducible repeat (first | refine bN ?_ _ | refine bD ?_ | refine bA ?_ _)); exact BK106.out) hb)
                    clear hb hbox hg
                    refine hK.out _ _ ⟨(blk_cell BK104.out 0).trans rfl, (blk_cell BK104.out 1).trans rfl, (blk_cell BK104.out 2).trans rfl, (blk_cell BK106.out 0).trans rfl, (blk_cell BK106.out 1).trans rfl, (blk_cell BK106.out 2).trans rfl, (blk_cell BK106.out 3).trans rfl, (blk_cell BK106.out 4).trans rfl, (blk_cell BK106.out 5).trans rfl, (blk_cell BK106.out 6).trans rfl, (blk_cell BK106.out 7).trans rfl, (blk_cell BK106.out 8).trans rfl, (blk_cell BK106.out 9).trans rfl, (blk_cell BK106.out 10).trans rfl, (blk_cell BK106.out 11).trans rfl, (blk_cell BK106.out 12).trans rfl, (blk_cell BK106.out 13).trans rfl⟩ (fun hHeld => ?_)
                    clear hK K
                    refine norm_ (a' := ?_) ?_ ?_
                    rotate_left
                    ·show Act.put _ (some 13) _ = _
                     simp only [Act.put, sA, sZ, sS, i64_w, i32_w]
                     rfl
                    refine one_ (i := 9) (N := some 46) (bl 13 3071) rfl rfl (one_of HT_.out (by kernel_rfl)) (by decide) (fun K hK => ?_)
                    refine goesT_ (caps := #[.pointer (some ⟨gb102, 0, none⟩)]) Try.func63 (by kernel_rfl) rfl #[.string ((rd_T71 ((rd_T64 l0_1 x18_1).body) x25_2).atom.pred), .pointer (some ⟨gb102, 0, none⟩)] (by rfl) rfl rfl (by first | rfl | (go_simp; done)) (by (try simp only [List.map_toArray, List.map_cons, List.map_nil]); first | done | rfl | (simp only [List.length_drop, List.length_take]; rfl)) ?_
                    refine (EdgesAt.calls ((rd_T71 ((rd_T64 l0_1 x18_1).body) x25_2).atom.pred) A1 c1 l1 t108 _ ?side1 ?side2 ?side3 A34.out).mono ?_
                    (case side1 => repeat (first | exact (Kd.C_below HR1.out HB.out) | (with_reducible refine Kd.C_alloc ?_ _) | (with_reducible refine Kd.C_drewN ?_ _) | (with_reducible refine Kd.C_drew ?_)))
                    (case side2 => exact HC1.out)
                    (case side3 => (with_reducible repeat (first | refine bN ?_ _ | refine bD ?_ | refine bA ?_ _)); exact BK102.out)
                    rintro e w41 ⟨rfl, hb⟩
                    refine ⟨_, rfl, ?_⟩
                    replace HO_6 := am (Kd.R_below (by (with_reducible repeat (first | apply Ra | apply Rn | apply Rd)); exact HO_6.out) hb)
                    replace HO_7 := am (Kd.R_below (by (with_reducible repeat (first | apply Ra | apply Rn | apply Rd)); exact HO_7.out) hb)
                    replace BK101 := am (blk_below (g := gb101) (o := .cells #[.slice A0_0 l0_0.length c0_0, .slice (some ad103) l0_1.length c0_1] 50 (0, 0)) (by (with_reducible repeat (first | refine bN ?_ _ | refine bD ?_ | refine bA ?_ _)); exact BK101.out) hb)
                    replace BK102 := am (blk_below (g := gb102) (o := .cells #[.slice A1 l1.length c1] 52 (0, 0)) (by (with_reducible repeat (first | refine bN ?_ _ | refine bD ?_ | refine bA ?_ _)); exact BK102.out) hb)
                    replace BK104 := am (blk_below (g := gb104) (o := .cells #[.string ((rd_T64 l0_1 x18_1).head.pred), .slice A103_1 ((rd_T64 l0_1 x18_1).head.args).length c103_1, .slice (some ad105) ((rd_T64 l0_1 x18_1).body).length c103_2] 64 (0, 0)) (by (with_reducible repeat (first | refine bN ?_ _ | refine bD ?_ | refine bA ?_ _)); exact BK104.out) hb)
                    replace BK106 := am (blk_below (g := gb106) (o := .cells #[.int .i64 ((rd_T71 ((rd_T64 l0_1 x18_1).body) x25_2).kind), .string ((rd_T71 ((rd_T64 l0_1 x18_1).body) x25_2).atom.pred), .slice A105_2 ((rd_T71 ((rd_T64 l0_1 x18_1).body) x25_2).atom.args).length c105_2, .string ((rd_T71 ((rd_T64 l0_1 x18_1).body) x25_2).op), .bool ((rd_T71 ((rd_T64 l0_1 x18_1).body) x25_2).l.isVar), .string ((rd_T71 ((rd_T64 l0_1 x18_1).body) x25_2).l.name), .bool ((rd_T71 ((rd_T64 l0_1 x18_1).body) x25_2).l.val.isSym), .string ((rd_T71 ((rd_T64 l0_1 x18_1).body) x25_2).l.val.sym), .int .i64 ((rd_T71 ((rd_T64 l0_1 x18_1).body) x25_2).l.val.n), .bool ((rd_T71 ((rd_T64 l0_1 x18_1).body) x25_2).r.isVar), .string ((rd_T71 ((rd_T64 l0_1 x18_1).body) x25_2).r.name), .bool ((rd_T71 ((rd_T64 l0_1 x18_1).body) x25_2).r.val.isSym), .string ((rd_T71 ((rd_T64 l0_1 x18_1).body) x25_2).r.val.sym), .int .i64 ((rd_T71 ((rd_T64 l0_1 x18_1).body) x25_2).r.val.n)] 71 (0, 0)) (by (with_reducible repeat (first | refine bN ?_ _ | refine bD ?_ | refine bA ?_ _)); exact BK106.out) hb)
                    replace BK109 := am (blk_below (g := gb109) (o := .cells #[.int .i64 0, .int .i64 0] 27 (0, 0)) (by (with_reducible repeat (first | refine bN ?_ _ | refine bD ?_ | refine bA ?_ _)); exact BK109.out) hb)
                    replace HB := am (below_step (by repeat (first | (with_reducible first | exact HB.out | apply lA | apply lN | apply lD | refine lS ?_ GE101.out | refine lS ?_ GE102.out | refine lS ?_ GE104.out | refine lS ?_ GE106.out | refine lS ?_ GE109.out) | exact HB.out)) hb)
                    (try clear hb)
                    (try clear hb2)
                    (try clear hk)
                    (try clear hi)
                    refine hK.out _ _ ⟨(blk_cell BK104.out 0).trans rfl, (blk_cell BK104.out 1).trans rfl, (blk_cell BK104.out 2).trans rfl, (blk_cell BK106.out 0).trans rfl, (blk_cell BK106.out 1).trans rfl, (blk_cell BK106.out 2).trans rfl, (blk_cell BK106.out 3).trans rfl, (blk_cell BK106.out 4).trans rfl, (blk_cell BK106.out 5).trans rfl, (blk_cell BK106.out 6).trans rfl, (blk_cell BK106.out 7).trans rfl, (blk_cell BK106.out 8).trans rfl, (blk_cell BK106.out 9).trans rfl, (blk_cell BK106.out 10).trans rfl, (blk_cell BK106.out 11).trans rfl, (blk_cell BK106.out 12).trans rfl, (blk_cell BK106.out 13).trans rfl⟩ (fun hHeld => ?_)
                    clear hK K
                    refine norm_ (a' := ?_) ?_ ?_
                    rotate_left
                    ·show Act.put _ (some 46) _ = _
                     simp only [Act.put, sA, sZ, sS, i64_w, i32_w]
                     rfl
                    refine pure_ (i := 10) (N := some 47) (v := ?_) (a' := ?_) (bl 13 4095) rfl rfl (any_of HT_.out (by kernel_rfl)) (fun _ _ _ h => h) (Or.inl ⟨by rfl, ?_⟩) ?_ ?_
                    rotate_left
                    ·intro w'
                     go_simp
                     with_reducible rfl
                    rotate_left
                    ·simp only [Act.put, sA, sZ, sS, i64_w, i32_w]
                     rfl
                    exact norm_ (by simp only [putAll, Act.put, List.setIfInBounds_toArray, List.set_cons_zero, List.set_cons_succ]) (hCont (gb109) _ ⟨hHeld, (by (with_reducible repeat (first | apply Ra | apply Rn | apply Rd)); exact HO_6.out), (by (with_reducible repeat (first | apply Ra | apply Rn | apply Rd)); exact HO_7.out), (by (with_reducible repeat (first | refine bN ?_ _ | refine bD ?_ | refine bA ?_ _)); exact BK101.out), (by (with_reducible repeat (first | refine bN ?_ _ | refine bD ?_ | refine bA ?_ _)); exact BK102.out), (by (with_reducible repeat (first | refine bN ?_ _ | refine bD ?_ | refine bA ?_ _)); exact BK104.out), (by (with_reducible repeat (first | refine bN ?_ _ | refine bD ?_ | refine bA ?_ _)); exact BK106.out), (by (with_reducible repeat (first | refine bN ?_ _ | refine bD ?_ | refine bA ?_ _)); exact BK109.out), GW109.out, GE109.out, NB101_109.out, NB109_101.out, NB102_109.out, NB109_102.out, NB104_109.out, NB109_104.out, NB106_109.out, NB109_106.out, (by repeat (first | (with_reducible first | exact HB.out | apply lA | apply lN | apply lD | refine lS ?_ GE101.out | refine lS ?_ GE102.out | refine lS ?_ GE104.out | refine lS ?_ GE106.out | refine lS ?_ GE109.out) | exact HB.out))⟩)
                  ·skip
                   refine box_step ?hg (N := 13) ?hd (cs := #[.int .i64 0, .int .i64 0]) (t := 27) ?hr ?_; (case hd => rfl); (case hg => rfl); (case hr => first | (go_simp; done) | (go_simp; rfl))
                   intro gb109 hg w39 hbox hb
                   replace HO_6 := am (Kd.R_below (Kd.R_elderB (by (with_reducible repeat (first | apply Ra | apply Rn | apply Rd)); exact HO_6.out) gb109 (Nat.le_of_eq hg.symm)) hb)
                   replace HO_7 := am (Kd.R_below (Kd.R_elderB (by (with_reducible repeat (first | apply Ra | apply Rn | apply Rd)); exact HO_7.out) gb109 (Nat.le_of_eq hg.symm)) hb)
                   have BK109 := am (hbox)
                   have GW109 := am ((by rw [hg]; exact (below_size (by repeat (first | (with_reducible first | exact HB.out | apply lA | apply lN | apply lD | refine lS ?_ GE101.out | refine lS ?_ GE102.out | refine lS ?_ GE104.out | refine lS ?_ GE106.out) | exact HB.out))) : w.heap.size ≤ gb109))
                   have GE109 := am ((by rw [hg]; exact (below_size (by repeat (first | (with_reducible first | exact HB.out | apply lA | apply lN | apply lD | refine lS ?_ GE101.out | refine lS ?_ GE102.out | refine lS ?_ GE104.out | refine lS ?_ GE106.out) | exact HB.out))) : w.heap.size ≤ gb109))
                   replace HB := am (below_step (by repeat (first | (with_reducible first | exact HB.out | apply lA | apply lN | apply lD | refine lS ?_ GE101.out | refine lS ?_ GE102.out | refine lS ?_ GE104.out | refine lS ?_ GE106.out) | exact HB.out)) hb)
                   have NB101_109 := am ((by rw [hg]; exact Nat.ne_of_lt (blk_lt (g := gb101) (o := .cells #[.slice A0_0 l0_0.length c0_0, .slice (some ad103) l0_1.length c0_1] 50 (0, 0)) (by (with_reducible repeat (first | refine bN ?_ _ | refine bD ?_ | refine bA ?_ _)); exact BK101.out)) : gb101 ≠ gb109))
                   have NB109_101 := am ((by rw [hg]; exact Nat.ne_of_gt (blk_lt (g := gb101) (o := .cells #[.slice A0_0 l0_0.length c0_0, .slice (some ad103) l0_1.length c0_1] 50 (0, 0)) (by (with_reducible repeat (first | refine bN ?_ _ | refine bD ?_ | refine bA ?_ _)); exact BK101.out)) : gb109 ≠ gb101))
                   replace BK101 := am (blk_below (g := gb101) (o := .cells #[.slice A0_0 l0_0.length c0_0, .slice (some ad103) l0_1.length c0_1] 50 (0, 0)) (by (with_reducible repeat (first | refine bN ?_ _ | refine bD ?_ | refine bA ?_ _)); exact BK101.out) hb)
                   have NB102_109 := am ((by rw [hg]; exact Nat.ne_of_lt (blk_lt (g := gb102) (o := .cells #[.slice A1 l1.length c1] 52 (0, 0)) (by (with_reducible repeat (first | refine bN ?_ _ | refine bD ?_ | refine bA ?_ _)); exact BK102.out)) : gb102 ≠ gb109))
                   have NB109_102 := am ((by rw [hg]; exact Nat.ne_of_gt (blk_lt (g := gb102) (o := .cells #[.slice A1 l1.length c1] 52 (0, 0)) (by (with_reducible repeat (first | refine bN ?_ _ | refine bD ?_ | refine bA ?_ _)); exact BK102.out)) : gb109 ≠ gb102))
                   replace BK102 := am (blk_below (g := gb102) (o := .cells #[.slice A1 l1.length c1] 52 (0, 0)) (by (with_reducible repeat (first | refine bN ?_ _ | refine bD ?_ | refine bA ?_ _)); exact BK102.out) hb)
                   have NB104_109 := am ((by rw [hg]; exact Nat.ne_of_lt (blk_lt (g := gb104) (o := .cells #[.string ((rd_T64 l0_1 x18_1).head.pred), .slice A103_1 ((rd_T64 l0_1 x18_1).head.args).length c103_1, .slice (some ad105) ((rd_T64 l0_1 x18_1).body).length c103_2] 64 (0, 0)) (by (with_reducible repeat (first | refine bN ?_ _ | refine bD ?_ | refine bA ?_ _)); exact BK104.out)) : gb104 ≠ gb109))
                   have NB109_104 := am ((by rw [hg]; exact Nat.ne_of_gt (blk_lt (g := gb104) (o := .cells #[.string ((rd_T64 l0_1 x18_1).head.pred), .slice A103_1 ((rd_T64 l0_1 x18_1).head.args).length c103_1, .slice (some ad105) ((rd_T64 l0_1 x18_1).body).length c103_2] 64 (0, 0)) (by (with_reducible repeat (first | refine bN ?_ _ | refine bD ?_ | refine bA ?_ _)); exact BK104.out)) : gb109 ≠ gb104))
                   replace BK104 := am (blk_below (g := gb104) (o := .cells #[.string ((rd_T64 l0_1 x18_1).head.pred), .slice A103_1 ((rd_T64 l0_1 x18_1).head.args).length c103_1, .slice (some ad105) ((rd_T64 l0_1 x18_1).body).length c103_2] 64 (0, 0)) (by (with_reducible repeat (first | refine bN ?_ _ | refine bD ?_ | refine bA ?_ _)); exact BK104.out) hb)
                   have NB106_109 := am ((by rw [hg]; exact Nat.ne_of_lt (blk_lt (g := gb106) (o := .cells #[.int .i64 ((rd_T71 ((rd_T64 l0_1 x18_1).body) x25_2).kind), .string ((rd_T71 ((rd_T64 l0_1 x18_1).body) x25_2).atom.pred), .slice A105_2 ((rd_T71 ((rd_T64 l0_1 x18_1).body) x25_2).atom.args).length c105_2, .string ((rd_T71 ((rd_T64 l0_1 x18_1).body) x25_2).op), .bool ((rd_T71 ((rd_T64 l0_1 x18_1).body) x25_2).l.isVar), .string ((rd_T71 ((rd_T64 l0_1 x18_1).body) x25_2).l.name), .bool ((rd_T71 ((rd_T64 l0_1 x18_1).body) x25_2).l.val.isSym), .string ((rd_T71 ((rd_T64 l0_1 x18_1).body) x25_2).l.val.sym), .int .i64 ((rd_T71 ((rd_T64 l0_1 x18_1).body) x25_2).l.val.n), .bool ((rd_T71 ((rd_T64 l0_1 x18_1).body) x25_2).r.isVar), .string ((rd_T71 ((rd_T64 l0_1 x18_1).body) x25_2).r.name), .bool ((rd_T71 ((rd_T64 l0_1 x18_1).body) x25_2).r.val.isSym), .string ((rd_T71 ((rd_T64 l0_1 x18_1).body) x25_2).r.val.sym), .int .i64 ((rd_T71 ((rd_T64 l0_1 x18_1).body) x25_2).r.val.n)] 71 (0, 0)) (by (with_reducible repeat (first | refine bN ?_ _ | refine bD ?_ | refine bA ?_ _)); exact BK106.out)) : gb106 ≠ gb109))
                   have NB109_106 := am ((by rw [hg]; exact Nat.ne_of_gt (blk_lt (g := gb106) (o := .cells #[.int .i64 ((rd_T71 ((rd_T64 l0_1 x18_1).body) x25_2).kind), .string ((rd_T71 ((rd_T64 l0_1 x18_1).body) x25_2).atom.pred), .slice A105_2 ((rd_T71 ((rd_T64 l0_1 x18_1).body) x25_2).atom.args).length c105_2, .string ((rd_T71 ((rd_T64 l0_1 x18_1).body) x25_2).op), .bool ((rd_T71 ((rd_T64 l0_1 x18_1).body) x25_2).l.isVar), .string ((rd_T71 ((rd_T64 l0_1 x18_1).body) x25_2).l.name), .bool ((rd_T71 ((rd_T64 l0_1 x18_1).body) x25_2).l.val.isSym), .string ((rd_T71 ((rd_T64 l0_1 x18_1).body) x25_2).l.val.sym), .int .i64 ((rd_T71 ((rd_T64 l0_1 x18_1).body) x25_2).l.val.n), .bool ((rd_T71 ((rd_T64 l0_1 x18_1).body) x25_2).r.isVar), .string ((rd_T71 ((rd_T64 l0_1 x18_1).body) x25_2).r.name), .bool ((rd_T71 ((rd_T64 l0_1 x18_1).body) x25_2).r.val.isSym), .string ((rd_T71 ((rd_T64 l0_1 x18_1).body) x25_2).r.val.sym), .int .i64 ((rd_T71 ((rd_T64 l0_1 x18_1).body) x25_2).r.val.n)] 71 (0, 0)) (by (with_reducible repeat (first | refine bN ?_ _ | refine bD ?_ | refine bA ?_ _)); exact BK106.out)) : gb109 ≠ gb106))
                   replace BK106 := am (blk_below (g := gb106) (o := .cells #[.int .i64 ((rd_T71 ((rd_T64 l0_1 x18_1).body) x25_2).kind), .string ((rd_T71 ((rd_T64 l0_1 x18_1).body) x25_2).atom.pred), .slice A105_2 ((rd_T71 ((rd_T64 l0_1 x18_1).body) x25_2).atom.args).length c105_2, .string ((rd_T71 ((rd_T64 l0_1 x18_1).body) x25_2).op), .bool ((rd_T71 ((rd_T64 l0_1 x18_1).body) x25_2).l.isVar), .string ((rd_T71 ((rd_T64 l0_1 x18_1).body) x25_2).l.name), .bool ((rd_T71 ((rd_T64 l0_1 x18_1).body) x25_2).l.val.isSym), .string ((rd_T71 ((rd_T64 l0_1 x18_1).body) x25_2).l.val.sym), .int .i64 ((rd_T71 ((rd_T64 l0_1 x18_1).body) x25_2).l.val.n), .bool ((rd_T71 ((rd_T64 l0_1 x18_1).body) x25_2).r.isVar), .string ((rd_T71 ((rd_T64 l0_1 x18_1).body) x25_2).r.name), .bool ((rd_T71 ((rd_T64 l0_1 x18_1).body) x25_2).r.val.isSym), .string ((rd_T71 ((rd_T64 l0_1 x18_1).body) x25_2).r.val.sym), .int .i64 ((rd_T71 ((rd_T64 l0_1 x18_1).body) x25_2).r.val.n)] 71 (0, 0)) (by (with_reducible repeat (first | refine bN ?_ _ | refine bD ?_ | refine bA ?_ _)); exact BK106.out) hb)
                   clear hb hbox hg
                   refine hK.out _ _ ⟨(blk_cell BK104.out 0).trans rfl, (blk_cell BK104.out 1).trans rfl, (blk_cell BK104.out 2).trans rfl, (blk_cell BK106.out 0).trans rfl, (blk_cell BK106.out 1).trans rfl, (blk_cell BK106.out 2).trans rfl, (blk_cell BK106.out 3).trans rfl, (blk_cell BK106.out 4).trans rfl, (blk_cell BK106.out 5).trans rfl, (blk_cell BK106.out 6).trans rfl, (blk_cell BK106.out 7).trans rfl, (blk_cell BK106.out 8).trans rfl, (blk_cell BK106.out 9).trans rfl, (blk_cell BK106.out 10).trans rfl, (blk_cell BK106.out 11).trans rfl, (blk_cell BK106.out 12).trans rfl, (blk_cell BK106.out 13).trans rfl⟩ (fun hHeld => ?_)
                   clear hK K
                   refine norm_ (a' := ?_) ?_ ?_
                   rotate_left
                   ·show Act.put _ (some 13) _ = _
                    simp only [Act.put, sA, sZ, sS, i64_w, i32_w]
                    rfl
                   refine one_ (i := 4) (N := some 41) (bl 13 2559) rfl rfl (one_of HT_.out (by kernel_rfl)) (by decide) (fun K hK => ?_)
                   refine goesT_ (caps := #[.pointer (some ⟨gb102, 0, none⟩)]) Try.func63 (by kernel_rfl) rfl #[.string ((rd_T64 l0_1 x18_1).head.pred), .pointer (some ⟨gb102, 0, none⟩)] (by rfl) rfl rfl (by first | rfl | (go_simp; done)) (by (try simp only [List.map_toArray, List.map_cons, List.map_nil]); first | done | rfl | (simp only [List.length_drop, List.length_take]; rfl)) ?_
                   refine (EdgesAt.calls ((rd_T64 l0_1 x18_1).head.pred) A1 c1 l1 t107 _ ?side1 ?side2 ?side3 A33.out).mono ?_
                   (case side1 => repeat (first | exact (Kd.C_below HR1.out HB.out) | (with_reducible refine Kd.C_alloc ?_ _) | (with_reducible refine Kd.C_drewN ?_ _) | (with_reducible refine Kd.C_drew ?_)))
                   (case side2 => exact HC1.out)
                   (case side3 => (with_reducible repeat (first | refine bN ?_ _ | refine bD ?_ | refine bA ?_ _)); exact BK102.out)
                   rintro e w40 ⟨rfl, hb⟩
                   refine ⟨_, rfl, ?_⟩
                   replace HO_6 := am (Kd.R_below (by (with_reducible repeat (first | apply Ra | apply Rn | apply Rd)); exact HO_6.out) hb)
                   replace HO_7 := am (Kd.R_below (by (with_reducible repeat (first | apply Ra | apply Rn | apply Rd)); exact HO_7.out) hb)
                   replace BK101 := am (blk_below (g := gb101) (o := .cells #[.slice A0_0 l0_0.length c0_0, .slice (some ad103) l0_1.length c0_1] 50 (0, 0)) (by (with_reducible repeat (first | refine bN ?_ _ | refine bD ?_ | refine bA ?_ _)); exact BK101.out) hb)
                   replace BK102 := am (blk_below (g := gb102) (o := .cells #[.slice A1 l1.length c1] 52 (0, 0)) (by (with_reducible repeat (first | refine bN ?_ _ | refine bD ?_ | refine bA ?_ _)); exact BK102.out) hb)
                   replace BK104 := am (blk_below (g := gb104) (o := .cells #[.string ((rd_T64 l0_1 x18_1).head.pred), .slice A103_1 ((rd_T64 l0_1 x18_1).head.args).length c103_1, .slice (some ad105) ((rd_T64 l0_1 x18_1).body).length c103_2] 64 (0, 0)) (by (with_reducible repeat (first | refine bN ?_ _ | refine bD ?_ | refine bA ?_ _)); exact BK104.out) hb)
                   replace BK106 := am (blk_below (g := gb106) (o := .cells #[.int .i64 ((rd_T71 ((rd_T64 l0_1 x18_1).body) x25_2).kind), .string ((rd_T71 ((rd_T64 l0_1 x18_1).body) x25_2).atom.pred), .slice A105_2 ((rd_T71 ((rd_T64 l0_1 x18_1).body) x25_2).atom.args).length c105_2, .string ((rd_T71 ((rd_T64 l0_1 x18_1).body) x25_2).op), .bool ((rd_T71 ((rd_T64 l0_1 x18_1).body) x25_2).l.isVar), .string ((rd_T71 ((rd_T64 l0_1 x18_1).body) x25_2).l.name), .bool ((rd_T71 ((rd_T64 l0_1 x18_1).body) x25_2).l.val.isSym), .string ((rd_T71 ((rd_T64 l0_1 x18_1).body) x25_2).l.val.sym), .int .i64 ((rd_T71 ((rd_T64 l0_1 x18_1).body) x25_2).l.val.n), .bool ((rd_T71 ((rd_T64 l0_1 x18_1).body) x25_2).r.isVar), .string ((rd_T71 ((rd_T64 l0_1 x18_1).body) x25_2).r.name), .bool ((rd_T71 ((rd_T64 l0_1 x18_1).body) x25_2).r.val.isSym), .string ((rd_T71 ((rd_T64 l0_1 x18_1).body) x25_2).r.val.sym), .int .i64 ((rd_T71 ((rd_T64 l0_1 x18_1).body) x25_2).r.val.n)] 71 (0, 0)) (by (with_reducible repeat (first | refine bN ?_ _ | refine bD ?_ | refine bA ?_ _)); exact BK106.out) hb)
                   replace BK109 := am (blk_below (g := gb109) (o := .cells #[.int .i64 0, .int .i64 0] 27 (0, 0)) (by (with_reducible repeat (first | refine bN ?_ _ | refine bD ?_ | refine bA ?_ _)); exact BK109.out) hb)
                   replace HB := am (below_step (by repeat (first | (with_reducible first | exact HB.out | apply lA | apply lN | apply lD | refine lS ?_ GE101.out | refine lS ?_ GE102.out | refine lS ?_ GE104.out | refine lS ?_ GE106.out | refine lS ?_ GE109.out) | exact HB.out)) hb)
                   (try clear hb)
                   (try clear hb2)
                   (try clear hk)
                   (try clear hi)
                   refine hK.out _ _ ⟨(blk_cell BK104.out 0).trans rfl, (blk_cell BK104.out 1).trans rfl, (blk_cell BK104.out 2).trans rfl, (blk_cell BK106.out 0).trans rfl, (blk_cell BK106.out 1).trans rfl, (blk_cell BK106.out 2).trans rfl, (blk_cell BK106.out 3).trans rfl, (blk_cell BK106.out 4).trans rfl, (blk_cell BK106.out 5).trans rfl, (blk_cell BK106.out 6).trans rfl, (blk_cell BK106.out 7).trans rfl, (blk_cell BK106.out 8).trans rfl, (blk_cell BK106.out 9).trans rfl, (blk_cell BK106.out 10).trans rfl, (blk_cell BK106.out 11).trans rfl, (blk_cell BK106.out 12).trans rfl, (blk_cell BK106.out 13).trans rfl⟩ (fun hHeld => ?_)
                   clear hK K
                   refine norm_ (a' := ?_) ?_ ?_
                   rotate_left
                   ·show Act.put _ (some 41) _ = _
                    simp only [Act.put, sA, sZ, sS, i64_w, i32_w]
                    rfl
                   refine one_ (i := 9) (N := some 46) (bl 13 3071) rfl rfl (one_of HT_.out (by kernel_rfl)) (by decide) (fun K hK => ?_)
                   refine goesT_ (caps := #[.pointer (some ⟨gb102, 0, none⟩)]) Try.func63 (by kernel_rfl) rfl #[.string ((rd_T71 ((rd_T64 l0_1 x18_1).body) x25_2).atom.pred), .pointer (some ⟨gb102, 0, none⟩)] (by rfl) rfl rfl (by first | rfl | (go_simp; done)) (by (try simp only [List.map_toArray, List.map_cons, List.map_nil]); first | done | rfl | (simp only [List.length_drop, List.length_take]; rfl)) ?_
                   refine (EdgesAt.calls ((rd_T71 ((rd_T64 l0_1 x18_1).body) x25_2).atom.pred) A1 c1 l1 t108 _ ?side1 ?side2 ?side3 A34.out).mono ?_
                   (case side1 => repeat (first | exact (Kd.C_below HR1.out HB.out) | (with_reducible refine Kd.C_alloc ?_ _) | (with_reducible refine Kd.C_drewN ?_ _) | (with_reducible refine Kd.C_drew ?_)))
                   (case side2 => exact HC1.out)
                   (case side3 => (with_reducible repeat (first | refine bN ?_ _ | refine bD ?_ | refine bA ?_ _)); exact BK102.out)
                   rintro e w41 ⟨rfl, hb⟩
                   refine ⟨_, rfl, ?_⟩
                   replace HO_6 := am (Kd.R_below (by (with_reducible repeat (first | apply Ra | apply Rn | apply Rd)); exact HO_6.out) hb)
                   replace HO_7 := am (Kd.R_below (by (with_reducible repeat (first | apply Ra | apply Rn | apply Rd)); exact HO_7.out) hb)
                   replace BK101 := am (blk_below (g := gb101) (o := .cells #[.slice A0_0 l0_0.length c0_0, .slice (some ad103) l0_1.length c0_1] 50 (0, 0)) (by (with_reducible repeat (first | refine bN ?_ _ | refine bD ?_ | refine bA ?_ _)); exact BK101.out) hb)
                   replace BK102 := am (blk_below (g := gb102) (o := .cells #[.slice A1 l1.length c1] 52 (0, 0)) (by (with_reducible repeat (first | refine bN ?_ _ | refine bD ?_ | refine bA ?_ _)); exact BK102.out) hb)
                   replace BK104 := am (blk_below (g := gb104) (o := .cells #[.string ((rd_T64 l0_1 x18_1).head.pred), .slice A103_1 ((rd_T64 l0_1 x18_1).head.args).length c103_1, .slice (some ad105) ((rd_T64 l0_1 x18_1).body).length c103_2] 64 (0, 0)) (by (with_reducible repeat (first | refine bN ?_ _ | refine bD ?_ | refine bA ?_ _)); exact BK104.out) hb)
                   replace BK106 := am (blk_below (g := gb106) (o := .cells #[.int .i64 ((rd_T71 ((rd_T64 l0_1 x18_1).body) x25_2).kind), .string ((rd_T71 ((rd_T64 l0_1 x18_1).body) x25_2).atom.pred), .slice A105_2 ((rd_T71 ((rd_T64 l0_1 x18_1).body) x25_2).atom.args).length c105_2, .string ((rd_T71 ((rd_T64 l0_1 x18_1).body) x25_2).op), .bool ((rd_T71 ((rd_T64 l0_1 x18_1).body) x25_2).l.isVar), .string ((rd_T71 ((rd_T64 l0_1 x18_1).body) x25_2).l.name), .bool ((rd_T71 ((rd_T64 l0_1 x18_1).body) x25_2).l.val.isSym), .string ((rd_T71 ((rd_T64 l0_1 x18_1).body) x25_2).l.val.sym), .int .i64 ((rd_T71 ((rd_T64 l0_1 x18_1).body) x25_2).l.val.n), .bool ((rd_T71 ((rd_T64 l0_1 x18_1).body) x25_2).r.isVar), .string ((rd_T71 ((rd_T64 l0_1 x18_1).body) x25_2).r.name), .bool ((rd_T71 ((rd_T64 l0_1 x18_1).body) x25_2).r.val.isSym), .string ((rd_T71 ((rd_T64 l0_1 x18_1).body) x25_2).r.val.sym), .int .i64 ((rd_T71 ((rd_T64 l0_1 x18_1).body) x25_2).r.val.n)] 71 (0, 0)) (by (with_reducible repeat (first | refine bN ?_ _ | refine bD ?_ | refine bA ?_ _)); exact BK106.out) hb)
                   replace BK109 := am (blk_below (g := gb109) (o := .cells #[.int .i64 0, .int .i64 0] 27 (0, 0)) (by (with_reducible repeat (first | refine bN ?_ _ | refine bD ?_ | refine bA ?_ _)); exact BK109.out) hb)
                   replace HB := am (below_step (by repeat (first | (with_reducible first | exact HB.out | apply lA | apply lN | apply lD | refine lS ?_ GE101.out | refine lS ?_ GE102.out | refine lS ?_ GE104.out | refine lS ?_ GE106.out | refine lS ?_ GE109.out) | exact HB.out)) hb)
                   (try clear hb)
                   (try clear hb2)
                   (try clear hk)
                   (try clear hi)
                   refine hK.out _ _ ⟨(blk_cell BK104.out 0).trans rfl, (blk_cell BK104.out 1).trans rfl, (blk_cell BK104.out 2).trans rfl, (blk_cell BK106.out 0).trans rfl, (blk_cell BK106.out 1).trans rfl, (blk_cell BK106.out 2).trans rfl, (blk_cell BK106.out 3).trans rfl, (blk_cell BK106.out 4).trans rfl, (blk_cell BK106.out 5).trans rfl, (blk_cell BK106.out 6).trans rfl, (blk_cell BK106.out 7).trans rfl, (blk_cell BK106.out 8).trans rfl, (blk_cell BK106.out 9).trans rfl, (blk_cell BK106.out 10).trans rfl, (blk_cell BK106.out 11).trans rfl, (blk_cell BK106.out 12).trans rfl, (blk_cell BK106.out 13).trans rfl⟩ (fun hHeld => ?_)
                   clear hK K
                   refine norm_ (a' := ?_) ?_ ?_
                   rotate_left
                   ·show Act.put _ (some 46) _ = _
                    simp only [Act.put, sA, sZ, sS, i64_w, i32_w]
                    rfl
                   refine pure_ (i := 10) (N := some 47) (v := ?_) (a' := ?_) (bl 13 4095) rfl rfl (any_of HT_.out (by kernel_rfl)) (fun _ _ _ h => h) (Or.inl ⟨by rfl, ?_⟩) ?_ ?_
                   rotate_left
                   ·intro w'
                    go_simp
                    with_reducible rfl
                   rotate_left
                   ·simp only [Act.put, sA, sZ, sS, i64_w, i32_w]
                    rfl
                   exact norm_ (by simp only [putAll, Act.put, List.setIfInBounds_toArray, List.set_cons_zero, List.set_cons_succ]) (hCont (gb109) _ ⟨hHeld, (by (with_reducible repeat (first | apply Ra | apply Rn | apply Rd)); exact HO_6.out), (by (with_reducible repeat (first | apply Ra | apply Rn | apply Rd)); exact HO_7.out), (by (with_reducible repeat (first | refine bN ?_ _ | refine bD ?_ | refine bA ?_ _)); exact BK101.out), (by (with_reducible repeat (first | refine bN ?_ _ | refine bD ?_ | refine bA ?_ _)); exact BK102.out), (by (with_reducible repeat (first | refine bN ?_ _ | refine bD ?_ | refine bA ?_ _)); exact BK104.out), (by (with_reducible repeat (first | refine bN ?_ _ | refine bD ?_ | refine bA ?_ _)); exact BK106.out), (by (with_reducible repeat (first | refine bN ?_ _ | refine bD ?_ | refine bA ?_ _)); exact BK109.out), GW109.out, GE109.out, NB101_109.out, NB109_101.out, NB102_109.out, NB109_102.out, NB104_109.out, NB109_104.out, NB106_109.out, NB109_106.out, (by repeat (first | (with_reducible first | exact HB.out | apply lA | apply lN | apply lD | refine lS ?_ GE101.out | refine lS ?_ GE102.out | refine lS ?_ GE104.out | refine lS ?_ GE106.out | refine lS ?_ GE109.out) | exact HB.out))⟩)
                 rintro gb109 w42 ⟨hS_, h0_, h1_, h2_, h3_, h4_, h5_, h6_, h7_, h8_, h9_, h10_, h11_, h12_, h13_, h14_, h15_, h16_, h17_⟩
                 replace HO_6 : Aside0 (Kd.R k27 27 w42 w.heap.size (fun k_ => some k_ ≠ (u7 : Value).ownBlock ∧ k_ ≠ gb109) u6 x6_2) := ⟨h0_⟩
                 replace HO_7 : Aside0 (Kd.R k27 27 w42 w.heap.size (fun k_ => some k_ ≠ (u6 : Value).ownBlock ∧ k_ ≠ gb109) u7 x7_2) := ⟨h1_⟩
                 replace BK101 : Aside0 (w42.heap[gb101]? = some (.cells #[.slice A0_0 l0_0.length c0_0, .slice (some ad103) l0_1.length c0_1] 50 (0, 0))) := ⟨h2_⟩
                 replace BK102 : Aside0 (w42.heap[gb102]? = some (.cells #[.slice A1 l1.length c1] 52 (0, 0))) := ⟨h3_⟩
                 replace BK104 : Aside0 (w42.heap[gb104]? = some (.cells #[.string ((rd_T64 l0_1 x18_1).head.pred), .slice A103_1 ((rd_T64 l0_1 x18_1).head.args).length c103_1, .slice (some ad105) ((rd_T64 l0_1 x18_1).body).length c103_2] 64 (0, 0))) := ⟨h4_⟩
                 replace BK106 : Aside0 (w42.heap[gb106]? = some (.cells #[.int .i64 ((rd_T71 ((rd_T64 l0_1 x18_1).body) x25_2).kind), .string ((rd_T71 ((rd_T64 l0_1 x18_1).body) x25_2).atom.pred), .slice A105_2 ((rd_T71 ((rd_T64 l0_1 x18_1).body) x25_2).atom.args).length c105_2, .string ((rd_T71 ((rd_T64 l0_1 x18_1).body) x25_2).op), .bool ((rd_T71 ((rd_T64 l0_1 x18_1).body) x25_2).l.isVar), .string ((rd_T71 ((rd_T64 l0_1 x18_1).body) x25_2).l.name), .bool ((rd_T71 ((rd_T64 l0_1 x18_1).body) x25_2).l.val.isSym), .string ((rd_T71 ((rd_T64 l0_1 x18_1).body) x25_2).l.val.sym), .int .i64 ((rd_T71 ((rd_T64 l0_1 x18_1).body) x25_2).l.val.n), .bool ((rd_T71 ((rd_T64 l0_1 x18_1).body) x25_2).r.isVar), .string ((rd_T71 ((rd_T64 l0_1 x18_1).body) x25_2).r.name), .bool ((rd_T71 ((rd_T64 l0_1 x18_1).body) x25_2).r.val.isSym), .string ((rd_T71 ((rd_T64 l0_1 x18_1).body) x25_2).r.val.sym), .int .i64 ((rd_T71 ((rd_T64 l0_1 x18_1).body) x25_2).r.val.n)] 71 (0, 0))) := ⟨h5_⟩
                 have BK109 : Aside0 (w42.heap[gb109]? = some (.cells #[.int .i64 0, .int .i64 0] 27 (0, 0))) := ⟨h6_⟩
                 have GW109 : Aside0 (w.heap.size ≤ gb109) := ⟨h7_⟩
                 have GE109 : Aside0 (w.heap.size ≤ gb109) := ⟨h8_⟩
                 have NB101_109 : Aside0 (gb101 ≠ gb109) := ⟨h9_⟩
                 have NB109_101 : Aside0 (gb109 ≠ gb101) := ⟨h10_⟩
                 have NB102_109 : Aside0 (gb102 ≠ gb109) := ⟨h11_⟩
                 have NB109_102 : Aside0 (gb109 ≠ gb102) := ⟨h12_⟩
                 have NB104_109 : Aside0 (gb104 ≠ gb109) := ⟨h13_⟩
                 have NB109_104 : Aside0 (gb109 ≠ gb104) := ⟨h14_⟩
                 have NB106_109 : Aside0 (gb106 ≠ gb109) := ⟨h15_⟩
                 have NB109_106 : Aside0 (gb109 ≠ gb106) := ⟨h16_⟩
                 replace HB : Aside0 (Below w.heap.size w w42) := ⟨h17_⟩
                 clear h0_ h1_ h2_ h3_ h4_ h5_ h6_ h7_ h8_ h9_ h10_ h11_ h12_ h13_ h14_ h15_ h16_ h17_
                 have hHeld : w42.cell? ⟨gb104, 0, none⟩ = some (.string ((rd_T64 l0_1 x18_1).head.pred)) ∧ w42.cell? ⟨gb104, 1, none⟩ = some (.slice A103_1 ((rd_T64 l0_1 x18_1).head.args).length c103_1) ∧ w42.cell? ⟨gb104, 2, none⟩ = some (.slice (some ad105) ((rd_T64 l0_1 x18_1).body).length c103_2) ∧ w42.cell? ⟨gb106, 0, none⟩ = some (.int .i64 ((rd_T71 ((rd_T64 l0_1 x18_1).body) x25_2).kind)) ∧ w42.cell? ⟨gb106, 1, none⟩ = some (.string ((rd_T71 ((rd_T64 l0_1 x18_1).body) x25_2).atom.pred)) ∧ w42.cell? ⟨gb106, 2, none⟩ = some (.slice A105_2 ((rd_T71 ((rd_T64 l0_1 x18_1).body) x25_2).atom.args).length c105_2) ∧ w42.cell? ⟨gb106, 3, none⟩ = some (.string ((rd_T71 ((rd_T64 l0_1 x18_1).body) x25_2).op)) ∧ w42.cell? ⟨gb106, 4, none⟩ = some (.bool ((rd_T71 ((rd_T64 l0_1 x18_1).body) x25_2).l.isVar)) ∧ w42.cell? ⟨gb106, 5, none⟩ = some (.string ((rd_T71 ((rd_T64 l0_1 x18_1).body) x25_2).l.name)) ∧ w42.cell? ⟨gb106, 6, none⟩ = some (.bool ((rd_T71 ((rd_T64 l0_1 x18_1).body) x25_2).l.val.isSym)) ∧ w42.cell? ⟨gb106, 7, none⟩ = some (.string ((rd_T71 ((rd_T64 l0_1 x18_1).body) x25_2).l.val.sym)) ∧ w42.cell? ⟨gb106, 8, none⟩ = some (.int .i64 ((rd_T71 ((rd_T64 l0_1 x18_1).body) x25_2).l.val.n)) ∧ w42.cell? ⟨gb106, 9, none⟩ = some (.bool ((rd_T71 ((rd_T64 l0_1 x18_1).body) x25_2).r.isVar)) ∧ w42.cell? ⟨gb106, 10, none⟩ = some (.string ((rd_T71 ((rd_T64 l0_1 x18_1).body) x25_2).r.name)) ∧ w42.cell? ⟨gb106, 11, none⟩ = some (.bool ((rd_T71 ((rd_T64 l0_1 x18_1).body) x25_2).r.val.isSym)) ∧ w42.cell? ⟨gb106, 12, none⟩ = some (.string ((rd_T71 ((rd_T64 l0_1 x18_1).body) x25_2).r.val.sym)) ∧ w42.cell? ⟨gb106, 13, none⟩ = some (.int .i64 ((rd_T71 ((rd_T64 l0_1 x18_1).body) x25_2).r.val.n)) := hS_
                 refine norm_ (a' := ?_) ?_ ?_
                 rotate_left
                 ·simp only [putAll, Act.put, List.setIfInBounds_toArray, List.set_cons_zero, List.set_cons_succ]
                  rfl
                 refine one_ (i := 12) (N := none) (bl 13 8191) rfl rfl (one_of HT_.out (by kernel_rfl)) (by decide) (fun K hK => ?_)
                 have hs43 : w42.cell? ⟨gb109, 0, none⟩ = some (.int .i64 0) := (blk_cell BK109.out 0).trans rfl
                 have hfs43 := blk_frozen BK109.out 0
                 have hns43_0 := NB101_109.out
                 have hns43_1 := NB102_109.out
                 have hns43_2 := NB104_109.out
                 have hns43_3 := NB106_109.out
                 have hms43_0 := NB109_101.out
                 have hms43_1 := NB109_102.out
                 have hms43_2 := NB109_104.out
                 have hms43_3 := NB109_106.out
                 have hs44 : w42.cell? ⟨gb109, 1, none⟩ = some (.int .i64 0) := (blk_cell BK109.out 1).trans rfl
                 have hfs44 := blk_frozen BK109.out 1
                 have hns44_0 := NB101_109.out
                 have hns44_1 := NB102_109.out
                 have hns44_2 := NB104_109.out
                 have hns44_3 := NB106_109.out
                 have hms44_0 := NB109_101.out
                 have hms44_1 := NB109_102.out
                 have hms44_2 := NB109_104.out
                 have hms44_3 := NB109_106.out
                 refine skip_ (w1 := ?_) (by rfl) rfl ?_ ?_
                 rotate_left
                 ·go_simp
                  rfl
                 refine hK.out _ _ ⟨((cell_far (p := ⟨gb109, _, none⟩) NB104_109.out _).trans (((cell_far (p := ⟨gb109, _, none⟩) NB104_109.out _).trans (hHeld.1)))), ((cell_far (p := ⟨gb109, _, none⟩) NB104_109.out _).trans (((cell_far (p := ⟨gb109, _, none⟩) NB104_109.out _).trans (hHeld.2.1)))), ((cell_far (p := ⟨gb109, _, none⟩) NB104_109.out _).trans (((cell_far (p := ⟨gb109, _, none⟩) NB104_109.out _).trans (hHeld.2.2.1)))), ((cell_far (p := ⟨gb109, _, none⟩) NB106_109.out _).trans (((cell_far (p := ⟨gb109, _, none⟩) NB106_109.out _).trans (hHeld.2.2.2.1)))), ((cell_far (p := ⟨gb109, _, none⟩) NB106_109.out _).trans (((cell_far (p := ⟨gb109, _, none⟩) NB106_109.out _).trans (hHeld.2.2.2.2.1)))), ((cell_far (p := ⟨gb109, _, none⟩) NB106_109.out _).trans (((cell_far (p := ⟨gb109, _, none⟩) NB106_109.out _).trans (hHeld.2.2.2.2.2.1)))), ((cell_far (p := ⟨gb109, _, none⟩) NB106_109.out _).trans (((cell_far (p := ⟨gb109, _, none⟩) NB106_109.out _).trans (hHeld.2.2.2.2.2.2.1)))), ((cell_far (p := ⟨gb109, _, none⟩) NB106_109.out _).trans (((cell_far (p := ⟨gb109, _, none⟩) NB106_109.out _).trans (hHeld.2.2.2.2.2.2.2.1)))), ((cell_far (p := ⟨gb109, _, none⟩) NB106_109.out _).trans (((cell_far (p := ⟨gb109, _, none⟩) NB106_109.out _).trans (hHeld.2.2.2.2.2.2.2.2.1)))), ((cell_far (p := ⟨gb109, _, none⟩) NB106_109.out _).trans (((cell_far (p := ⟨gb109, _, none⟩) NB106_109.out _).trans (hHeld.2.2.2.2.2.2.2.2.2.1)))), ((cell_far (p := ⟨gb109, _, none⟩) NB106_109.out _).trans (((cell_far (p := ⟨gb109, _, none⟩) NB106_109.out _).trans (hHeld.2.2.2.2.2.2.2.2.2.2.1)))), ((cell_far (p := ⟨gb109, _, none⟩) NB106_109.out _).trans (((cell_far (p := ⟨gb109, _, none⟩) NB106_109.out _).trans (hHeld.2.2.2.2.2.2.2.2.2.2.2.1)))), ((cell_far (p := ⟨gb109, _, none⟩) NB106_109.out _).trans (((cell_far (p := ⟨gb109, _, none⟩) NB106_109.out _).trans (hHeld.2.2.2.2.2.2.2.2.2.2.2.2.1)))), ((cell_far (p := ⟨gb109, _, none⟩) NB106_109.out _).trans (((cell_far (p := ⟨gb109, _, none⟩) NB106_109.out _).trans (hHeld.2.2.2.2.2.2.2.2.2.2.2.2.2.1)))), ((cell_far (p := ⟨gb109, _, none⟩) NB106_109.out _).trans (((cell_far (p := ⟨gb109, _, none⟩) NB106_109.out _).trans (hHeld.2.2.2.2.2.2.2.2.2.2.2.2.2.2.1)))), ((cell_far (p := ⟨gb109, _, none⟩) NB106_109.out _).trans (((cell_far (p := ⟨gb109, _, none⟩) NB106_109.out _).trans (hHeld.2.2.2.2.2.2.2.2.2.2.2.2.2.2.2.1)))), ((cell_far (p := ⟨gb109, _, none⟩) NB106_109.out _).trans (((cell_far (p := ⟨gb109, _, none⟩) NB106_109.out _).trans (hHeld.2.2.2.2.2.2.2.2.2.2.2.2.2.2.2.2))))⟩ (fun hHeld => ?_)
                 clear hK K
                 refine done_ (done_of HT_.out (by kernel_rfl)) ?_
                 have hnb45 := NB109_101.out
                 have hnc45 := NB101_109.out
                 have hnb46 := NB109_102.out
                 have hnc46 := NB102_109.out
                 have hnb47 := NB109_104.out
                 have hnc47 := NB104_109.out
                 have hnb48 := NB109_106.out
                 have hnc48 := NB106_109.out
                 have hcz49_0 : w42.cell? ⟨gb109, 0, none⟩ = some (.int .i64 0) := (blk_cell BK109.out 0).trans rfl
                 have hcz49_1 : w42.cell? ⟨gb109, 1, none⟩ = some (.int .i64 0) := (blk_cell BK109.out 1).trans rfl
                 have hfz49_0 := blk_frozen BK109.out 0
                 have hfz49_1 := blk_frozen BK109.out 1
                 try go_wp2_with (first | ((with_reducible refine gate_builtin (b := .append) (xs := #[.tmp 48, .tmp 50]) rfl ?_); at_builtin; refine Kd.R_append k27 (w0 := w) w.heap.size rfl (.tmp 48) (.tmp 50) 24 27 (.agg #[(.int .i64 0), (.int .i64 0)]) 16 rfl Try.underlying24 info27 rfl (by decide) (by omega) u6 x6_2 (⟨t107, t108⟩ : IPair) [.int .i64 t107, .int .i64 t108] (fun k_ => some k_ ≠ (u7 : Value).ownBlock ∧ k_ ≠ gb109) (fun _ => False) rfl (by first | (go_simp; done) | (go_simp; rfl)) ?aP (fun _ hk => hk.elim) ?aF ?aO ?aB ?aS ?aL ?_; (case aP => exact k27_mkM _ _ _ (⟨t107, t108⟩ : IPair)); (case aB => exact (by repeat (first | (with_reducible first | exact HB.out | apply lA | apply lN | apply lD | refine lS ?_ GE101.out | refine lS ?_ GE102.out | refine lS ?_ GE104.out | refine lS ?_ GE106.out | refine lS ?_ GE109.out) | exact HB.out))); (case aF => exact (fun k_ hk => ⟨Kd.fresh' (Kd.R_lt (by (with_reducible repeat (first | apply Ra | apply Rn | apply Rd)); exact (Kd.R_mono (Kd.R_far (p := ⟨gb109, 1, none⟩) (Kd.R_far (p := ⟨gb109, 0, none⟩) (Kd.R_mono HO_7.out (fun k_ hk => (⟨hk, hk.2⟩ : _ ∧ k_ ≠ gb109))) (fun _ hk => hk.2) _) (fun _ hk => hk.2) _) (fun _ h_ => h_.1)))) k_ hk, Kd.freshB (g := gb109) (o := .cells #[.int .i64 t107, .int .i64 t108] 27 (0, 0)) (by (with_reducible repeat (first | refine bN ?_ _ | refine bD ?_ | refine bA ?_ _)); refine blk_put (cs := #[.int .i64 t107, .int .i64 0]) ?_ 1 _ rfl; (with_reducible repeat (first | refine bN ?_ _ | refine bD ?_ | refine bA ?_ _)); refine blk_put (cs := #[.int .i64 0, .int .i64 0]) ?_ 0 _ rfl; (with_reducible repeat (first | refine bN ?_ _ | refine bD ?_ | refine bA ?_ _)); exact BK109.out) k_ hk⟩)); (case aO => exact (by (with_reducible repeat (first | apply Ra | apply Rn | apply Rd)); exact Kd.R_mono (Kd.R_far (p := ⟨gb109, 1, none⟩) (Kd.R_far (p := ⟨gb109, 0, none⟩) (Kd.R_mono HO_6.out (fun k_ hk => (⟨hk, hk.2⟩ : _ ∧ k_ ≠ gb109))) (fun _ hk => hk.2) _) (fun _ hk => hk.2) _) (fun _ hk => ⟨hk.1.1, hk.1.2⟩))); (case aS => exact (below_size (by repeat (first | (with_reducible first | exact HB.out | apply lA | apply lN | apply lD | refine lS ?_ GE101.out | refine lS ?_ GE102.out | refine lS ?_ GE104.out | refine lS ?_ GE106.out | refine lS ?_ GE109.out) | exact HB.out)))); (case aL => have := LMc35.out; omega); intro v111 w50 ho hb hg hat; rw [← Ny110.out] at ho; replace HO_7 := am (Kd.R_after (ok := (fun k_ => k_ ≠ gb109)) (by (with_reducible repeat (first | apply Ra | apply Rn | apply Rd)); exact Kd.R_mono (Kd.R_far (p := ⟨gb109, 1, none⟩) (Kd.R_far (p := ⟨gb109, 0, none⟩) (Kd.R_mono HO_7.out (fun k_ hk => (⟨hk, hk.2⟩ : _ ∧ k_ ≠ gb109))) (fun _ hk => hk.2) _) (fun _ hk => hk.2) _) (fun _ hk => ⟨hk.1.2, hk.1.1⟩)) hg hat); replace BK101 := am (blk_grown (g := gb101) (o := .cells #[.slice A0_0 l0_0.length c0_0, .slice (some ad103) l0_1.length c0_1] 50 (0, 0)) (by (with_reducible repeat (first | refine bN ?_ _ | refine bD ?_ | refine bA ?_ _)); refine blk_far ?_ NB101_109.out _; (with_reducible repeat (first | refine bN ?_ _ | refine bD ?_ | refine bA ?_ _)); refine blk_far ?_ NB101_109.out _; (with_reducible repeat (first | refine bN ?_ _ | refine bD ?_ | refine bA ?_ _)); exact BK101.out) hg (Kd.R_ne HO_6.out BK101.out (by decide))); replace BK102 := am (blk_grown (g := gb102) (o := .cells #[.slice A1 l1.length c1] 52 (0, 0)) (by (with_reducible repeat (first | refine bN ?_ _ | refine bD ?_ | refine bA ?_ _)); refine blk_far ?_ NB102_109.out _; (with_reducible repeat (first | refine bN ?_ _ | refine bD ?_ | refine bA ?_ _)); refine blk_far ?_ NB102_109.out _; (with_reducible repeat (first | refine bN ?_ _ | refine bD ?_ | refine bA ?_ _)); exact BK102.out) hg (Kd.R_ne HO_6.out BK102.out (by decide))); replace BK104 := am (blk_grown (g := gb104) (o := .cells #[.string ((rd_T64 l0_1 x18_1).head.pred), .slice A103_1 ((rd_T64 l0_1 x18_1).head.args).length c103_1, .slice (some ad105) ((rd_T64 l0_1 x18_1).body).length c103_2] 64 (0, 0)) (by (with_reducible repeat (first | refine bN ?_ _ | refine bD ?_ | refine bA ?_ _)); refine blk_far ?_ NB104_109.out _; (with_reducible repeat (first | refine bN ?_ _ | refine bD ?_ | refine bA ?_ _)); refine blk_far ?_ NB104_109.out _; (with_reducible repeat (first | refine bN ?_ _ | refine bD ?_ | refine bA ?_ _)); exact BK104.out) hg (Kd.R_ne HO_6.out BK104.out (by decide))); replace BK106 := am (blk_grown (g := gb106) (o := .cells #[.int .i64 ((rd_T71 ((rd_T64 l0_1 x18_1).body) x25_2).kind), .string ((rd_T71 ((rd_T64 l0_1 x18_1).body) x25_2).atom.pred), .slice A105_2 ((rd_T71 ((rd_T64 l0_1 x18_1).body) x25_2).atom.args).length c105_2, .string ((rd_T71 ((rd_T64 l0_1 x18_1).body) x25_2).op), .bool ((rd_T71 ((rd_T64 l0_1 x18_1).body) x25_2).l.isVar), .string ((rd_T71 ((rd_T64 l0_1 x18_1).body) x25_2).l.name), .bool ((rd_T71 ((rd_T64 l0_1 x18_1).body) x25_2).l.val.isSym), .string ((rd_T71 ((rd_T64 l0_1 x18_1).body) x25_2).l.val.sym), .int .i64 ((rd_T71 ((rd_T64 l0_1 x18_1).body) x25_2).l.val.n), .bool ((rd_T71 ((rd_T64 l0_1 x18_1).body) x25_2).r.isVar), .string ((rd_T71 ((rd_T64 l0_1 x18_1).body) x25_2).r.name), .bool ((rd_T71 ((rd_T64 l0_1 x18_1).body) x25_2).r.val.isSym), .string ((rd_T71 ((rd_T64 l0_1 x18_1).body) x25_2).r.val.sym), .int .i64 ((rd_T71 ((rd_T64 l0_1 x18_1).body) x25_2).r.val.n)] 71 (0, 0)) (by (with_reducible repeat (first | refine bN ?_ _ | refine bD ?_ | refine bA ?_ _)); refine blk_far ?_ NB106_109.out _; (with_reducible repeat (first | refine bN ?_ _ | refine bD ?_ | refine bA ?_ _)); refine blk_far ?_ NB106_109.out _; (with_reducible repeat (first | refine bN ?_ _ | refine bD ?_ | refine bA ?_ _)); exact BK106.out) hg (Kd.R_ne HO_6.out BK106.out (by decide))); replace BK109 := am (blk_grown (g := gb109) (o := .cells #[.int .i64 t107, .int .i64 t108] 27 (0, 0)) (by (with_reducible repeat (first | refine bN ?_ _ | refine bD ?_ | refine bA ?_ _)); refine blk_put (cs := #[.int .i64 t107, .int .i64 0]) ?_ 1 _ rfl; (with_reducible repeat (first | refine bN ?_ _ | refine bD ?_ | refine bA ?_ _)); refine blk_put (cs := #[.int .i64 0, .int .i64 0]) ?_ 0 _ rfl; (with_reducible repeat (first | refine bN ?_ _ | refine bD ?_ | refine bA ?_ _)); exact BK109.out) hg (Kd.R_away HO_6.out (fun _ hk => hk.2))); replace HB := am (hb); have HO112 := am (ho); clear HO_6; clear ho hb hg hat; have hnb51 := NB106_101.out; have hnc51 := NB101_106.out; have hnb52 := NB106_102.out; have hnc52 := NB102_106.out; have hnb53 := NB106_104.out; have hnc53 := NB104_106.out; have hcz54_0 : w50.cell? ⟨gb106, 0, none⟩ = some (.int .i64 ((rd_T71 ((rd_T64 l0_1 x18_1).body) x25_2).kind)) := (blk_cell BK106.out 0).trans rfl; have hcz54_1 : w50.cell? ⟨gb106, 1, none⟩ = some (.string ((rd_T71 ((rd_T64 l0_1 x18_1).body) x25_2).atom.pred)) := (blk_cell BK106.out 1).trans rfl; have hcz54_2 : w50.cell? ⟨gb106, 2, none⟩ = some (.slice A105_2 ((rd_T71 ((rd_T64 l0_1 x18_1).body) x25_2).atom.args).length c105_2) := (blk_cell BK106.out 2).trans rfl; have hcz54_3 : w50.cell? ⟨gb106, 3, none⟩ = some (.string ((rd_T71 ((rd_T64 l0_1 x18_1).body) x25_2).op)) := (blk_cell BK106.out 3).trans rfl; have hcz54_4 : w50.cell? ⟨gb106, 4, none⟩ = some (.bool ((rd_T71 ((rd_T64 l0_1 x18_1).body) x25_2).l.isVar)) := (blk_cell BK106.out 4).trans rfl; have hcz54_5 : w50.cell? ⟨gb106, 5, none⟩ = some (.string ((rd_T71 ((rd_T64 l0_1 x18_1).body) x25_2).l.name)) := (blk_cell BK106.out 5).trans rfl; have hcz54_6 : w50.cell? ⟨gb106, 6, none⟩ = some (.bool ((rd_T71 ((rd_T64 l0_1 x18_1).body) x25_2).l.val.isSym)) := (blk_cell BK106.out 6).trans rfl; have hcz54_7 : w50.cell? ⟨gb106, 7, none⟩ = some (.string ((rd_T71 ((rd_T64 l0_1 x18_1).body) x25_2).l.val.sym)) := (blk_cell BK106.out 7).trans rfl; have hcz54_8 : w50.cell? ⟨gb106, 8, none⟩ = some (.int .i64 ((rd_T71 ((rd_T64 l0_1 x18_1).body) x25_2).l.val.n)) := (blk_cell BK106.out 8).trans rfl; have hcz54_9 : w50.cell? ⟨gb106, 9, none⟩ = some (.bool ((rd_T71 ((rd_T64 l0_1 x18_1).body) x25_2).r.isVar)) := (blk_cell BK106.out 9).trans rfl; have hcz54_10 : w50.cell? ⟨gb106, 10, none⟩ = some (.string ((rd_T71 ((rd_T64 l0_1 x18_1).body) x25_2).r.name)) := (blk_cell BK106.out 10).trans rfl; have hcz54_11 : w50.cell? ⟨gb106, 11, none⟩ = some (.bool ((rd_T71 ((rd_T64 l0_1 x18_1).body) x25_2).r.val.isSym)) := (blk_cell BK106.out 11).trans rfl; have hcz54_12 : w50.cell? ⟨gb106, 12, none⟩ = some (.string ((rd_T71 ((rd_T64 l0_1 x18_1).body) x25_2).r.val.sym)) := (blk_cell BK106.out 12).trans rfl; have hcz54_13 : w50.cell? ⟨gb106, 13, none⟩ = some (.int .i64 ((rd_T71 ((rd_T64 l0_1 x18_1).body) x25_2).r.val.n)) := (blk_cell BK106.out 13).trans rfl; have hfz54_0 := blk_frozen BK106.out 0; have hfz54_1 := blk_frozen BK106.out 1; have hfz54_2 := blk_frozen BK106.out 2; have hfz54_3 := blk_frozen BK106.out 3; have hfz54_4 := blk_frozen BK106.out 4; have hfz54_5 := blk_frozen BK106.out 5; have hfz54_6 := blk_frozen BK106.out 6; have hfz54_7 := blk_frozen BK106.out 7; have hfz54_8 := blk_frozen BK106.out 8; have hfz54_9 := blk_frozen BK106.out 9; have hfz54_10 := blk_frozen BK106.out 10; have hfz54_11 := blk_frozen BK106.out 11; have hfz54_12 := blk_frozen BK106.out 12; have hfz54_13 := blk_frozen BK106.out 13; have hcz55_0 : w50.cell? ⟨gb109, 0, none⟩ = some (.int .i64 t107) := (blk_cell BK109.out 0).trans rfl; have hcz55_1 : w50.cell? ⟨gb109, 1, none⟩ = some (.int .i64 t108) := (blk_cell BK109.out 1).trans rfl; have hfz55_0 := blk_frozen BK109.out 0; have hfz55_1 := blk_frozen BK109.out 1) | ((with_reducible refine gate_builtin (b := .append) (xs := #[.tmp 55, .tmp 57]) rfl ?_); at_builtin; refine Kd.R_append k27 (w0 := w) w.heap.size rfl (.tmp 55) (.tmp 57) 24 27 (.agg #[(.int .i64 0), (.int .i64 0)]) 16 rfl Try.underlying24 info27 rfl (by decide) (by omega) u7 x7_2 (⟨t107, t108⟩ : IPair) [.int .i64 t107, .int .i64 t108] (fun k_ => some k_ ≠ (v111 : Value).ownBlock ∧ k_ ≠ gb109) (fun _ => False) rfl rfl ?aP (fun _ hk => hk.elim) ?aF ?aO ?aB ?aS ?aL ?_; (case aP => exact k27_mkM _ _ _ (⟨t107, t108⟩ : IPair)); (case aB => exact (by repeat (first | (with_reducible first | exact HB.out | apply lA | apply lN | apply lD | refine lS ?_ GE101.out | refine lS ?_ GE102.out | refine lS ?_ GE104.out | refine lS ?_ GE106.out | refine lS ?_ GE109.out) | exact HB.out))); (case aF => exact (fun k_ hk => ⟨Kd.fresh' (Kd.R_lt (by (with_reducible repeat (first | apply Ra | apply Rn | apply Rd)); exact HO112.out)) k_ hk, Kd.freshB (g := gb109) (o := .cells #[.int .i64 t107, .int .i64 t108] 27 (0, 0)) (by (with_reducible repeat (first | refine bN ?_ _ | refine bD ?_ | refine bA ?_ _)); exact BK109.out) k_ hk⟩)); (case aO => exact (by (with_reducible repeat (first | apply Ra | apply Rn | apply Rd)); exact Kd.R_mono HO_7.out (fun _ hk => ⟨hk.2, hk.1⟩))); (case aS => exact (below_size (by repeat (first | (with_reducible first | exact HB.out | apply lA | apply lN | apply lD | refine lS ?_ GE101.out | refine lS ?_ GE102.out | refine lS ?_ GE104.out | refine lS ?_ GE106.out | refine lS ?_ GE109.out) | exact HB.out)))); (case aL => have := LMc37.out; omega); intro v114 w56 ho hb hg hat; rw [← Ny113.out] at ho; replace BK101 := am (blk_grown (g := gb101) (o := .cells #[.slice A0_0 l0_0.length c0_0, .slice (some ad103) l0_1.length c0_1] 50 (0, 0)) (by (with_reducible repeat (first | refine bN ?_ _ | refine bD ?_ | refine bA ?_ _)); exact BK101.out) hg (Kd.R_ne HO_7.out BK101.out (by decide))); replace BK102 := am (blk_grown (g := gb102) (o := .cells #[.slice A1 l1.length c1] 52 (0, 0)) (by (with_reducible repeat (first | refine bN ?_ _ | refine bD ?_ | refine bA ?_ _)); exact BK102.out) hg (Kd.R_ne HO_7.out BK102.out (by decide))); replace BK104 := am (blk_grown (g := gb104) (o := .cells #[.string ((rd_T64 l0_1 x18_1).head.pred), .slice A103_1 ((rd_T64 l0_1 x18_1).head.args).length c103_1, .slice (some ad105) ((rd_T64 l0_1 x18_1).body).length c103_2] 64 (0, 0)) (by (with_reducible repeat (first | refine bN ?_ _ | refine bD ?_ | refine bA ?_ _)); exact BK104.out) hg (Kd.R_ne HO_7.out BK104.out (by decide))); replace BK106 := am (blk_grown (g := gb106) (o := .cells #[.int .i64 ((rd_T71 ((rd_T64 l0_1 x18_1).body) x25_2).kind), .string ((rd_T71 ((rd_T64 l0_1 x18_1).body) x25_2).atom.pred), .slice A105_2 ((rd_T71 ((rd_T64 l0_1 x18_1).body) x25_2).atom.args).length c105_2, .string ((rd_T71 ((rd_T64 l0_1 x18_1).body) x25_2).op), .bool ((rd_T71 ((rd_T64 l0_1 x18_1).body) x25_2).l.isVar), .string ((rd_T71 ((rd_T64 l0_1 x18_1).body) x25_2).l.name), .bool ((rd_T71 ((rd_T64 l0_1 x18_1).body) x25_2).l.val.isSym), .string ((rd_T71 ((rd_T64 l0_1 x18_1).body) x25_2).l.val.sym), .int .i64 ((rd_T71 ((rd_T64 l0_1 x18_1).body) x25_2).l.val.n), .bool ((rd_T71 ((rd_T64 l0_1 x18_1).body) x25_2).r.isVar), .string ((rd_T71 ((rd_T64 l0_1 x18_1).body) x25_2).r.name), .bool ((rd_T71 ((rd_T64 l0_1 x18_1).body) x25_2).r.val.isSym), .string ((rd_T71 ((rd_T64 l0_1 x18_1).body) x25_2).r.val.sym), .int .i64 ((rd_T71 ((rd_T64 l0_1 x18_1).body) x25_2).r.val.n)] 71 (0, 0)) (by (with_reducible repeat (first | refine bN ?_ _ | refine bD ?_ | refine bA ?_ _)); exact BK106.out) hg (Kd.R_ne HO_7.out BK106.out (by decide))); replace BK109 := am (blk_grown (g := gb109) (o := .cells #[.int .i64 t107, .int .i64 t108] 27 (0, 0)) (by (with_reducible repeat (first | refine bN ?_ _ | refine bD ?_ | refine bA ?_ _)); exact BK109.out) hg (Kd.R_away HO_7.out (fun _ hk => hk.1))); replace HO112 := am (Kd.R_after (ok := (fun k_ => k_ ≠ gb109)) (by (with_reducible repeat (first | apply Ra | apply Rn | apply Rd)); exact Kd.R_mono HO112.out (fun _ hk => ⟨hk.2, hk.1⟩)) hg hat); replace HB := am (hb); have HO115 := am (ho); clear HO_7; clear ho hb hg hat))
                 go_roundg kj16
                 case measure => have := HK1.out; have := HK2.out; have := HJ16.out; omega
                 case rel => exact ⟨(y110), (y113), (wrap64 (x25_2 + 1)), (by first | rfl | (simp; done) | (simp [*]; done)), H', ⟨by have := HK1.out; have := HK2.out; have := HJ16.out; omega⟩, ⟨by (with_reducible repeat (first | apply Ra | apply Rn | apply Rd)); exact Kd.R_mono HO112.out (fun _ hk => hk.2)⟩, ⟨by (with_reducible repeat (first | apply Ra | apply Rn | apply Rd)); exact Kd.R_mono HO115.out (fun _ hk => hk.1)⟩, ⟨by (with_reducible repeat (first | refine bN ?_ _ | refine bD ?_ | refine bA ?_ _)); exact BK101.out⟩, ⟨by (with_reducible repeat (first | refine bN ?_ _ | refine bD ?_ | refine bA ?_ _)); exact BK102.out⟩, ⟨by (with_reducible repeat (first | refine bN ?_ _ | refine bD ?_ | refine bA ?_ _)); exact BK104.out⟩, ⟨by repeat (first | (with_reducible first | exact HB.out | apply lA | apply lN | apply lD | refine lS ?_ GE101.out | refine lS ?_ GE102.out | refine lS ?_ GE104.out | refine lS ?_ GE106.out | refine lS ?_ GE109.out) | exact HB.out)⟩⟩
                ·rw [if_neg c37] at H
                 exact absurd H (by simp)
               ·rw [if_neg c36] at H
                have c36b0 : (((rd_T71 ((rd_T64 l0_1 x18_1).body) x25_2).kind) == 2) = false := beq_eq_false_iff_ne.mpr c36
                have c36b1 : (((rd_T71 ((rd_T64 l0_1 x18_1).body) x25_2).kind) != 2) = true := bne_iff_ne.mpr c36
                have H' := am H
                clear H
                try go_wp2
                replace HO_6 := am (Kd.R_drew HO_6.out)
                replace HO_7 := am (Kd.R_drew HO_7.out)
                replace BK101 := am (blk_drew BK101.out)
                replace BK102 := am (blk_drew BK102.out)
                replace BK104 := am (blk_drew BK104.out)
                replace BK106 := am (blk_drew BK106.out)
                replace HB := am (below_drew1 HB.out)
                refine start_ (n := 13) (S := fun w' => w'.cell? ⟨gb104, 0, none⟩ = some (.string ((rd_T64 l0_1 x18_1).head.pred)) ∧ w'.cell? ⟨gb104, 1, none⟩ = some (.slice A103_1 ((rd_T64 l0_1 x18_1).head.args).length c103_1) ∧ w'.cell? ⟨gb104, 2, none⟩ = some (.slice (some ad105) ((rd_T64 l0_1 x18_1).body).length c103_2) ∧ w'.cell? ⟨gb106, 0, none⟩ = some (.int .i64 ((rd_T71 ((rd_T64 l0_1 x18_1).body) x25_2).kind)) ∧ w'.cell? ⟨gb106, 1, none⟩ = some (.string ((rd_T71 ((rd_T64 l0_1 x18_1).body) x25_2).atom.pred)) ∧ w'.cell? ⟨gb106, 2, none⟩ = some (.slice A105_2 ((rd_T71 ((rd_T64 l0_1 x18_1).body) x25_2).atom.args).length c105_2) ∧ w'.cell? ⟨gb106, 3, none⟩ = some (.string ((rd_T71 ((rd_T64 l0_1 x18_1).body) x25_2).op)) ∧ w'.cell? ⟨gb106, 4, none⟩ = some (.bool ((rd_T71 ((rd_T64 l0_1 x18_1).body) x25_2).l.isVar)) ∧ w'.cell? ⟨gb106, 5, none⟩ = some (.string ((rd_T71 ((rd_T64 l0_1 x18_1).body) x25_2).l.name)) ∧ w'.cell? ⟨gb106, 6, none⟩ = some (.bool ((rd_T71 ((rd_T64 l0_1 x18_1).body) x25_2).l.val.isSym)) ∧ w'.cell? ⟨gb106, 7, none⟩ = some (.string ((rd_T71 ((rd_T64 l0_1 x18_1).body) x25_2).l.val.sym)) ∧ w'.cell? ⟨gb106, 8, none⟩ = some (.int .i64 ((rd_T71 ((rd_T64 l0_1 x18_1).body) x25_2).l.val.n)) ∧ w'.cell? ⟨gb106, 9, none⟩ = some (.bool ((rd_T71 ((rd_T64 l0_1 x18_1).body) x25_2).r.isVar)) ∧ w'.cell? ⟨gb106, 10, none⟩ = some (.string ((rd_T71 ((rd_T64 l0_1 x18_1).body) x25_2).r.name)) ∧ w'.cell? ⟨gb106, 11, none⟩ = some (.bool ((rd_T71 ((rd_T64 l0_1 x18_1).body) x25_2).r.val.isSym)) ∧ w'.cell? ⟨gb106, 12, none⟩ = some (.string ((rd_T71 ((rd_T64 l0_1 x18_1).body) x25_2).r.val.sym)) ∧ w'.cell? ⟨gb106, 13, none⟩ = some (.int .i64 ((rd_T71 ((rd_T64 l0_1 x18_1).body) x25_2).r.val.n))) (ds := []) (bl 13 0) (by kernel_rfl) rfl rfl ⟨(blk_cell BK104.out 0).trans rfl, (blk_cell BK104.out 1).trans rfl, (blk_cell BK104.out 2).trans rfl, (blk_cell BK106.out 0).trans rfl, (blk_cell BK106.out 1).trans rfl, (blk_cell BK106.out 2).trans rfl, (blk_cell BK106.out 3).trans rfl, (blk_cell BK106.out 4).trans rfl, (blk_cell BK106.out 5).trans rfl, (blk_cell BK106.out 6).trans rfl, (blk_cell BK106.out 7).trans rfl, (blk_cell BK106.out 8).trans rfl, (blk_cell BK106.out 9).trans rfl, (blk_cell BK106.out 10).trans rfl, (blk_cell BK106.out 11).trans rfl, (blk_cell BK106.out 12).trans rfl, (blk_cell BK106.out 13).trans rfl⟩ (fun hHeld => ?_); refine with_tabW strata_edges.tab10 strata_edges.bits10 (fun HT_ HW_ => ?_)
                generalize wc.drew = w57 at HO_6 HO_7 BK101 BK102 BK104 BK106 HB hHeld ⊢
                refine pure_ (i := 0) (N := some 37) (v := ?_) (a' := ?_) (bl 13 1) rfl rfl (any_of HT_.out (by kernel_rfl)) (fun _ _ _ h => h) (Or.inl ⟨by rfl, ?_⟩) ?_ ?_
                rotate_left
                ·intro w'
                 go_simp
                 with_reducible rfl
                rotate_left
                ·simp only [Act.put, sA, sZ, sS, i64_w, i32_w]
                 rfl
                refine pure_ (i := 1) (N := some 38) (v := ?_) (a' := ?_) (bl 13 3) rfl rfl (any_of HT_.out (by kernel_rfl)) (fun _ _ _ h => h) (Or.inl ⟨by rfl, ?_⟩) ?_ ?_
                rotate_left
                ·intro w'
                 go_simp
                 with_reducible rfl
                rotate_left
                ·simp only [Act.put, sA, sZ, sS, i64_w, i32_w]
                 rfl
                refine pure_ (i := 2) (N := some 39) (v := ?_) (a' := ?_) (bl 13 7) rfl rfl (any_of HT_.out (by kernel_rfl)) (fun _ _ _ h => h) (Or.inl ⟨by rfl, ?_⟩) ?_ ?_
                rotate_left
                ·intro w'
                 go_simp
                 with_reducible rfl
                rotate_left
                ·simp only [Act.put, sA, sZ, sS, i64_w, i32_w]
                 rfl
                refine pure_ (i := 5) (N := some 42) (v := ?_) (a' := ?_) (bl 13 39) rfl rfl (any_of HT_.out (by kernel_rfl)) (fun _ _ _ h => h) (Or.inl ⟨by rfl, ?_⟩) ?_ ?_
                rotate_left
                ·intro w'
                 go_simp
                 with_reducible rfl
                rotate_left
                ·simp only [Act.put, sA, sZ, sS, i64_w, i32_w]
                 rfl
                refine pure_ (i := 6) (N := some 43) (v := ?_) (a' := ?_) (bl 13 103) rfl rfl (any_of HT_.out (by kernel_rfl)) (fun _ _ _ h => h) (Or.inl ⟨by rfl, ?_⟩) ?_ ?_
                rotate_left
                ·intro w'
                 go_simp
                 with_reducible rfl
                rotate_left
                ·simp only [Act.put, sA, sZ, sS, i64_w, i32_w]
                 rfl
                refine pure_ (i := 7) (N := some 44) (v := ?_) (a' := ?_) (bl 13 231) rfl rfl (any_of HT_.out (by kernel_rfl)) (fun _ _ _ h => h) (Or.inl ⟨by rfl, ?_⟩) ?_ ?_
                rotate_left
                ·intro w'
                 go_simp
                 with_reducible rfl
                rotate_left
                ·simp only [Act.put, sA, sZ, sS, i64_w, i32_w]
                 rfl
                refine take_ (i := 3) (N := some 40) (v := ?_) (a' := ?_) (bl 13 239) rfl rfl (take_ofW HT_.out HW_.out (by kernel_rfl)) (fun _ _ _ h => h) (Or.inl ⟨by rfl, ?_⟩) hHeld ?_ ?_
                rotate_left
                ·rintro w' ⟨s0, s1, s2, s3, s4, s5, s6, s7, s8, s9, s10, s11, s12, s13, s14, s15, s16⟩
                 go_simp
                 with_reducible rfl
                rotate_left
                ·simp only [Act.put, sA, sZ, sS, i64_w, i32_w]
                 rfl
                refine take_ (i := 8) (N := some 45) (v := ?_) (a' := ?_) (bl 13 495) rfl rfl (take_ofW HT_.out HW_.out (by kernel_rfl)) (fun _ _ _ h => h) (Or.inl ⟨by rfl, ?_⟩) hHeld ?_ ?_
                rotate_left
                ·rintro w' ⟨s0, s1, s2, s3, s4, s5, s6, s7, s8, s9, s10, s11, s12, s13, s14, s15, s16⟩
                 go_simp
                 with_reducible rfl
                rotate_left
                ·simp only [Act.put, sA, sZ, sS, i64_w, i32_w]
                 rfl
                refine join_ (σ := Nat) 1 (bl 13 4095) (fun s_ => [(41, .int .i64 t107), (46, .int .i64 t108), (13, .pointer (some ⟨s_, 0, none⟩)), (47, .agg #[.int .i64 t107, .int .i64 t108])]) (fun s_ w' => (w'.cell? ⟨gb104, 0, none⟩ = some (.string ((rd_T64 l0_1 x18_1).head.pred)) ∧ w'.cell? ⟨gb104, 1, none⟩ = some (.slice A103_1 ((rd_T64 l0_1 x18_1).head.args).length c103_1) ∧ w'.cell? ⟨gb104, 2, none⟩ = some (.slice (some ad105) ((rd_T64 l0_1 x18_1).body).length c103_2) ∧ w'.cell? ⟨gb106, 0, none⟩ = some (.int .i64 ((rd_T71 ((rd_T64 l0_1 x18_1).body) x25_2).kind)) ∧ w'.cell? ⟨gb106, 1, none⟩ = some (.string ((rd_T71 ((rd_T64 l0_1 x18_1).body) x25_2).atom.pred)) ∧ w'.cell? ⟨gb106, 2, none⟩ = some (.slice A105_2 ((rd_T71 ((rd_T64 l0_1 x18_1).body) x25_2).atom.args).length c105_2) ∧ w'.cell? ⟨gb106, 3, none⟩ = some (.string ((rd_T71 ((rd_T64 l0_1 x18_1).body) x25_2).op)) ∧ w'.cell? ⟨gb106, 4, none⟩ = some (.bool ((rd_T71 ((rd_T64 l0_1 x18_1).body) x25_2).l.isVar)) ∧ w'.cell? ⟨gb106, 5, none⟩ = some (.string ((rd_T71 ((rd_T64 l0_1 x18_1).body) x25_2).l.name)) ∧ w'.cell? ⟨gb106, 6, none⟩ = some (.bool ((rd_T71 ((rd_T64 l0_1 x18_1).body) x25_2).l.val.isSym)) ∧ w'.cell? ⟨gb106, 7, none⟩ = some (.string ((rd_T71 ((rd_T64 l0_1 x18_1).body) x25_2).l.val.sym)) ∧ w'.cell? ⟨gb106, 8, none⟩ = some (.int .i64 ((rd_T71 ((rd_T64 l0_1 x18_1).body) x25_2).l.val.n)) ∧ w'.cell? ⟨gb106, 9, none⟩ = some (.bool ((rd_T71 ((rd_T64 l0_1 x18_1).body) x25_2).r.isVar)) ∧ w'.cell? ⟨gb106, 10, none⟩ = some (.string ((rd_T71 ((rd_T64 l0_1 x18_1).body) x25_2).r.name)) ∧ w'.cell? ⟨gb106, 11, none⟩ = some (.bool ((rd_T71 ((rd_T64 l0_1 x18_1).body) x25_2).r.val.isSym)) ∧ w'.cell? ⟨gb106, 12, none⟩ = some (.string ((rd_T71 ((rd_T64 l0_1 x18_1).body) x25_2).r.val.sym)) ∧ w'.cell? ⟨gb106, 13, none⟩ = some (.int .i64 ((rd_T71 ((rd_T64 l0_1 x18_1).body) x25_2).r.val.n))) ∧ (Kd.R k27 27 w' w.heap.size (fun k_ => some k_ ≠ (u7 : Value).ownBlock ∧ k_ ≠ s_) u6 x6_2) ∧ (Kd.R k27 27 w' w.heap.size (fun k_ => some k_ ≠ (u6 : Value).ownBlock ∧ k_ ≠ s_) u7 x7_2) ∧ (w'.heap[gb101]? = some (.cells #[.slice A0_0 l0_0.length c0_0, .slice (some ad103) l0_1.length c0_1] 50 (0, 0))) ∧ (w'.heap[gb102]? = some (.cells #[.slice A1 l1.length c1] 52 (0, 0))) ∧ (w'.heap[gb104]? = some (.cells #[.string ((rd_T64 l0_1 x18_1).head.pred), .slice A103_1 ((rd_T64 l0_1 x18_1).head.args).length c103_1, .slice (some ad105) ((rd_T64 l0_1 x18_1).body).length c103_2] 64 (0, 0))) ∧ (w'.heap[gb106]? = some (.cells #[.int .i64 ((rd_T71 ((rd_T64 l0_1 x18_1).body) x25_2).kind), .string ((rd_T71 ((rd_T64 l0_1 x18_1).body) x25_2).atom.pred), .slice A105_2 ((rd_T71 ((rd_T64 l0_1 x18_1).body) x25_2).atom.args).length c105_2, .string ((rd_T71 ((rd_T64 l0_1 x18_1).body) x25_2).op), .bool ((rd_T71 ((rd_T64 l0_1 x18_1).body) x25_2).l.isVar), .string ((rd_T71 ((rd_T64 l0_1 x18_1).body) x25_2).l.name), .bool ((rd_T71 ((rd_T64 l0_1 x18_1).body) x25_2).l.val.isSym), .string ((rd_T71 ((rd_T64 l0_1 x18_1).body) x25_2).l.val.sym), .int .i64 ((rd_T71 ((rd_T64 l0_1 x18_1).body) x25_2).l.val.n), .bool ((rd_T71 ((rd_T64 l0_1 x18_1).body) x25_2).r.isVar), .string ((rd_T71 ((rd_T64 l0_1 x18_1).body) x25_2).r.name), .bool ((rd_T71 ((rd_T64 l0_1 x18_1).body) x25_2).r.val.isSym), .string ((rd_T71 ((rd_T64 l0_1 x18_1).body) x25_2).r.val.sym), .int .i64 ((rd_T71 ((rd_T64 l0_1 x18_1).body) x25_2).r.val.n)] 71 (0, 0))) ∧ (w'.heap[s_]? = some (.cells #[.int .i64 0, .int .i64 0] 27 (0, 0))) ∧ (w.heap.size ≤ s_) ∧ (w.heap.size ≤ s_) ∧ (gb101 ≠ s_) ∧ (s_ ≠ gb101) ∧ (gb102 ≠ s_) ∧ (s_ ≠ gb102) ∧ (gb104 ≠ s_) ∧ (s_ ≠ gb104) ∧ (gb106 ≠ s_) ∧ (s_ ≠ gb106) ∧ (Below w.heap.size w w')) ?_ ?_
                rotate_left
                ·intro hCont
                 refine two_ (i := 4) (j := 11) (Ni := some 41) (Nj := some 13) (bl 13 511) (bl 13 2543) rfl rfl rfl rfl (two_of HT_.out (by kernel_rfl)) (by decide) (by decide) (fun K hK => ?_) (fun K hK => ?_)
                 ·skip
                  refine goesT_ (caps := #[.pointer (some ⟨gb102, 0, none⟩)]) Try.func63 (by kernel_rfl) rfl #[.string ((rd_T64 l0_1 x18_1).head.pred), .pointer (some ⟨gb102, 0, none⟩)] (by rfl) rfl rfl (by first | rfl | (go_simp; done)) (by (try simp only [List.map_toArray, List.map_cons, List.map_nil]); first | done | rfl | (simp only [List.length_drop, List.length_take]; rfl)) ?_
                  refine (EdgesAt.calls ((rd_T64 l0_1 x18_1).head.pred) A1 c1 l1 t107 _ ?side1 ?side2 ?side3 A33.out).mono ?_
                  (case side1 => repeat (first | exact (Kd.C_below HR1.out HB.out) | (with_reducible refine Kd.C_alloc ?_ _) | (with_reducible refine Kd.C_drewN ?_ _) | (with_reducible refine Kd.C_drew ?_)))
                  (case side2 => exact HC1.out)
                  (case side3 => (with_reducible repeat (first | refine bN ?_ _ | refine bD ?_ | refine bA ?_ _)); exact BK102.out)
                  rintro e w58 ⟨rfl, hb⟩
                  refine ⟨_, rfl, ?_⟩
                  replace HO_6 := am (Kd.R_below (by (with_reducible repeat (first | apply Ra | apply Rn | apply Rd)); exact HO_6.out) hb)
                  replace HO_7 := am (Kd.R_below (by (with_reducible repeat (first | apply Ra | apply Rn | apply Rd)); exact HO_7.out) hb)
                  replace BK101 := am (blk_below (g := gb101) (o := .cells #[.slice A0_0 l0_0.length c0_0, .slice (some ad103) l0_1.length c0_1] 50 (0, 0)) (by (with_reducible repeat (first | refine bN ?_ _ | refine bD ?_ | refine bA ?_ _)); exact BK101.out) hb)
                  replace BK102 := am (blk_below (g := gb102) (o := .cells #[.slice A1 l1.length c1] 52 (0, 0)) (by (with_reducible repeat (first | refine bN ?_ _ | refine bD ?_ | refine bA ?_ _)); exact BK102.out) hb)
                  replace BK104 := am (blk_below (g := gb104) (o := .cells #[.string ((rd_T64 l0_1 x18_1).head.pred), .slice A103_1 ((rd_T64 l0_1 x18_1).head.args).length c103_1, .slice (some ad105) ((rd_T64 l0_1 x18_1).body).length c103_2] 64 (0, 0)) (by (with_reducible repeat (first | refine bN ?_ _ | refine bD ?_ | refine bA ?_ _)); exact BK104.out) hb)
                  replace BK106 := am (blk_below (g := gb106) (o := .cells #[.int .i64 ((rd_T71 ((rd_T64 l0_1 x18_1).body) x25_2).kind), .string ((rd_T71 ((rd_T64 l0_1 x18_1).body) x25_2).atom.pred), .slice A105_2 ((rd_T71 ((rd_T64 l0_1 x18_1).body) x25_2).atom.args).length c105_2, .string ((rd_T71 ((rd_T64 l0_1 x18_1).body) x25_2).op), .bool ((rd_T71 ((rd_T64 l0_1 x18_1).body) x25_2).l.isVar), .string ((rd_T71 ((rd_T64 l0_1 x18_1).body) x25_2).l.name), .bool ((rd_T71 ((rd_T64 l0_1 x18_1).body) x25_2).l.val.isSym), .string ((rd_T71 ((rd_T64 l0_1 x18_1).body) x25_2).l.val.sym), .int .i64 ((rd_T71 ((rd_T64 l0_1 x18_1).body) x25_2).l.val.n), .bool ((rd_T71 ((rd_T64 l0_1 x18_1).body) x25_2).r.isVar), .string ((rd_T71 ((rd_T64 l0_1 x18_1).body) x25_2).r.name), .bool ((rd_T71 ((rd_T64 l0_1 x18_1).body) x25_2).r.val.isSym), .string ((rd_T71 ((rd_T64 l0_1 x18_1).body) x25_2).r.val.sym), .int .i64 ((rd_T71 ((rd_T64 l0_1 x18_1).body) x25_2).r.val.n)] 71 (0, 0)) (by (with_reducible repeat (first | refine bN ?_ _ | refine bD ?_ | refine bA ?_ _)); exact BK106.out) hb)
                  replace HB := am (below_step (by repeat (first | (with_reducible first | exact HB.out | apply lA | apply lN | apply lD | refine lS ?_ GE101.out | refine lS ?_ GE102.out | refine lS ?_ GE104.out | refine lS ?_ GE106.out) | exact HB.out)) hb)
                  (try clear hb)
                  (try clear hb2)
                  (try clear hk)
                  (try clear hi)
                  refine hK.out _ _ ⟨(blk_cell BK104.out 0).trans rfl, (blk_cell BK104.out 1).trans rfl, (blk_cell BK104.out 2).trans rfl, (blk_cell BK106.out 0).trans rfl, (blk_cell BK106.out 1).trans rfl, (blk_cell BK106.out 2).trans rfl, (blk_cell BK106.out 3).trans rfl, (blk_cell BK106.out 4).trans rfl, (blk_cell BK106.out 5).trans rfl, (blk_cell BK106.out 6).trans rfl, (blk_cell BK106.out 7).trans rfl, (blk_cell BK106.out 8).trans rfl, (blk_cell BK106.out 9).trans rfl, (blk_cell BK106.out 10).trans rfl, (blk_cell BK106.out 11).trans rfl, (blk_cell BK106.out 12).trans rfl, (blk_cell BK106.out 13).trans rfl⟩ (fun hHeld => ?_)
                  clear hK K
                  refine norm_ (a' := ?_) ?_ ?_
                  rotate_left
                  ·show Act.put _ (some 41) _ = _
                   simp only [Act.put, sA, sZ, sS, i64_w, i32_w]
                   rfl
                  refine two_ (i := 9) (j := 11) (Ni := some 46) (Nj := some 13) (bl 13 1023) (bl 13 2559) rfl rfl rfl rfl (two_of HT_.out (by kernel_rfl)) (by decide) (by decide) (fun K hK => ?_) (fun K hK => ?_)
                  ·skip
                   refine goesT_ (caps := #[.pointer (some ⟨gb102, 0, none⟩)]) Try.func63 (by kernel_rfl) rfl #[.string ((rd_T71 ((rd_T64 l0_1 x18_1).body) x25_2).atom.pred), .pointer (some ⟨gb102, 0, none⟩)] (by rfl) rfl rfl (by first | rfl | (go_simp; done)) (by (try simp only [List.map_toArray, List.map_cons, List.map_nil]); first | done | rfl | (simp only [List.length_drop, List.length_take]; rfl)) ?_
                   refine (EdgesAt.calls ((rd_T71 ((rd_T64 l0_1 x18_1).body) x25_2).atom.pred) A1 c1 l1 t108 _ ?side1 ?side2 ?side3 A34.out).mono ?_
                   (case side1 => repeat (first | exact (Kd.C_below HR1.out HB.out) | (with_reducible refine Kd.C_alloc ?_ _) | (with_reducible refine Kd.C_drewN ?_ _) | (with_reducible refine Kd.C_drew ?_)))
                   (case side2 => exact HC1.out)
                   (case side3 => (with_reducible repeat (first | refine bN ?_ _ | refine bD ?_ | refine bA ?_ _)); exact BK102.out)
                   rintro e w59 ⟨rfl, hb⟩
                   refine ⟨_, rfl, ?_⟩
                   replace HO_6 := am (Kd.R_below (by (with_reducible repeat (first | apply Ra | apply Rn | apply Rd)); exact HO_6.out) hb)
                   replace HO_7 := am (Kd.R_below (by (with_reducible repeat (first | apply Ra | apply Rn | apply Rd)); exact HO_7.out) hb)
                   replace BK101 := am (blk_below (g := gb101) (o := .cells #[.slice A0_0 l0_0.length c0_0, .slice (some ad103) l0_1.length c0_1] 50 (0, 0)) (by (with_reducible repeat (first | refine bN ?_ _ | refine bD ?_ | refine bA ?_ _)); exact BK101.out) hb)
                   replace BK102 := am (blk_below (g := gb102) (o := .cells #[.slice A1 l1.length c1] 52 (0, 0)) (by (with_reducible repeat (first | refine bN ?_ _ | refine bD ?_ | refine bA ?_ _)); exact BK102.out) hb)
                   replace BK104 := am (blk_below (g := gb104) (o := .cells #[.string ((rd_T64 l0_1 x18_1).head.pred), .slice A103_1 ((rd_T64 l0_1 x18_1).head.args).length c103_1, .slice (some ad105) ((rd_T64 l0_1 x18_1).body).length c103_2] 64 (0, 0)) (by (with_reducible repeat (first | refine bN ?_ _ | refine bD ?_ | refine bA ?_ _)); exact BK104.out) hb)
                   replace BK106 := am (blk_below (g := gb106) (o := .cells #[.int .i64 ((rd_T71 ((rd_T64 l0_1 x18_1).body) x25_2).kind), .string ((rd_T71 ((rd_T64 l0_1 x18_1).body) x25_2).atom.pred), .slice A105_2 ((rd_T71 ((rd_T64 l0_1 x18_1).body) x25_2).atom.args).length c105_2, .string ((rd_T71 ((rd_T64 l0_1 x18_1).body) x25_2).op), .bool ((rd_T71 ((rd_T64 l0_1 x18_1).body) x25_2).l.isVar), .string ((rd_T71 ((rd_T64 l0_1 x18_1).body) x25_2).l.name), .bool ((rd_T71 ((rd_T64 l0_1 x18_1).body) x25_2).l.val.isSym), .string ((rd_T71 ((rd_T64 l0_1 x18_1).body) x25_2).l.val.sym), .int .i64 ((rd_T71 ((rd_T64 l0_1 x18_1).body) x25_2).l.val.n), .bool ((rd_T71 ((rd_T64 l0_1 x18_1).body) x25_2).r.isVar), .string ((rd_T71 ((rd_T64 l0_1 x18_1).body) x25_2).r.name), .bool ((rd_T71 ((rd_T64 l0_1 x18_1).body) x25_2).r.val.isSym), .string ((rd_T71 ((rd_T64 l0_1 x18_1).body) x25_2).r.val.sym), .int .i64 ((rd_T71 ((rd_T64 l0_1 x18_1).body) x25_2).r.val.n)] 71 (0, 0)) (by (with_reducible repeat (first | refine bN ?_ _ | refine bD ?_ | refine bA ?_ _)); exact BK106.out) hb)
                   replace HB := am (below_step (by repeat (first | (with_reducible first | exact HB.out | apply lA | apply lN | apply lD | refine lS ?_ GE101.out | refine lS ?_ GE102.out | refine lS ?_ GE104.out | refine lS ?_ GE106.out) | exact HB.out)) hb)
                   (try clear hb)
                   (try clear hb2)
                   (try clear hk)
                   (try clear hi)
                   refine hK.out _ _ ⟨(blk_cell BK104.out 0).trans rfl, (blk_cell BK104.out 1).trans rfl, (blk_cell BK104.out 2).trans rfl, (blk_cell BK106.out 0).trans rfl, (blk_cell BK106.out 1).trans rfl, (blk_cell BK106.out 2).trans rfl, (blk_cell BK106.out 3).trans rfl, (blk_cell BK106.out 4).trans rfl, (blk_cell BK106.out 5).trans rfl, (blk_cell BK106.out 6).trans rfl, (blk_cell BK106.out 7).trans rfl, (blk_cell BK106.out 8).trans rfl, (blk_cell BK106.out 9).trans rfl, (blk_cell BK106.out 10).trans rfl, (blk_cell BK106.out 11).trans rfl, (blk_cell BK106.out 12).trans rfl, (blk_cell BK106.out 13).trans rfl⟩ (fun hHeld => ?_)
                   clear hK K
                   refine norm_ (a' := ?_) ?_ ?_
                   rotate_left
                   ·show Act.put _ (some 46) _ = _
                    simp only [Act.put, sA, sZ, sS, i64_w, i32_w]
                    rfl
                   refine pure_ (i := 10) (N := some 47) (v := ?_) (a' := ?_) (bl 13 2047) rfl rfl (any_of HT_.out (by kernel_rfl)) (fun _ _ _ h => h) (Or.inl ⟨by rfl, ?_⟩) ?_ ?_
                   rotate_left
                   ·intro w'
                    go_simp
                    with_reducible rfl
                   rotate_left
                   ·simp only [Act.put, sA, sZ, sS, i64_w, i32_w]
                    rfl
                   refine one_ (i := 11) (N := some 13) (bl 13 4095) rfl rfl (one_of HT_.out (by kernel_rfl)) (by decide) (fun K hK => ?_)
                   refine box_step ?hg (N := 13) ?hd (cs := #[.int .i64 0, .int .i64 0]) (t := 27) ?hr ?_; (case hd => rfl); (case hg => rfl); (case hr => first | (go_simp; done) | (go_simp; rfl))
                   intro gb109 hg w60 hbox hb
                   replace HO_6 := am (Kd.R_below (Kd.R_elderB (by (with_reducible repeat (first | apply Ra | apply Rn | apply Rd)); exact HO_6.out) gb109 (Nat.le_of_eq hg.symm)) hb)
                   replace HO_7 := am (Kd.R_below (Kd.R_elderB (by (with_reducible repeat (first | apply Ra | apply Rn | apply Rd)); exact HO_7.out) gb109 (Nat.le_of_eq hg.symm)) hb)
                   have BK109 := am (hbox)
                   have GW109 := am ((by rw [hg]; exact (below_size (by repeat (first | (with_reducible first | exact HB.out | apply lA | apply lN | apply lD | refine lS ?_ GE101.out | refine lS ?_ GE102.out | refine lS ?_ GE104.out | refine lS ?_ GE106.out) | exact HB.out))) : w.heap.size ≤ gb109))
                   have GE109 := am ((by rw [hg]; exact (below_size (by repeat (first | (with_reducible first | exact HB.out | apply lA | apply lN | apply lD | refine lS ?_ GE101.out | refine lS ?_ GE102.out | refine lS ?_ GE104.out | refine lS ?_ GE106.out) | exact HB.out))) : w.heap.size ≤ gb109))
                   replace HB := am (below_step (by repeat (first | (with_reducible first | exact HB.out | apply lA | apply lN | apply lD | refine lS ?_ GE101.out | refine lS ?_ GE102.out | refine lS ?_ GE104.out | refine lS ?_ GE106.out) | exact HB.out)) hb)
                   have NB101_109 := am ((by rw [hg]; exact Nat.ne_of_lt (blk_lt (g := gb101) (o := .cells #[.slice A0_0 l0_0.length c0_0, .slice (some ad103) l0_1.length c0_1] 50 (0, 0)) (by (with_reducible repeat (first | refine bN ?_ _ | refine bD ?_ | refine bA ?_ _)); exact BK101.out)) : gb101 ≠ gb109))
                   have NB109_101 := am ((by rw [hg]; exact Nat.ne_of_gt (blk_lt (g := gb101) (o := .cells #[.slice A0_0 l0_0.length c0_0, .slice (some ad103) l0_1.length c0_1] 50 (0, 0)) (by (with_reducible repeat (first | refine bN ?_ _ | refine bD ?_ | refine bA ?_ _)); exact BK101.out)) : gb109 ≠ gb101))
                   replace BK101 := am (blk_below (g := gb101) (o := .cells #[.slice A0_0 l0_0.length c0_0, .slice (some ad103) l0_1.length c0_1] 50 (0, 0)) (by (with_reducible repeat (first | refine bN ?_ _ | refine bD ?_ | refine bA ?_ _)); exact BK101.out) hb)
                   have NB102_109 := am ((by rw [hg]; exact Nat.ne_of_lt (blk_lt (g := gb102) (o := .cells #[.slice A1 l1.length c1] 52 (0, 0)) (by (with_reducible repeat (first | refine bN ?_ _ | refine bD ?_ | refine bA ?_ _)); exact BK102.out)) : gb102 ≠ gb109))
                   have NB109_102 := am ((by rw [hg]; exact Nat.ne_of_gt (blk_lt (g := gb102) (o := .cells #[.slice A1 l1.length c1] 52 (0, 0)) (by (with_reducible repeat (first | refine bN ?_ _ | refine bD ?_ | refine bA ?_ _)); exact BK102.out)) : gb109 ≠ gb102))
                   replace BK102 := am (blk_below (g := gb102) (o := .cells #[.slice A1 l1.length c1] 52 (0, 0)) (by (with_reducible repeat (first | refine bN ?_ _ | refine bD ?_ | refine bA ?_ _)); exact BK102.out) hb)
                   have NB104_109 := am ((by rw [hg]; exact Nat.ne_of_lt (blk_lt (g := gb104) (o := .cells #[.string ((rd_T64 l0_1 x18_1).head.pred), .slice A103_1 ((rd_T64 l0_1 x18_1).head.args).length c103_1, .slice (some ad105) ((rd_T64 l0_1 x18_1).body).length c103_2] 64 (0, 0)) (by (with_reducible repeat (first | refine bN ?_ _ | refine bD ?_ | refine bA ?_ _)); exact BK104.out)) : gb104 ≠ gb109))
                   have NB109_104 := am ((by rw [hg]; exact Nat.ne_of_gt (blk_lt (g := gb104) (o := .cells #[.string ((rd_T64 l0_1 x18_1).head.pred), .slice A103_1 ((rd_T64 l0_1 x18_1).head.args).length c103_1, .slice (some ad105) ((rd_T64 l0_1 x18_1).body).length c103_2] 64 (0, 0)) (by (with_reducible repeat (first | refine bN ?_ _ | refine bD ?_ | refine bA ?_ _)); exact BK104.out)) : gb109 ≠ gb104))
                   replace BK104 := am (blk_below (g := gb104) (o := .cells #[.string ((rd_T64 l0_1 x18_1).head.pred), .slice A103_1 ((rd_T64 l0_1 x18_1).head.args).length c103_1, .slice (some ad105) ((rd_T64 l0_1 x18_1).body).length c103_2] 64 (0, 0)) (by (with_reducible repeat (first | refine bN ?_ _ | refine bD ?_ | refine bA ?_ _)); exact BK104.out) hb)
                   have NB106_109 := am ((by rw [hg]; exact Nat.ne_of_lt (blk_lt (g := gb106) (o := .cells #[.int .i64 ((rd_T71 ((rd_T64 l0_1 x18_1).body) x25_2).kind), .string ((rd_T71 ((rd_T64 l0_1 x18_1).body) x25_2).atom.pred), .slice A105_2 ((rd_T71 ((rd_T64 l0_1 x18_1).body) x25_2).atom.args).length c105_2, .string ((rd_T71 ((rd_T64 l0_1 x18_1).body) x25_2).op), .bool ((rd_T71 ((rd_T64 l0_1 x18_1).body) x25_2).l.isVar), .string ((rd_T71 ((rd_T64 l0_1 x18_1).body) x25_2).l.name), .bool ((rd_T71 ((rd_T64 l0_1 x18_1).body) x25_2).l.val.isSym), .string ((rd_T71 ((rd_T64 l0_1 x18_1).body) x25_2).l.val.sym), .int .i64 ((rd_T71 ((rd_T64 l0_1 x18_1).body) x25_2).l.val.n), .bool ((rd_T71 ((rd_T64 l0_1 x18_1).body) x25_2).r.isVar), .string ((rd_T71 ((rd_T64 l0_1 x18_1).body) x25_2).r.name), .bool ((rd_T71 ((rd_T64 l0_1 x18_1).body) x25_2).r.val.isSym), .string ((rd_T71 ((rd_T64 l0_1 x18_1).body) x25_2).r.val.sym), .int .i64 ((rd_T71 ((rd_T64 l0_1 x18_1).body) x25_2).r.val.n)] 71 (0, 0)) (by (with_reducible repeat (first | refine bN ?_ _ | refine bD ?_ | refine bA ?_ _)); exact BK106.out)) : gb106 ≠ gb109))
                   have NB109_106 := am ((by rw [hg]; exact Nat.ne_of_gt (blk_lt (g := gb106) (o := .cells #[.int .i64 ((rd_T71 ((rd_T64 l0_1 x18_1).body) x25_2).kind), .string ((rd_T71 ((rd_T64 l0_1 x18_1).body) x25_2).atom.pred), .slice A105_2 ((rd_T71 ((rd_T64 l0_1 x18_1).body) x25_2).atom.args).length c105_2, .string ((rd_T71 ((rd_T64 l0_1 x18_1).body) x25_2).op), .bool ((rd_T71 ((rd_T64 l0_1 x18_1).body) x25_2).l.isVar), .string ((rd_T71 ((rd_T64 l0_1 x18_1).body) x25_2).l.name), .bool ((rd_T71 ((rd_T64 l0_1 x18_1).body) x25_2).l.val.isSym), .string ((rd_T71 ((rd_T64 l0_1 x18_1).body) x25_2).l.val.sym), .int .i64 ((rd_T71 ((rd_T64 l0_1 x18_1).body) x25_2).l.val.n), .bool ((rd_T71 ((rd_T64 l0_1 x18_1).body) x25_2).r.isVar), .string ((rd_T71 ((rd_T64 l0_1 x18_1).body) x25_2).r.name), .bool ((rd_T71 ((rd_T64 l0_1 x18_1).body) x25_2).r.val.isSym), .string ((rd_T71 ((rd_T64 l0_1 x18_1).body) x25_2).r.val.sym), .int .i64 ((rd_T71 ((rd_T64 l0_1 x18_1).body) x25_2).r.val.n)] 71 (0, 0)) (by (with_reducible repeat (first | refine bN ?_ _ | refine bD ?_ | refine bA ?_ _)); exact BK106.out)) : gb109 ≠ gb106))
                   replace BK106 := am (blk_below (g := gb106) (o := .cells #[.int .i64 ((rd_T71 ((rd_T64 l0_1 x18_1).body) x25_2).kind), .string ((rd_T71 ((rd_T64 l0_1 x18_1).body) x25_2).atom.pred), .slice A105_2 ((rd_T71 ((rd_T64 l0_1 x18_1).body) x25_2).atom.args).length c105_2, .string ((rd_T71 ((rd_T64 l0_1 x18_1).body) x25_2).op), .bool ((rd_T71 ((rd_T64 l0_1 x18_1).body) x25_2).l.isVar), .string ((rd_T71 ((rd_T64 l0_1 x18_1).body) x25_2).l.name), .bool ((rd_T71 ((rd_T64 l0_1 x18_1).body) x25_2).l.val.isSym), .string ((rd_T71 ((rd_T64 l0_1 x18_1).body) x25_2).l.val.sym), .int .i64 ((rd_T71 ((rd_T64 l0_1 x18_1).body) x25_2).l.val.n), .bool ((rd_T71 ((rd_T64 l0_1 x18_1).body) x25_2).r.isVar), .string ((rd_T71 ((rd_T64 l0_1 x18_1).body) x25_2).r.name), .bool ((rd_T71 ((rd_T64 l0_1 x18_1).body) x25_2).r.val.isSym), .string ((rd_T71 ((rd_T64 l0_1 x18_1).body) x25_2).r.val.sym), .int .i64 ((rd_T71 ((rd_T64 l0_1 x18_1).body) x25_2).r.val.n)] 71 (0, 0)) (by (with_reducible repeat (first | refine bN ?_ _ | refine bD ?_ | refine bA ?_ _)); exact BK106.out) hb)
                   clear hb hbox hg
                   refine hK.out _ _ ⟨(blk_cell BK104.out 0).trans rfl, (blk_cell BK104.out 1).trans rfl, (blk_cell BK104.out 2).trans rfl, (blk_cell BK106.out 0).trans rfl, (blk_cell BK106.out 1).trans rfl, (blk_cell BK106.out 2).trans rfl, (blk_cell BK106.out 3).trans rfl, (blk_cell BK106.out 4).trans rfl, (blk_cell BK106.out 5).trans rfl, (blk_cell BK106.out 6).trans rfl, (blk_cell BK106.out 7).trans rfl, (blk_cell BK106.out 8).trans rfl, (blk_cell BK106.out 9).trans rfl, (blk_cell BK106.out 10).trans rfl, (blk_cell BK106.out 11).trans rfl, (blk_cell BK106.out 12).trans rfl, (blk_cell BK106.out 13).trans rfl⟩ (fun hHeld => ?_)
                   clear hK K
                   refine norm_ (a' := ?_) ?_ ?_
                   rotate_left
                   ·show Act.put _ (some 13) _ = _
                    simp only [Act.put, sA, sZ, sS, i64_w, i32_w]
                    rfl
                   exact norm_ (by simp only [putAll, Act.put, List.setIfInBounds_toArray, List.set_cons_zero, List.set_cons_succ]) (hCont (gb109) _ ⟨hHeld, (by (with_reducible repeat (first | apply Ra | apply Rn | apply Rd)); exact HO_6.out), (by (with_reducible repeat (first | apply Ra | apply Rn | apply Rd)); exact HO_7.out), (by (with_reducible repeat (first | refine bN ?_ _ | refine bD ?_ | refine bA ?_ _)); exact BK101.out), (by (with_reducible repeat (first | refine bN ?_ _ | refine bD ?_ | refine bA ?_ _)); exact BK102.out), (by (with_reducible repeat (first | refine bN ?_ _ | refine bD ?_ | refine bA ?_ _)); exact BK104.out), (by (with_reducible repeat (first | refine bN ?_ _ | refine bD ?_ | refine bA ?_ _)); exact BK106.out), (by (with_reducible repeat (first | refine bN ?_ _ | refine bD ?_ | refine bA ?_ _)); exact BK109.out), GW109.out, GE109.out, NB101_109.out, NB109_101.out, NB102_109.out, NB109_102.out, NB104_109.out, NB109_104.out, NB106_109.out, NB109_106.out, (by repeat (first | (with_reducible first | exact HB.out | apply lA | apply lN | apply lD | refine lS ?_ GE101.out | refine lS ?_ GE102.out | refine lS ?_ GE104.out | refine lS ?_ GE106.out | refine lS ?_ GE109.out) | exact HB.out))⟩)
                  ·skip
                   refine box_step ?hg (N := 13) ?hd (cs := #[.int .i64 0, .int .i64 0]) (t := 27) ?hr ?_; (case hd => rfl); (case hg => rfl); (case hr => first | (go_simp; done) | (go_simp; rfl))
                   intro gb109 hg w59 hbox hb
                   replace HO_6 := am (Kd.R_below (Kd.R_elderB (by (with_reducible repeat (first | apply Ra | apply Rn | apply Rd)); exact HO_6.out) gb109 (Nat.le_of_eq hg.symm)) hb)
                   replace HO_7 := am (Kd.R_below (Kd.R_elderB (by (with_reducible repeat (first | apply Ra | apply Rn | apply Rd)); exact HO_7.out) gb109 (Nat.le_of_eq hg.symm)) hb)
                   have BK109 := am (hbox)
                   have GW109 := am ((by rw [hg]; exact (below_size (by repeat (first | (with_reducible first | exact HB.out | apply lA | apply lN | apply lD | refine lS ?_ GE101.out | refine lS ?_ GE102.out | refine lS ?_ GE104.out | refine lS ?_ GE106.out) | exact HB.out))) : w.heap.size ≤ gb109))
                   have GE109 := am ((by rw [hg]; exact (below_size (by repeat (first | (with_reducible first | exact HB.out | apply lA | apply lN | apply lD | refine lS ?_ GE101.out | refine lS ?_ GE102.out | refine lS ?_ GE104.out | refine lS ?_ GE106.out) | exact HB.out))) : w.heap.size ≤ gb109))
                   replace HB := am (below_step (by repeat (first | (with_reducible first | exact HB.out | apply lA | apply lN | apply lD | refine lS ?_ GE101.out | refine lS ?_ GE102.out | refine lS ?_ GE104.out | refine lS ?_ GE106.out) | exact HB.out)) hb)
                   have NB101_109 := am ((by rw [hg]; exact Nat.ne_of_lt (blk_lt (g := gb101) (o := .cells #[.slice A0_0 l0_0.length c0_0, .slice (some ad103) l0_1.length c0_1] 50 (0, 0)) (by (with_reducible repeat (first | refine bN ?_ _ | refine bD ?_ | refine bA ?_ _)); exact BK101.out)) : gb101 ≠ gb109))
                   have NB109_101 := am ((by rw [hg]; exact Nat.ne_of_gt (blk_lt (g := gb101) (o := .cells #[.slice A0_0 l0_0.length c0_0, .slice (some ad103) l0_1.length c0_1] 50 (0, 0)) (by (with_reducible repeat (first | refine bN ?_ _ | refine bD ?_ | refine bA ?_ _)); exact BK101.out)) : gb109 ≠ gb101))
                   replace BK101 := am (blk_below (g := gb101) (o := .cells #[.slice A0_0 l0_0.length c0_0, .slice (some ad103) l0_1.length c0_1] 50 (0, 0)) (by (with_reducible repeat (first | refine bN ?_ _ | refine bD ?_ | refine bA ?_ _)); exact BK101.out) hb)
                   have NB102_109 := am ((by rw [hg]; exact Nat.ne_of_lt (blk_lt (g := gb102) (o := .cells #[.slice A1 l1.length c1] 52 (0, 0)) (by (with_reducible repeat (first | refine bN ?_ _ | refine bD ?_ | refine bA ?_ _)); exact BK102.out)) : gb102 ≠ gb109))
                   have NB109_102 := am ((by rw [hg]; exact Nat.ne_of_gt (blk_lt (g := gb102) (o := .cells #[.slice A1 l1.length c1] 52 (0, 0)) (by (with_reducible repeat (first | refine bN ?_ _ | refine bD ?_ | refine bA ?_ _)); exact BK102.out)) : gb109 ≠ gb102))
                   replace BK102 := am (blk_below (g := gb102) (o := .cells #[.slice A1 l1.length c1] 52 (0, 0)) (by (with_reducible repeat (first | refine bN ?_ _ | refine bD ?_ | refine bA ?_ _)); exact BK102.out) hb)
                   have NB104_109 := am ((by rw [hg]; exact Nat.ne_of_lt (blk_lt (g := gb104) (o := .cells #[.string ((rd_T64 l0_1 x18_1).head.pred), .slice A103_1 ((rd_T64 l0_1 x18_1).head.args).length c103_1, .slice (some ad105) ((rd_T64 l0_1 x18_1).body).length c103_2] 64 (0, 0)) (by (with_reducible repeat (first | refine bN ?_ _ | refine bD ?_ | refine bA ?_ _)); exact BK104.out)) : gb104 ≠ gb109))
                   have NB109_104 := am ((by rw [hg]; exact Nat.ne_of_gt (blk_lt (g := gb104) (o := .cells #[.string ((rd_T64 l0_1 x18_1).head.pred), .slice A103_1 ((rd_T64 l0_1 x18_1).head.args).length c103_1, .slice (some ad105) ((rd_T64 l0_1 x18_1).body).length c103_2] 64 (0, 0)) (by (with_reducible repeat (first | refine bN ?_ _ | refine bD ?_ | refine bA ?_ _)); exact BK104.out)) : gb109 ≠ gb104))
                   replace BK104 := am (blk_below (g := gb104) (o := .cells #[.string ((rd_T64 l0_1 x18_1).head.pred), .slice A103_1 ((rd_T64 l0_1 x18_1).head.args).length c103_1, .slice (some ad105) ((rd_T64 l0_1 x18_1).body).length c103_2] 64 (0, 0)) (by (with_reducible repeat (first | refine bN ?_ _ | refine bD ?_ | refine bA ?_ _)); exact BK104.out) hb)
                   have NB106_109 := am ((by rw [hg]; exact Nat.ne_of_lt (blk_lt (g := gb106) (o := .cells #[.int .i64 ((rd_T71 ((rd_T64 l0_1 x18_1).body) x25_2).kind), .string ((rd_T71 ((rd_T64 l0_1 x18_1).body) x25_2).atom.pred), .slice A105_2 ((rd_T71 ((rd_T64 l0_1 x18_1).body) x25_2).atom.args).length c105_2, .string ((rd_T71 ((rd_T64 l0_1 x18_1).body) x25_2).op), .bool ((rd_T71 ((rd_T64 l0_1 x18_1).body) x25_2).l.isVar), .string ((rd_T71 ((rd_T64 l0_1 x18_1).body) x25_2).l.name), .bool ((rd_T71 ((rd_T64 l0_1 x18_1).body) x25_2).l.val.isSym), .string ((rd_T71 ((rd_T64 l0_1 x18_1).body) x25_2).l.val.sym), .int .i64 ((rd_T71 ((rd_T64 l0_1 x18_1).body) x25_2).l.val.n), .bool ((rd_T71 ((rd_T64 l0_1 x18_1).body) x25_2).r.isVar), .string ((rd_T71 ((rd_T64 l0_1 x18_1).body) x25_2).r.name), .bool ((rd_T71 ((rd_T64 l0_1 x18_1).body) x25_2).r.val.isSym), .string ((rd_T71 ((rd_T64 l0_1 x18_1).body) x25_2).r.val.sym), .int .i64 ((rd_T71 ((rd_T64 l0_1 x18_1).body) x25_2).r.val.n)] 71 (0, 0)) (by (with_reducible repeat (first | refine bN ?_ _ | refine bD ?_ | refine bA ?_ _)); exact BK106.out)) : gb106 ≠ gb109))
                   have NB109_106 := am ((by rw [hg]; exact Nat.ne_of_gt (blk_lt (g := gb106) (o := .cells #[.int .i64 ((rd_T71 ((rd_T64 l0_1 x18_1).body) x25_2).kind), .string ((rd_T71 ((rd_T64 l0_1 x18_1).body) x25_2).atom.pred), .slice A105_2 ((rd_T71 ((rd_T64 l0_1 x18_1).body) x25_2).atom.args).length c105_2, .string ((rd_T71 ((rd_T64 l0_1 x18_1).body) x25_2).op), .bool ((rd_T71 ((rd_T64 l0_1 x18_1).body) x25_2).l.isVar), .string ((rd_T71 ((rd_T64 l0_1 x18_1).body) x25_2).l.name), .bool ((rd_T71 ((rd_T64 l0_1 x18_1).body) x25_2).l.val.isSym), .string ((rd_T71 ((rd_T64 l0_1 x18_1).body) x25_2).l.val.sym), .int .i64 ((rd_T71 ((rd_T64 l0_1 x18_1).body) x25_2).l.val.n), .bool ((rd_T71 ((rd_T64 l0_1 x18_1).body) x25_2).r.isVar), .string ((rd_T71 ((rd_T64 l0_1 x18_1).body) x25_2).r.name), .bool ((rd_T71 ((rd_T64 l0_1 x18_1).body) x25_2).r.val.isSym), .string ((rd_T71 ((rd_T64 l0_1 x18_1).body) x25_2).r.val.sym), .int .i64 ((rd_T71 ((rd_T64 l0_1 x18_1).body) x25_2).r.val.n)] 71 (0, 0)) (by (with_reducible repeat (first | refine bN ?_ _ | refine bD ?_ | refine bA ?_ _)); exact BK106.out)) : gb109 ≠ gb106))
                   replace BK106 := am (blk_below (g := gb106) (o := .cells #[.int .i64 ((rd_T71 ((rd_T64 l0_1 x18_1).body) x25_2).kind), .string ((rd_T71 ((rd_T64 l0_1 x18_1).body) x25_2).atom.pred), .slice A105_2 ((rd_T71 ((rd_T64 l0_1 x18_1).body) x25_2).atom.args).length c105_2, .string ((rd_T71 ((rd_T64 l0_1 x18_1).body) x25_2).op), .bool ((rd_T71 ((rd_T64 l0_1 x18_1).body) x25_2).l.isVar), .string ((rd_T71 ((rd_T64 l0_1 x18_1).body) x25_2).l.name), .bool ((rd_T71 ((rd_T64 l0_1 x18_1).body) x25_2).l.val.isSym), .string ((rd_T71 ((rd_T64 l0_1 x18_1).body) x25_2).l.val.sym), .int .i64 ((rd_T71 ((rd_T64 l0_1 x18_1).body) x25_2).l.val.n), .bool ((rd_T71 ((rd_T64 l0_1 x18_1).body) x25_2).r.isVar), .string ((rd_T71 ((rd_T64 l0_1 x18_1).body) x25_2).r.name), .bool ((rd_T71 ((rd_T64 l0_1 x18_1).body) x25_2).r.val.isSym), .string ((rd_T71 ((rd_T64 l0_1 x18_1).body) x25_2).r.val.sym), .int .i64 ((rd_T71 ((rd_T64 l0_1 x18_1).body) x25_2).r.val.n)] 71 (0, 0)) (by (with_reducible repeat (first | refine bN ?_ _ | refine bD ?_ | refine bA ?_ _)); exact BK106.out) hb)
                   clear hb hbox hg
                   refine hK.out _ _ ⟨(blk_cell BK104.out 0).trans rfl, (blk_cell BK104.out 1).trans rfl, (blk_cell BK104.out 2).trans rfl, (blk_cell BK106.out 0).trans rfl, (blk_cell BK106.out 1).trans rfl, (blk_cell BK106.out 2).trans rfl, (blk_cell BK106.out 3).trans rfl, (blk_cell BK106.out 4).trans rfl, (blk_cell BK106.out 5).trans rfl, (blk_cell BK106.out 6).trans rfl, (blk_cell BK106.out 7).trans rfl, (blk_cell BK106.out 8).trans rfl, (blk_cell BK106.out 9).trans rfl, (blk_cell BK106.out 10).trans rfl, (blk_cell BK106.out 11).trans rfl, (blk_cell BK106.out 12).trans rfl, (blk_cell BK106.out 13).trans rfl⟩ (fun hHeld => ?_)
                   clear hK K
                   refine norm_ (a' := ?_) ?_ ?_
                   rotate_left
                   ·show Act.put _ (some 13) _ = _
                    simp only [Act.put, sA, sZ, sS, i64_w, i32_w]
                    rfl
                   refine one_ (i := 9) (N := some 46) (bl 13 3071) rfl rfl (one_of HT_.out (by kernel_rfl)) (by decide) (fun K hK => ?_)
                   refine goesT_ (caps := #[.pointer (some ⟨gb102, 0, none⟩)]) Try.func63 (by kernel_rfl) rfl #[.string ((rd_T71 ((rd_T64 l0_1 x18_1).body) x25_2).atom.pred), .pointer (some ⟨gb102, 0, none⟩)] (by rfl) rfl rfl (by first | rfl | (go_simp; done)) (by (try simp only [List.map_toArray, List.map_cons, List.map_nil]); first | done | rfl | (simp only [List.length_drop, List.length_take]; rfl)) ?_
                   refine (EdgesAt.calls ((rd_T71 ((rd_T64 l0_1 x18_1).body) x25_2).atom.pred) A1 c1 l1 t108 _ ?side1 ?side2 ?side3 A34.out).mono ?_
                   (case side1 => repeat (first | exact (Kd.C_below HR1.out HB.out) | (with_reducible refine Kd.C_alloc ?_ _) | (with_reducible refine Kd.C_drewN ?_ _) | (with_reducible refine Kd.C_drew ?_)))
                   (case side2 => exact HC1.out)
                   (case side3 => (with_reducible repeat (first | refine bN ?_ _ | refine bD ?_ | refine bA ?_ _)); exact BK102.out)
                   rintro e w60 ⟨rfl, hb⟩
                   refine ⟨_, rfl, ?_⟩
                   replace HO_6 := am (Kd.R_below (by (with_reducible repeat (first | apply Ra | apply Rn | apply Rd)); exact HO_6.out) hb)
                   replace HO_7 := am (Kd.R_below (by (with_reducible repeat (first | apply Ra | apply Rn | apply Rd)); exact HO_7.out) hb)
                   replace BK101 := am (blk_below (g := gb101) (o := .cells #[.slice A0_0 l0_0.length c0_0, .slice (some ad103) l0_1.length c0_1] 50 (0, 0)) (by (with_reducible repeat (first | refine bN ?_ _ | refine bD ?_ | refine bA ?_ _)); exact BK101.out) hb)
                   replace BK102 := am (blk_below (g := gb102) (o := .cells #[.slice A1 l1.length c1] 52 (0, 0)) (by (with_reducible repeat (first | refine bN ?_ _ | refine bD ?_ | refine bA ?_ _)); exact BK102.out) hb)
                   replace BK104 := am (blk_below (g := gb104) (o := .cells #[.string ((rd_T64 l0_1 x18_1).head.pred), .slice A103_1 ((rd_T64 l0_1 x18_1).head.args).length c103_1, .slice (some ad105) ((rd_T64 l0_1 x18_1).body).length c103_2] 64 (0, 0)) (by (with_reducible repeat (first | refine bN ?_ _ | refine bD ?_ | refine bA ?_ _)); exact BK104.out) hb)
                   replace BK106 := am (blk_below (g := gb106) (o := .cells #[.int .i64 ((rd_T71 ((rd_T64 l0_1 x18_1).body) x25_2).kind), .string ((rd_T71 ((rd_T64 l0_1 x18_1).body) x25_2).atom.pred), .slice A105_2 ((rd_T71 ((rd_T64 l0_1 x18_1).body) x25_2).atom.args).length c105_2, .string ((rd_T71 ((rd_T64 l0_1 x18_1).body) x25_2).op), .bool ((rd_T71 ((rd_T64 l0_1 x18_1).body) x25_2).l.isVar), .string ((rd_T71 ((rd_T64 l0_1 x18_1).body) x25_2).l.name), .bool ((rd_T71 ((rd_T64 l0_1 x18_1).body) x25_2).l.val.isSym), .string ((rd_T71 ((rd_T64 l0_1 x18_1).body) x25_2).l.val.sym), .int .i64 ((rd_T71 ((rd_T64 l0_1 x18_1).body) x25_2).l.val.n), .bool ((rd_T71 ((rd_T64 l0_1 x18_1).body) x25_2).r.isVar), .string ((rd_T71 ((rd_T64 l0_1 x18_1).body) x25_2).r.name), .bool ((rd_T71 ((rd_T64 l0_1 x18_1).body) x25_2).r.val.isSym), .string ((rd_T71 ((rd_T64 l0_1 x18_1).body) x25_2).r.val.sym), .int .i64 ((rd_T71 ((rd_T64 l0_1 x18_1).body) x25_2).r.val.n)] 71 (0, 0)) (by (with_reducible repeat (first | refine bN ?_ _ | refine bD ?_ | refine bA ?_ _)); exact BK106.out) hb)
                   replace BK109 := am (blk_below (g := gb109) (o := .cells #[.int .i64 0, .int .i64 0] 27 (0, 0)) (by (with_reducible repeat (first | refine bN ?_ _ | refine bD ?_ | refine bA ?_ _)); exact BK109.out) hb)
                   replace HB := am (below_step (by repeat (first | (with_reducible first | exact HB.out | apply lA | apply lN | apply lD | refine lS ?_ GE101.out | refine lS ?_ GE102.out | refine lS ?_ GE104.out | refine lS ?_ GE106.out | refine lS ?_ GE109.out) | exact HB.out)) hb)
                   (try clear hb)
                   (try clear hb2)
                   (try clear hk)
                   (try clear hi)
                   refine hK.out _ _ ⟨(blk_cell BK104.out 0).trans rfl, (blk_cell BK104.out 1).trans rfl, (blk_cell BK104.out 2).trans rfl, (blk_cell BK106.out 0).trans rfl, (blk_cell BK106.out 1).trans rfl, (blk_cell BK106.out 2).trans rfl, (blk_cell BK106.out 3).trans rfl, (blk_cell BK106.out 4).trans rfl, (blk_cell BK106.out 5).trans rfl, (blk_cell BK106.out 6).trans rfl, (blk_cell BK106.out 7).trans rfl, (blk_cell BK106.out 8).trans rfl, (blk_cell BK106.out 9).trans rfl, (blk_cell BK106.out 10).trans rfl, (blk_cell BK106.out 11).trans rfl, (blk_cell BK106.out 12).trans rfl, (blk_cell BK106.out 13).trans rfl⟩ (fun hHeld => ?_)
                   clear hK K
                   refine norm_ (a' := ?_) ?_ ?_
                   rotate_left
                   ·show Act.put _ (some 46) _ = _
                    simp only [Act.put, sA, sZ, sS, i64_w, i32_w]
                    rfl
                   refine pure_ (i := 10) (N := some 47) (v := ?_) (a' := ?_) (bl 13 4095) rfl rfl (any_of HT_.out (by kernel_rfl)) (fun _ _ _ h => h) (Or.inl ⟨by rfl, ?_⟩) ?_ ?_
                   rotate_left
                   ·intro w'
                    go_simp
                    with_reducible rfl
                   rotate_left
                   ·simp only [Act.put, sA, sZ, sS, i64_w, i32_w]
                    rfl
                   exact norm_ (by simp only [putAll, Act.put, List.setIfInBounds_toArray, List.set_cons_zero, List.set_cons_succ]) (hCont (gb109) _ ⟨hHeld, (by (with_reducible repeat (first | apply Ra | apply Rn | apply Rd)); exact HO_6.out), (by (with_reducible repeat (first | apply Ra | apply Rn | apply Rd)); exact HO_7.out), (by (with_reducible repeat (first | refine bN ?_ _ | refine bD ?_ | refine bA ?_ _)); exact BK101.out), (by (with_reducible repeat (first | refine bN ?_ _ | refine bD ?_ | refine bA ?_ _)); exact BK102.out), (by (with_reducible repeat (first | refine bN ?_ _ | refine bD ?_ | refine bA ?_ _)); exact BK104.out), (by (with_reducible repeat (first | refine bN ?_ _ | refine bD ?_ | refine bA ?_ _)); exact BK106.out), (by (with_reducible repeat (first | refine bN ?_ _ | refine bD ?_ | refine bA ?_ _)); exact BK109.out), GW109.out, GE109.out, NB101_109.out, NB109_101.out, NB102_109.out, NB109_102.out, NB104_109.out, NB109_104.out, NB106_109.out, NB109_106.out, (by repeat (first | (with_reducible first | exact HB.out | apply lA | apply lN | apply lD | refine lS ?_ GE101.out | refine lS ?_ GE102.out | refine lS ?_ GE104.out | refine lS ?_ GE106.out | refine lS ?_ GE109.out) | exact HB.out))⟩)
                 ·skip
                  refine box_step ?hg (N := 13) ?hd (cs := #[.int .i64 0, .int .i64 0]) (t := 27) ?hr ?_; (case hd => rfl); (case hg => rfl); (case hr => first | (go_simp; done) | (go_simp; rfl))
                  intro gb109 hg w58 hbox hb
                  replace HO_6 := am (Kd.R_below (Kd.R_elderB (by (with_reducible repeat (first | apply Ra | apply Rn | apply Rd)); exact HO_6.out) gb109 (Nat.le_of_eq hg.symm)) hb)
                  replace HO_7 := am (Kd.R_below (Kd.R_elderB (by (with_reducible repeat (first | apply Ra | apply Rn | apply Rd)); exact HO_7.out) gb109 (Nat.le_of_eq hg.symm)) hb)
                  have BK109 := am (hbox)
                  have GW109 := am ((by rw [hg]; exact (below_size (by repeat (first | (with_reducible first | exact HB.out | apply lA | apply lN | apply lD | refine lS ?_ GE101.out | refine lS ?_ GE102.out | refine lS ?_ GE104.out | refine lS ?_ GE106.out) | exact HB.out))) : w.heap.size ≤ gb109))
                  have GE109 := am ((by rw [hg]; exact (below_size (by repeat (first | (with_reducible first | exact HB.out | apply lA | apply lN | apply lD | refine lS ?_ GE101.out | refine lS ?_ GE102.out | refine lS ?_ GE104.out | refine lS ?_ GE106.out) | exact HB.out))) : w.heap.size ≤ gb109))
                  replace HB := am (below_step (by repeat (first | (with_reducible first | exact HB.out | apply lA | apply lN | apply lD | refine lS ?_ GE101.out | refine lS ?_ GE102.out | refine lS ?_ GE104.out | refine lS ?_ GE106.out) | exact HB.out)) hb)
                  have NB101_109 := am ((by rw [hg]; exact Nat.ne_of_lt (blk_lt (g := gb101) (o := .cells #[.slice A0_0 l0_0.length c0_0, .slice (some ad103) l0_1.length c0_1] 50 (0, 0)) (by (with_reducible repeat (first | refine bN ?_ _ | refine bD ?_ | refine bA ?_ _)); exact BK101.out)) : gb101 ≠ gb109))
                  have NB109_101 := am ((by rw [hg]; exact Nat.ne_of_gt (blk_lt (g := gb101) (o := .cells #[.slice A0_0 l0_0.length c0_0, .slice (some ad103) l0_1.length c0_1] 50 (0, 0)) (by (with_reducible repeat (first | refine bN ?_ _ | refine bD ?_ | refine bA ?_ _)); exact BK101.out)) : gb109 ≠ gb101))
                  replace BK101 := am (blk_below (g := gb101) (o := .cells #[.slice A0_0 l0_0.length c0_0, .slice (some ad103) l0_1.length c0_1] 50 (0, 0)) (by (with_reducible repeat (first | refine bN ?_ _ | refine bD ?_ | refine bA ?_ _)); exact BK101.out) hb)
                  have NB102_109 := am ((by rw [hg]; exact Nat.ne_of_lt (blk_lt (g := gb102) (o := .cells #[.slice A1 l1.length c1] 52 (0, 0)) (by (with_reducible repeat (first | refine bN ?_ _ | refine bD ?_ | refine bA ?_ _)); exact BK102.out)) : gb102 ≠ gb109))
                  have NB109_102 := am ((by rw [hg]; exact Nat.ne_of_gt (blk_lt (g := gb102) (o := .cells #[.slice A1 l1.length c1] 52 (0, 0)) (by (with_reducible repeat (first | refine bN ?_ _ | refine bD ?_ | refine bA ?_ _)); exact BK102.out)) : gb109 ≠ gb102))
                  replace BK102 := am (blk_below (g := gb102) (o := .cells #[.slice A1 l1.length c1] 52 (0, 0)) (by (with_reducible repeat (first | refine bN ?_ _ | refine bD ?_ | refine bA ?_ _)); exact BK102.out) hb)
                  have NB104_109 := am ((by rw [hg]; exact Nat.ne_of_lt (blk_lt (g := gb104) (o := .cells #[.string ((rd_T64 l0_1 x18_1).head.pred), .slice A103_1 ((rd_T64 l0_1 x18_1).head.args).length c103_1, .slice (some ad105) ((rd_T64 l0_1 x18_1).body).length c103_2] 64 (0, 0)) (by (with_reducible repeat (first | refine bN ?_ _ | refine bD ?_ | refine bA ?_ _)); exact BK104.out)) : gb104 ≠ gb109))
                  have NB109_104 := am ((by rw [hg]; exact Nat.ne_of_gt (blk_lt (g := gb104) (o := .cells #[.string ((rd_T64 l0_1 x18_1).head.pred), .slice A103_1 ((rd_T64 l0_1 x18_1).head.args).length c103_1, .slice (some ad105) ((rd_T64 l0_1 x18_1).body).length c103_2] 64 (0, 0)) (by (with_reducible repeat (first | refine bN ?_ _ | refine bD ?_ | refine bA ?_ _)); exact BK104.out)) : gb109 ≠ gb104))
                  replace BK104 := am (blk_below (g := gb104) (o := .cells #[.string ((rd_T64 l0_1 x18_1).head.pred), .slice A103_1 ((rd_T64 l0_1 x18_1).head.args).length c103_1, .slice (some ad105) ((rd_T64 l0_1 x18_1).body).length c103_2] 64 (0, 0)) (by (with_reducible repeat (first | refine bN ?_ _ | refine bD ?_ | refine bA ?_ _)); exact BK104.out) hb)
                  have NB106_109 := am ((by rw [hg]; exact Nat.ne_of_lt (blk_lt (g := gb106) (o := .cells #[.int .i64 ((rd_T71 ((rd_T64 l0_1 x18_1).body) x25_2).kind), .string ((rd_T71 ((rd_T64 l0_1 x18_1).body) x25_2).atom.pred), .slice A105_2 ((rd_T71 ((rd_T64 l0_1 x18_1).body) x25_2).atom.args).length c105_2, .string ((rd_T71 ((rd_T64 l0_1 x18_1).body) x25_2).op), .bool ((rd_T71 ((rd_T64 l0_1 x18_1).body) x25_2).l.isVar), .string ((rd_T71 ((rd_T64 l0_1 x18_1).body) x25_2).l.name), .bool ((rd_T71 ((rd_T64 l0_1 x18_1).body) x25_2).l.val.isSym), .string ((rd_T71 ((rd_T64 l0_1 x18_1).body) x25_2).l.val.sym), .int .i64 ((rd_T71 ((rd_T64 l0_1 x18_1).body) x25_2).l.val.n), .bool ((rd_T71 ((rd_T64 l0_1 x18_1).body) x25_2).r.isVar), .string ((rd_T71 ((rd_T64 l0_1 x18_1).body) x25_2).r.name), .bool ((rd_T71 ((rd_T64 l0_1 x18_1).body) x25_2).r.val.isSym), .string ((rd_T71 ((rd_T64 l0_1 x18_1).body) x25_2).r.val.sym), .int .i64 ((rd_T71 ((rd_T64 l0_1 x18_1).body) x25_2).r.val.n)] 71 (0, 0)) (by (with_reducible repeat (first | refine bN ?_ _ | refine bD ?_ | refine bA ?_ _)); exact BK106.out)) : gb106 ≠ gb109))
                  have NB109_106 := am ((by rw [hg]; exact Nat.ne_of_gt (blk_lt (g := gb106) (o := .cells #[.int .i64 ((rd_T71 ((rd_T64 l0_1 x18_1).body) x25_2).kind), .string ((rd_T71 ((rd_T64 l0_1 x18_1).body) x25_2).atom.pred), .slice A105_2 ((rd_T71 ((rd_T64 l0_1 x18_1).body) x25_2).atom.args).length c105_2, .string ((rd_T71 ((rd_T64 l0_1 x18_1).body) x25_2).op), .bool ((rd_T71 ((rd_T64 l0_1 x18_1).body) x25_2).l.isVar), .string ((rd_T71 ((rd_T64 l0_1 x18_1).body) x25_2).l.name), .bool ((rd_T71 ((rd_T64 l0_1 x18_1).body) x25_2).l.val.isSym), .string ((rd_T71 ((rd_T64 l0_1 x18_1).body) x25_2).l.val.sym), .int .i64 ((rd_T71 ((rd_T64 l0_1 x18_1).body) x25_2).l.val.n), .bool ((rd_T71 ((rd_T64 l0_1 x18_1).body) x25_2).r.isVar), .string ((rd_T71 ((rd_T64 l0_1 x18_1).body) x25_2).r.name), .bool ((rd_T71 ((rd_T64 l0_1 x18_1).body) x25_2).r.val.isSym), .string ((rd_T71 ((rd_T64 l0_1 x18_1).body) x25_2).r.val.sym), .int .i64 ((rd_T71 ((rd_T64 l0_1 x18_1).body) x25_2).r.val.n)] 71 (0, 0)) (by (with_reducible repeat (first | refine bN ?_ _ | refine bD ?_ | refine bA ?_ _)); exact BK106.out)) : gb109 ≠ gb106))
                  replace BK106 := am (blk_below (g := gb106) (o := .cells #[.int .i64 ((rd_T71 ((rd_T64 l0_1 x18_1).body) x25_2).kind), .string ((rd_T71 ((rd_T64 l0_1 x18_1).body) x25_2).atom.pred), .slice A105_2 ((rd_T71 ((rd_T64 l0_1 x18_1).body) x25_2).atom.args).length c105_2, .string ((rd_T71 ((rd_T64 l0_1 x18_1).body) x25_2).op), .bool ((rd_T71 ((rd_T64 l0_1 x18_1).body) x25_2).l.isVar), .string ((rd_T71 ((rd_T64 l0_1 x18_1).body) x25_2).l.name), .bool ((rd_T71 ((rd_T64 l0_1 x18_1).body) x25_2).l.val.isSym), .string ((rd_T71 ((rd_T64 l0_1 x18_1).body) x25_2).l.val.sym), .int .i64 ((rd_T71 ((rd_T64 l0_1 x18_1).body) x25_2).l.val.n), .bool ((rd_T71 ((rd_T64 l0_1 x18_1).body) x25_2).r.isVar), .string ((rd_T71 ((rd_T64 l0_1 x18_1).body) x25_2).r.name), .bool ((rd_T71 ((rd_T64 l0_1 x18_1).body) x25_2).r.val.isSym), .string ((rd_T71 ((rd_T64 l0_1 x18_1).body) x25_2).r.val.sym), .int .i64 ((rd_T71 ((rd_T64 l0_1 x18_1).body) x25_2).r.val.n)] 71 (0, 0)) (by (with_reducible repeat (first | refine bN ?_ _ | refine bD ?_ | refine bA ?_ _)); exact BK106.out) hb)
                  clear hb hbox hg
                  refine hK.out _ _ ⟨(blk_cell BK104.out 0).trans rfl, (blk_cell BK104.out 1).trans rfl, (blk_cell BK104.out 2).trans rfl, (blk_cell BK106.out 0).trans rfl, (blk_cell BK106.out 1).trans rfl, (blk_cell BK106.out 2).trans rfl, (blk_cell BK106.out 3).trans rfl, (blk_cell BK106.out 4).trans rfl, (blk_cell BK106.out 5).trans rfl, (blk_cell BK106.out 6).trans rfl, (blk_cell BK106.out 7).trans rfl, (blk_cell BK106.out 8).trans rfl, (blk_cell BK106.out 9).trans rfl, (blk_cell BK106.out 10).trans rfl, (blk_cell BK106.out 11).trans rfl, (blk_cell BK106.out 12).trans rfl, (blk_cell BK106.out 13).trans rfl⟩ (fun hHeld => ?_)
                  clear hK K
                  refine norm_ (a' := ?_) ?_ ?_
                  rotate_left
                  ·show Act.put _ (some 13) _ = _
                   simp only [Act.put, sA, sZ, sS, i64_w, i32_w]
                   rfl
                  refine one_ (i := 4) (N := some 41) (bl 13 2559) rfl rfl (one_of HT_.out (by kernel_rfl)) (by decide) (fun K hK => ?_)
                  refine goesT_ (caps := #[.pointer (some ⟨gb102, 0, none⟩)]) Try.func63 (by kernel_rfl) rfl #[.string ((rd_T64 l0_1 x18_1).head.pred), .pointer (some ⟨gb102, 0, none⟩)] (by rfl) rfl rfl (by first | rfl | (go_simp; done)) (by (try simp only [List.map_toArray, List.map_cons, List.map_nil]); first | done | rfl | (simp only [List.length_drop, List.length_take]; rfl)) ?_
                  refine (EdgesAt.calls ((rd_T64 l0_1 x18_1).head.pred) A1 c1 l1 t107 _ ?side1 ?side2 ?side3 A33.out).mono ?_
                  (case side1 => repeat (first | exact (Kd.C_below HR1.out HB.out) | (with_reducible refine Kd.C_alloc ?_ _) | (with_reducible refine Kd.C_drewN ?_ _) | (with_reducible refine Kd.C_drew ?_)))
                  (case side2 => exact HC1.out)
                  (case side3 => (with_reducible repeat (first | refine bN ?_ _ | refine bD ?_ | refine bA ?_ _)); exact BK102.out)
                  rintro e w59 ⟨rfl, hb⟩
                  refine ⟨_, rfl, ?_⟩
                  replace HO_6 := am (Kd.R_below (by (with_reducible repeat (first | apply Ra | apply Rn | apply Rd)); exact HO_6.out) hb)
                  replace HO_7 := am (Kd.R_below (by (with_reducible repeat (first | apply Ra | apply Rn | apply Rd)); exact HO_7.out) hb)
                  replace BK101 := am (blk_below (g := gb101) (o := .cells #[.slice A0_0 l0_0.length c0_0, .slice (some ad103) l0_1.length c0_1] 50 (0, 0)) (by (with_reducible repeat (first | refine bN ?_ _ | refine bD ?_ | refine bA ?_ _)); exact BK101.out) hb)
                  replace BK102 := am (blk_below (g := gb102) (o := .cells #[.slice A1 l1.length c1] 52 (0, 0)) (by (with_reducible repeat (first | refine bN ?_ _ | refine bD ?_ | refine bA ?_ _)); exact BK102.out) hb)
                  replace BK104 := am (blk_below (g := gb104) (o := .cells #[.string ((rd_T64 l0_1 x18_1).head.pred), .slice A103_1 ((rd_T64 l0_1 x18_1).head.args).length c103_1, .slice (some ad105) ((rd_T64 l0_1 x18_1).body).length c103_2] 64 (0, 0)) (by (with_reducible repeat (first | refine bN ?_ _ | refine bD ?_ | refine bA ?_ _)); exact BK104.out) hb)
                  replace BK106 := am (blk_below (g := gb106) (o := .cells #[.int .i64 ((rd_T71 ((rd_T64 l0_1 x18_1).body) x25_2).kind), .string ((rd_T71 ((rd_T64 l0_1 x18_1).body) x25_2).atom.pred), .slice A105_2 ((rd_T71 ((rd_T64 l0_1 x18_1).body) x25_2).atom.args).length c105_2, .string ((rd_T71 ((rd_T64 l0_1 x18_1).body) x25_2).op), .bool ((rd_T71 ((rd_T64 l0_1 x18_1).body) x25_2).l.isVar), .string ((rd_T71 ((rd_T64 l0_1 x18_1).body) x25_2).l.name), .bool ((rd_T71 ((rd_T64 l0_1 x18_1).body) x25_2).l.val.isSym), .string ((rd_T71 ((rd_T64 l0_1 x18_1).body) x25_2).l.val.sym), .int .i64 ((rd_T71 ((rd_T64 l0_1 x18_1).body) x25_2).l.val.n), .bool ((rd_T71 ((rd_T64 l0_1 x18_1).body) x25_2).r.isVar), .string ((rd_T71 ((rd_T64 l0_1 x18_1).body) x25_2).r.name), .bool ((rd_T71 ((rd_T64 l0_1 x18_1).body) x25_2).r.val.isSym), .string ((rd_T71 ((rd_T64 l0_1 x18_1).body) x25_2).r.val.sym), .int .i64 ((rd_T71 ((rd_T64 l0_1 x18_1).body) x25_2).r.val.n)] 71 (0, 0)) (by (with_reducible repeat (first | refine bN ?_ _ | refine bD ?_ | refine bA ?_ _)); exact BK106.out) hb)
                  replace BK109 := am (blk_below (g := gb109) (o := .cells #[.int .i64 0, .int .i64 0] 27 (0, 0)) (by (with_reducible repeat (first | refine bN ?_ _ | refine bD ?_ | refine bA ?_ _)); exact BK109.out) hb)
                  replace HB := am (below_step (by repeat (first | (with_reducible first | exact HB.out | apply lA | apply lN | apply lD | refine lS ?_ GE101.out | refine lS ?_ GE102.out | refine lS ?_ GE104.out | refine lS ?_ GE106.out | refine lS ?_ GE109.out) | exact HB.out)) hb)
                  (try clear hb)
                  (try clear hb2)
                  (try clear hk)
                  (try clear hi)
                  refine hK.out _ _ ⟨(blk_cell BK104.out 0).trans rfl, (blk_cell BK104.out 1).trans rfl, (blk_cell BK104.out 2).trans rfl, (blk_cell BK106.out 0).trans rfl, (blk_cell BK106.out 1).trans rfl, (blk_cell BK106.out 2).trans rfl, (blk_cell BK106.out 3).trans rfl, (blk_cell BK106.out 4).trans rfl, (blk_cell BK106.out 5).trans rfl, (blk_cell BK106.out 6).trans rfl, (blk_cell BK106.out 7).trans rfl, (blk_cell BK106.out 8).trans rfl, (blk_cell BK106.out 9).trans rfl, (blk_cell BK106.out 10).trans rfl, (blk_cell BK106.out 11).trans rfl, (blk_cell BK106.out 12).trans rfl, (blk_cell BK106.out 13).trans rfl⟩ (fun hHeld => ?_)
                  clear hK K
                  refine norm_ (a' := ?_) ?_ ?_
                  rotate_left
                  ·show Act.put _ (some 41) _ = _
                   simp only [Act.put, sA, sZ, sS, i64_w, i32_w]
                   rfl
                  refine one_ (i := 9) (N := some 46) (bl 13 3071) rfl rfl (one_of HT_.out (by kernel_rfl)) (by decide) (fun K hK => ?_)
                  refine goesT_ (caps := #[.pointer (some ⟨gb102, 0, none⟩)]) Try.func63 (by kernel_rfl) rfl #[.string ((rd_T71 ((rd_T64 l0_1 x18_1).body) x25_2).atom.pred), .pointer (some ⟨gb102, 0, none⟩)] (by rfl) rfl rfl (by first | rfl | (go_simp; done)) (by (try simp only [List.map_toArray, List.map_cons, List.map_nil]); first | done | rfl | (simp only [List.length_drop, List.length_take]; rfl)) ?_
                  refine (EdgesAt.calls ((rd_T71 ((rd_T64 l0_1 x18_1).body) x25_2).atom.pred) A1 c1 l1 t108 _ ?side1 ?side2 ?side3 A34.out).mono ?_
                  (case side1 => repeat (first | exact (Kd.C_below HR1.out HB.out) | (with_reducible refine Kd.C_alloc ?_ _) | (with_reducible refine Kd.C_drewN ?_ _) | (with_reducible refine Kd.C_drew ?_)))
                  (case side2 => exact HC1.out)
                  (case side3 => (with_reducible repeat (first | refine bN ?_ _ | refine bD ?_ | refine bA ?_ _)); exact BK102.out)
                  rintro e w60 ⟨rfl, hb⟩
                  refine ⟨_, rfl, ?_⟩
                  replace HO_6 := am (Kd.R_below (by (with_reducible repeat (first | apply Ra | apply Rn | apply Rd)); exact HO_6.out) hb)
                  replace HO_7 := am (Kd.R_below (by (with_reducible repeat (first | apply Ra | apply Rn | apply Rd)); exact HO_7.out) hb)
                  replace BK101 := am (blk_below (g := gb101) (o := .cells #[.slice A0_0 l0_0.length c0_0, .slice (some ad103) l0_1.length c0_1] 50 (0, 0)) (by (with_reducible repeat (first | refine bN ?_ _ | refine bD ?_ | refine bA ?_ _)); exact BK101.out) hb)
                  replace BK102 := am (blk_below (g := gb102) (o := .cells #[.slice A1 l1.length c1] 52 (0, 0)) (by (with_reducible repeat (first | refine bN ?_ _ | refine bD ?_ | refine bA ?_ _)); exact BK102.out) hb)
                  replace BK104 := am (blk_below (g := gb104) (o := .cells #[.string ((rd_T64 l0_1 x18_1).head.pred), .slice A103_1 ((rd_T64 l0_1 x18_1).head.args).length c103_1, .slice (some ad105) ((rd_T64 l0_1 x18_1).body).length c103_2] 64 (0, 0)) (by (with_reducible repeat (first | refine bN ?_ _ | refine bD ?_ | refine bA ?_ _)); exact BK104.out) hb)
                  replace BK106 := am (blk_below (g := gb106) (o := .cells #[.int .i64 ((rd_T71 ((rd_T64 l0_1 x18_1).body) x25_2).kind), .string ((rd_T71 ((rd_T64 l0_1 x18_1).body) x25_2).atom.pred), .slice A105_2 ((rd_T71 ((rd_T64 l0_1 x18_1).body) x25_2).atom.args).length c105_2, .string ((rd_T71 ((rd_T64 l0_1 x18_1).body) x25_2).op), .bool ((rd_T71 ((rd_T64 l0_1 x18_1).body) x25_2).l.isVar), .string ((rd_T71 ((rd_T64 l0_1 x18_1).body) x25_2).l.name), .bool ((rd_T71 ((rd_T64 l0_1 x18_1).body) x25_2).l.val.isSym), .string ((rd_T71 ((rd_T64 l0_1 x18_1).body) x25_2).l.val.sym), .int .i64 ((rd_T71 ((rd_T64 l0_1 x18_1).body) x25_2).l.val.n), .bool ((rd_T71 ((rd_T64 l0_1 x18_1).body) x25_2).r.isVar), .string ((rd_T71 ((rd_T64 l0_1 x18_1).body) x25_2).r.name), .bool ((rd_T71 ((rd_T64 l0_1 x18_1).body) x25_2).r.val.isSym), .string ((rd_T71 ((rd_T64 l0_1 x18_1).body) x25_2).r.val.sym), .int .i64 ((rd_T71 ((rd_T64 l0_1 x18_1).body) x25_2).r.val.n)] 71 (0, 0)) (by (with_reducible repeat (first | refine bN ?_ _ | refine bD ?_ | refine bA ?_ _)); exact BK106.out) hb)
                  replace BK109 := am (blk_below (g := gb109) (o := .cells #[.int .i64 0, .int .i64 0] 27 (0, 0)) (by (with_reducible repeat (first | refine bN ?_ _ | refine bD ?_ | refine bA ?_ _)); exact BK109.out) hb)
                  replace HB := am (below_step (by repeat (first | (with_reducible first | exact HB.out | apply lA | apply lN | apply lD | refine lS ?_ GE101.out | refine lS ?_ GE102.out | refine lS ?_ GE104.out | refine lS ?_ GE106.out | refine lS ?_ GE109.out) | exact HB.out)) hb)
                  (try clear hb)
                  (try clear hb2)
                  (try clear hk)
                  (try clear hi)
                  refine hK.out _ _ ⟨(blk_cell BK104.out 0).trans rfl, (blk_cell BK104.out 1).trans rfl, (blk_cell BK104.out 2).trans rfl, (blk_cell BK106.out 0).trans rfl, (blk_cell BK106.out 1).trans rfl, (blk_cell BK106.out 2).trans rfl, (blk_cell BK106.out 3).trans rfl, (blk_cell BK106.out 4).trans rfl, (blk_cell BK106.out 5).trans rfl, (blk_cell BK106.out 6).trans rfl, (blk_cell BK106.out 7).trans rfl, (blk_cell BK106.out 8).trans rfl, (blk_cell BK106.out 9).trans rfl, (blk_cell BK106.out 10).trans rfl, (blk_cell BK106.out 11).trans rfl, (blk_cell BK106.out 12).trans rfl, (blk_cell BK106.out 13).trans rfl⟩ (fun hHeld => ?_)
                  clear hK K
                  refine norm_ (a' := ?_) ?_ ?_
                  rotate_left
                  ·show Act.put _ (some 46) _ = _
                   simp only [Act.put, sA, sZ, sS, i64_w, i32_w]
                   rfl
                  refine pure_ (i := 10) (N := some 47) (v := ?_) (a' := ?_) (bl 13 4095) rfl rfl (any_of HT_.out (by kernel_rfl)) (fun _ _ _ h => h) (Or.inl ⟨by rfl, ?_⟩) ?_ ?_
                  rotate_left
                  ·intro w'
                   go_simp
                   with_reducible rfl
                  rotate_left
                  ·simp only [Act.put, sA, sZ, sS, i64_w, i32_w]
                   rfl
                  exact norm_ (by simp only [putAll, Act.put, List.setIfInBounds_toArray, List.set_cons_zero, List.set_cons_succ]) (hCont (gb109) _ ⟨hHeld, (by (with_reducible repeat (first | apply Ra | apply Rn | apply Rd)); exact HO_6.out), (by (with_reducible repeat (first | apply Ra | apply Rn | apply Rd)); exact HO_7.out), (by (with_reducible repeat (first | refine bN ?_ _ | refine bD ?_ | refine bA ?_ _)); exact BK101.out), (by (with_reducible repeat (first | refine bN ?_ _ | refine bD ?_ | refine bA ?_ _)); exact BK102.out), (by (with_reducible repeat (first | refine bN ?_ _ | refine bD ?_ | refine bA ?_ _)); exact BK104.out), (by (with_reducible repeat (first | refine bN ?_ _ | refine bD ?_ | refine bA ?_ _)); exact BK106.out), (by (with_reducible repeat (first | refine bN ?_ _ | refine bD ?_ | refine bA ?_ _)); exact BK109.out), GW109.out, GE109.out, NB101_109.out, NB109_101.out, NB102_109.out, NB109_102.out, NB104_109.out, NB109_104.out, NB106_109.out, NB109_106.out, (by repeat (first | (with_reducible first | exact HB.out | apply lA | apply lN | apply lD | refine lS ?_ GE101.out | refine lS ?_ GE102.out | refine lS ?_ GE104.out | refine lS ?_ GE106.out | refine lS ?_ GE109.out) | exact HB.out))⟩)
                rintro gb109 w61 ⟨hS_, h0_, h1_, h2_, h3_, h4_, h5_, h6_, h7_, h8_, h9_, h10_, h11_, h12_, h13_, h14_, h15_, h16_, h17_⟩
                replace HO_6 : Aside0 (Kd.R k27 27 w61 w.heap.size (fun k_ => some k_ ≠ (u7 : Value).ownBlock ∧ k_ ≠ gb109) u6 x6_2) := ⟨h0_⟩
                replace HO_7 : Aside0 (Kd.R k27 27 w61 w.heap.size (fun k_ => some k_ ≠ (u6 : Value).ownBlock ∧ k_ ≠ gb109) u7 x7_2) := ⟨h1_⟩
                replace BK101 : Aside0 (w61.heap[gb101]? = some (.cells #[.slice A0_0 l0_0.length c0_0, .slice (some ad103) l0_1.length c0_1] 50 (0, 0))) := ⟨h2_⟩
                replace BK102 : Aside0 (w61.heap[gb102]? = some (.cells #[.slice A1 l1.length c1] 52 (0, 0))) := ⟨h3_⟩
                replace BK104 : Aside0 (w61.heap[gb104]? = some (.cells #[.string ((rd_T64 l0_1 x18_1).head.pred), .slice A103_1 ((rd_T64 l0_1 x18_1).head.args).length c103_1, .slice (some ad105) ((rd_T64 l0_1 x18_1).body).length c103_2] 64 (0, 0))) := ⟨h4_⟩
                replace BK106 : Aside0 (w61.heap[gb106]? = some (.cells #[.int .i64 ((rd_T71 ((rd_T64 l0_1 x18_1).body) x25_2).kind), .string ((rd_T71 ((rd_T64 l0_1 x18_1).body) x25_2).atom.pred), .slice A105_2 ((rd_T71 ((rd_T64 l0_1 x18_1).body) x25_2).atom.args).length c105_2, .string ((rd_T71 ((rd_T64 l0_1 x18_1).body) x25_2).op), .bool ((rd_T71 ((rd_T64 l0_1 x18_1).body) x25_2).l.isVar), .string ((rd_T71 ((rd_T64 l0_1 x18_1).body) x25_2).l.name), .bool ((rd_T71 ((rd_T64 l0_1 x18_1).body) x25_2).l.val.isSym), .string ((rd_T71 ((rd_T64 l0_1 x18_1).body) x25_2).l.val.sym), .int .i64 ((rd_T71 ((rd_T64 l0_1 x18_1).body) x25_2).l.val.n), .bool ((rd_T71 ((rd_T64 l0_1 x18_1).body) x25_2).r.isVar), .string ((rd_T71 ((rd_T64 l0_1 x18_1).body) x25_2).r.name), .bool ((rd_T71 ((rd_T64 l0_1 x18_1).body) x25_2).r.val.isSym), .string ((rd_T71 ((rd_T64 l0_1 x18_1).body) x25_2).r.val.sym), .int .i64 ((rd_T71 ((rd_T64 l0_1 x18_1).body) x25_2).r.val.n)] 71 (0, 0))) := ⟨h5_⟩
                have BK109 : Aside0 (w61.heap[gb109]? = some (.cells #[.int .i64 0, .int .i64 0] 27 (0, 0))) := ⟨h6_⟩
                have GW109 : Aside0 (w.heap.size ≤ gb109) := ⟨h7_⟩
                have GE109 : Aside0 (w.heap.size ≤ gb109) := ⟨h8_⟩
                have NB101_109 : Aside0 (gb101 ≠ gb109) := ⟨h9_⟩
                have NB109_101 : Aside0 (gb109 ≠ gb101) := ⟨h10_⟩
                have NB102_109 : Aside0 (gb102 ≠ gb109) := ⟨h11_⟩
                have NB109_102 : Aside0 (gb109 ≠ gb102) := ⟨h12_⟩
                have NB104_109 : Aside0 (gb104 ≠ gb109) := ⟨h13_⟩
                have NB109_104 : Aside0 (gb109 ≠ gb104) := ⟨h14_⟩
                have NB106_109 : Aside0 (gb106 ≠ gb109) := ⟨h15_⟩
                have NB109_106 : Aside0 (gb109 ≠ gb106) := ⟨h16_⟩
                replace HB : Aside0 (Below w.heap.size w w61) := ⟨h17_⟩
                clear h0_ h1_ h2_ h3_ h4_ h5_ h6_ h7_ h8_ h9_ h10_ h11_ h12_ h13_ h14_ h15_ h16_ h17_
                have hHeld : w61.cell? ⟨gb104, 0, none⟩ = some (.string ((rd_T64 l0_1 x18_1).head.pred)) ∧ w61.cell? ⟨gb104, 1, none⟩ = some (.slice A103_1 ((rd_T64 l0_1 x18_1).head.args).length c103_1) ∧ w61.cell? ⟨gb104, 2, none⟩ = some (.slice (some ad105) ((rd_T64 l0_1 x18_1).body).length c103_2) ∧ w61.cell? ⟨gb106, 0, none⟩ = some (.int .i64 ((rd_T71 ((rd_T64 l0_1 x18_1).body) x25_2).kind)) ∧ w61.cell? ⟨gb106, 1, none⟩ = some (.string ((rd_T71 ((rd_T64 l0_1 x18_1).body) x25_2).atom.pred)) ∧ w61.cell? ⟨gb106, 2, none⟩ = some (.slice A105_2 ((rd_T71 ((rd_T64 l0_1 x18_1).body) x25_2).atom.args).length c105_2) ∧ w61.cell? ⟨gb106, 3, none⟩ = some (.string ((rd_T71 ((rd_T64 l0_1 x18_1).body) x25_2).op)) ∧ w61.cell? ⟨gb106, 4, none⟩ = some (.bool ((rd_T71 ((rd_T64 l0_1 x18_1).body) x25_2).l.isVar)) ∧ w61.cell? ⟨gb106, 5, none⟩ = some (.string ((rd_T71 ((rd_T64 l0_1 x18_1).body) x25_2).l.name)) ∧ w61.cell? ⟨gb106, 6, none⟩ = some (.bool ((rd_T71 ((rd_T64 l0_1 x18_1).body) x25_2).l.val.isSym)) ∧ w61.cell? ⟨gb106, 7, none⟩ = some (.string ((rd_T71 ((rd_T64 l0_1 x18_1).body) x25_2).l.val.sym)) ∧ w61.cell? ⟨gb106, 8, none⟩ = some (.int .i64 ((rd_T71 ((rd_T64 l0_1 x18_1).body) x25_2).l.val.n)) ∧ w61.cell? ⟨gb106, 9, none⟩ = some (.bool ((rd_T71 ((rd_T64 l0_1 x18_1).body) x25_2).r.isVar)) ∧ w61.cell? ⟨gb106, 10, none⟩ = some (.string ((rd_T71 ((rd_T64 l0_1 x18_1).body) x25_2).r.name)) ∧ w61.cell? ⟨gb106, 11, none⟩ = some (.bool ((rd_T71 ((rd_T64 l0_1 x18_1).body) x25_2).r.val.isSym)) ∧ w61.cell? ⟨gb106, 12, none⟩ = some (.string ((rd_T71 ((rd_T64 l0_1 x18_1).body) x25_2).r.val.sym)) ∧ w61.cell? ⟨gb106, 13, none⟩ = some (.int .i64 ((rd_T71 ((rd_T64 l0_1 x18_1).body) x25_2).r.val.n)) := hS_
                refine norm_ (a' := ?_) ?_ ?_
                rotate_left
                ·simp only [putAll, Act.put, List.setIfInBounds_toArray, List.set_cons_zero, List.set_cons_succ]
                 rfl
                refine one_ (i := 12) (N := none) (bl 13 8191) rfl rfl (one_of HT_.out (by kernel_rfl)) (by decide) (fun K hK => ?_)
                have hs62 : w61.cell? ⟨gb109, 0, none⟩ = some (.int .i64 0) := (blk_cell BK109.out 0).trans rfl
                have hfs62 := blk_frozen BK109.out 0
                have hns62_0 := NB101_109.out
                have hns62_1 := NB102_109.out
                have hns62_2 := NB104_109.out
                have hns62_3 := NB106_109.out
                have hms62_0 := NB109_101.out
                have hms62_1 := NB109_102.out
                have hms62_2 := NB109_104.out
                have hms62_3 := NB109_106.out
                have hs63 : w61.cell? ⟨gb109, 1, none⟩ = some (.int .i64 0) := (blk_cell BK109.out 1).trans rfl
                have hfs63 := blk_frozen BK109.out 1
                have hns63_0 := NB101_109.out
                have hns63_1 := NB102_109.out
                have hns63_2 := NB104_109.out
                have hns63_3 := NB106_109.out
                have hms63_0 := NB109_101.out
                have hms63_1 := NB109_102.out
                have hms63_2 := NB109_104.out
                have hms63_3 := NB109_106.out
                refine skip_ (w1 := ?_) (by rfl) rfl ?_ ?_
                rotate_left
                ·go_simp
                 rfl
                refine hK.out _ _ ⟨((cell_far (p := ⟨gb109, _, none⟩) NB104_109.out _).trans (((cell_far (p := ⟨gb109, _, none⟩) NB104_109.out _).trans (hHeld.1)))), ((cell_far (p := ⟨gb109, _, none⟩) NB104_109.out _).trans (((cell_far (p := ⟨gb109, _, none⟩) NB104_109.out _).trans (hHeld.2.1)))), ((cell_far (p := ⟨gb109, _, none⟩) NB104_109.out _).trans (((cell_far (p := ⟨gb109, _, none⟩) NB104_109.out _).trans (hHeld.2.2.1)))), ((cell_far (p := ⟨gb109, _, none⟩) NB106_109.out _).trans (((cell_far (p := ⟨gb109, _, none⟩) NB106_109.out _).trans (hHeld.2.2.2.1)))), ((cell_far (p := ⟨gb109, _, none⟩) NB106_109.out _).trans (((cell_far (p := ⟨gb109, _, none⟩) NB106_109.out _).trans (hHeld.2.2.2.2.1)))), ((cell_far (p := ⟨gb109, _, none⟩) NB106_109.out _).trans (((cell_far (p := ⟨gb109, _, none⟩) NB106_109.out _).trans (hHeld.2.2.2.2.2.1)))), ((cell_far (p := ⟨gb109, _, none⟩) NB106_109.out _).trans (((cell_far (p := ⟨gb109, _, none⟩) NB106_109.out _).trans (hHeld.2.2.2.2.2.2.1)))), ((cell_far (p := ⟨gb109, _, none⟩) NB106_109.out _).trans (((cell_far (p := ⟨gb109, _, none⟩) NB106_109.out _).trans (hHeld.2.2.2.2.2.2.2.1)))), ((cell_far (p := ⟨gb109, _, none⟩) NB106_109.out _).trans (((cell_far (p := ⟨gb109, _, none⟩) NB106_109.out _).trans (hHeld.2.2.2.2.2.2.2.2.1)))), ((cell_far (p := ⟨gb109, _, none⟩) NB106_109.out _).trans (((cell_far (p := ⟨gb109, _, none⟩) NB106_109.out _).trans (hHeld.2.2.2.2.2.2.2.2.2.1)))), ((cell_far (p := ⟨gb109, _, none⟩) NB106_109.out _).trans (((cell_far (p := ⟨gb109, _, none⟩) NB106_109.out _).trans (hHeld.2.2.2.2.2.2.2.2.2.2.1)))), ((cell_far (p := ⟨gb109, _, none⟩) NB106_109.out _).trans (((cell_far (p := ⟨gb109, _, none⟩) NB106_109.out _).trans (hHeld.2.2.2.2.2.2.2.2.2.2.2.1)))), ((cell_far (p := ⟨gb109, _, none⟩) NB106_109.out _).trans (((cell_far (p := ⟨gb109, _, none⟩) NB106_109.out _).trans (hHeld.2.2.2.2.2.2.2.2.2.2.2.2.1)))), ((cell_far (p := ⟨gb109, _, none⟩) NB106_109.out _).trans (((cell_far (p := ⟨gb109, _, none⟩) NB106_109.out _).trans (hHeld.2.2.2.2.2.2.2.2.2.2.2.2.2.1)))), ((cell_far (p := ⟨gb109, _, none⟩) NB106_109.out _).trans (((cell_far (p := ⟨gb109, _, none⟩) NB106_109.out _).trans (hHeld.2.2.2.2.2.2.2.2.2.2.2.2.2.2.1)))), ((cell_far (p := ⟨gb109, _, none⟩) NB106_109.out _).trans (((cell_far (p := ⟨gb109, _, none⟩) NB106_109.out _).trans (hHeld.2.2.2.2.2.2.2.2.2.2.2.2.2.2.2.1)))), ((cell_far (p := ⟨gb109, _, none⟩) NB106_109.out _).trans (((cell_far (p := ⟨gb109, _, none⟩) NB106_109.out _).trans (hHeld.2.2.2.2.2.2.2.2.2.2.2.2.2.2.2.2))))⟩ (fun hHeld => ?_)
                clear hK K
                refine done_ (done_of HT_.out (by kernel_rfl)) ?_
                have hnb64 := NB109_101.out
                have hnc64 := NB101_109.out
                have hnb65 := NB109_102.out
                have hnc65 := NB102_109.out
                have hnb66 := NB109_104.out
                have hnc66 := NB104_109.out
                have hnb67 := NB109_106.out
                have hnc67 := NB106_109.out
                have hcz68_0 : w61.cell? ⟨gb109, 0, none⟩ = some (.int .i64 0) := (blk_cell BK109.out 0).trans rfl
                have hcz68_1 : w61.cell? ⟨gb109, 1, none⟩ = some (.int .i64 0) := (blk_cell BK109.out 1).trans rfl
                have hfz68_0 := blk_frozen BK109.out 0
                have hfz68_1 := blk_frozen BK109.out 1
                try go_wp2_with (first | ((with_reducible refine gate_builtin (b := .append) (xs := #[.tmp 48, .tmp 50]) rfl ?_); at_builtin; refine Kd.R_append k27 (w0 := w) w.heap.size rfl (.tmp 48) (.tmp 50) 24 27 (.agg #[(.int .i64 0), (.int .i64 0)]) 16 rfl Try.underlying24 info27 rfl (by decide) (by omega) u6 x6_2 (⟨t107, t108⟩ : IPair) [.int .i64 t107, .int .i64 t108] (fun k_ => some k_ ≠ (u7 : Value).ownBlock ∧ k_ ≠ gb109) (fun _ => False) rfl (by first | (go_simp; done) | (go_simp; rfl)) ?aP (fun _ hk => hk.elim) ?aF ?aO ?aB ?aS ?aL ?_; (case aP => exact k27_mkM _ _ _ (⟨t107, t108⟩ : IPair)); (case aB => exact (by repeat (first | (with_reducible first | exact HB.out | apply lA | apply lN | apply lD | refine lS ?_ GE101.out | refine lS ?_ GE102.out | refine lS ?_ GE104.out | refine lS ?_ GE106.out | refine lS ?_ GE109.out) | exact HB.out))); (case aF => exact (fun k_ hk => ⟨Kd.fresh' (Kd.R_lt (by (with_reducible repeat (first | apply Ra | apply Rn | apply Rd)); exact (Kd.R_mono (Kd.R_far (p := ⟨gb109, 1, none⟩) (Kd.R_far (p := ⟨gb109, 0, none⟩) (Kd.R_mono HO_7.out (fun k_ hk => (⟨hk, hk.2⟩ : _ ∧ k_ ≠ gb109))) (fun _ hk => hk.2) _) (fun _ hk => hk.2) _) (fun _ h_ => h_.1)))) k_ hk, Kd.freshB (g := gb109) (o := .cells #[.int .i64 t107, .int .i64 t108] 27 (0, 0)) (by (with_reducible repeat (first | refine bN ?_ _ | refine bD ?_ | refine bA ?_ _)); refine blk_put (cs := #[.int .i64 t107, .int .i64 0]) ?_ 1 _ rfl; (with_reducible repeat (first | refine bN ?_ _ | refine bD ?_ | refine bA ?_ _)); refine blk_put (cs := #[.int .i64 0, .int .i64 0]) ?_ 0 _ rfl; (with_reducible repeat (first | refine bN ?_ _ | refine bD ?_ | refine bA ?_ _)); exact BK109.out) k_ hk⟩)); (case aO => exact (by (with_reducible repeat (first | apply Ra | apply Rn | apply Rd)); exact Kd.R_mono (Kd.R_far (p := ⟨gb109, 1, none⟩) (Kd.R_far (p := ⟨gb109, 0, none⟩) (Kd.R_mono HO_6.out (fun k_ hk => (⟨hk, hk.2⟩ : _ ∧ k_ ≠ gb109))) (fun _ hk => hk.2) _) (fun _ hk => hk.2) _) (fun _ hk => ⟨hk.1.1, hk.1.2⟩))); (case aS => exact (below_size (by repeat (first | (with_reducible first | exact HB.out | apply lA | apply lN | apply lD | refine lS ?_ GE101.out | refine lS ?_ GE102.out | refine lS ?_ GE104.out | refine lS ?_ GE106.out | refine lS ?_ GE109.out) | exact HB.out)))); (case aL => have := LMc35.out; omega); intro v111 w69 ho hb hg hat; rw [← Ny110.out] at ho; replace HO_7 := am (Kd.R_after (ok := (fun k_ => k_ ≠ gb109)) (by (with_reducible repeat (first | apply Ra | apply Rn | apply Rd)); exact Kd.R_mono (Kd.R_far (p := ⟨gb109, 1, none⟩) (Kd.R_far (p := ⟨gb109, 0, none⟩) (Kd.R_mono HO_7.out (fun k_ hk => (⟨hk, hk.2⟩ : _ ∧ k_ ≠ gb109))) (fun _ hk => hk.2) _) (fun _ hk => hk.2) _) (fun _ hk => ⟨hk.1.2, hk.1.1⟩)) hg hat); replace BK101 := am (blk_grown (g := gb101) (o := .cells #[.slice A0_0 l0_0.length c0_0, .slice (some ad103) l0_1.length c0_1] 50 (0, 0)) (by (with_reducible repeat (first | refine bN ?_ _ | refine bD ?_ | refine bA ?_ _)); refine blk_far ?_ NB101_109.out _; (with_reducible repeat (first | refine bN ?_ _ | refine bD ?_ | refine bA ?_ _)); refine blk_far ?_ NB101_109.out _; (with_reducible repeat (first | refine bN ?_ _ | refine bD ?_ | refine bA ?_ _)); exact BK101.out) hg (Kd.R_ne HO_6.out BK101.out (by decide))); replace BK102 := am (blk_grown (g := gb102) (o := .cells #[.slice A1 l1.length c1] 52 (0, 0)) (by (with_reducible repeat (first | refine bN ?_ _ | refine bD ?_ | refine bA ?_ _)); refine blk_far ?_ NB102_109.out _; (with_reducible repeat (first | refine bN ?_ _ | refine bD ?_ | refine bA ?_ _)); refine blk_far ?_ NB102_109.out _; (with_reducible repeat (first | refine bN ?_ _ | refine bD ?_ | refine bA ?_ _)); exact BK102.out) hg (Kd.R_ne HO_6.out BK102.out (by decide))); replace BK104 := am (blk_grown (g := gb104) (o := .cells #[.string ((rd_T64 l0_1 x18_1).head.pred), .slice A103_1 ((rd_T64 l0_1 x18_1).head.args).length c103_1, .slice (some ad105) ((rd_T64 l0_1 x18_1).body).length c103_2] 64 (0, 0)) (by (with_reducible repeat (first | refine bN ?_ _ | refine bD ?_ | refine bA ?_ _)); refine blk_far ?_ NB104_109.out _; (with_reducible repeat (first | refine bN ?_ _ | refine bD ?_ | refine bA ?_ _)); refine blk_far ?_ NB104_109.out _; (with_reducible repeat (first | refine bN ?_ _ | refine bD ?_ | refine bA ?_ _)); exact BK104.out) hg (Kd.R_ne HO_6.out BK104.out (by decide))); replace BK106 := am (blk_grown (g := gb106) (o := .cells #[.int .i64 ((rd_T71 ((rd_T64 l0_1 x18_1).body) x25_2).kind), .string ((rd_T71 ((rd_T64 l0_1 x18_1).body) x25_2).atom.pred), .slice A105_2 ((rd_T71 ((rd_T64 l0_1 x18_1).body) x25_2).atom.args).length c105_2, .string ((rd_T71 ((rd_T64 l0_1 x18_1).body) x25_2).op), .bool ((rd_T71 ((rd_T64 l0_1 x18_1).body) x25_2).l.isVar), .string ((rd_T71 ((rd_T64 l0_1 x18_1).body) x25_2).l.name), .bool ((rd_T71 ((rd_T64 l0_1 x18_1).body) x25_2).l.val.isSym), .string ((rd_T71 ((rd_T64 l0_1 x18_1).body) x25_2).l.val.sym), .int .i64 ((rd_T71 ((rd_T64 l0_1 x18_1).body) x25_2).l.val.n), .bool ((rd_T71 ((rd_T64 l0_1 x18_1).body) x25_2).r.isVar), .string ((rd_T71 ((rd_T64 l0_1 x18_1).body) x25_2).r.name), .bool ((rd_T71 ((rd_T64 l0_1 x18_1).body) x25_2).r.val.isSym), .string ((rd_T71 ((rd_T64 l0_1 x18_1).body) x25_2).r.val.sym), .int .i64 ((rd_T71 ((rd_T64 l0_1 x18_1).body) x25_2).r.val.n)] 71 (0, 0)) (by (with_reducible repeat (first | refine bN ?_ _ | refine bD ?_ | refine bA ?_ _)); refine blk_far ?_ NB106_109.out _; (with_reducible repeat (first | refine bN ?_ _ | refine bD ?_ | refine bA ?_ _)); refine blk_far ?_ NB106_109.out _; (with_reducible repeat (first | refine bN ?_ _ | refine bD ?_ | refine bA ?_ _)); exact BK106.out) hg (Kd.R_ne HO_6.out BK106.out (by decide))); replace BK109 := am (blk_grown (g := gb109) (o := .cells #[.int .i64 t107, .int .i64 t108] 27 (0, 0)) (by (with_reducible repeat (first | refine bN ?_ _ | refine bD ?_ | refine bA ?_ _)); refine blk_put (cs := #[.int .i64 t107, .int .i64 0]) ?_ 1 _ rfl; (with_reducible repeat (first | refine bN ?_ _ | refine bD ?_ | refine bA ?_ _)); refine blk_put (cs := #[.int .i64 0, .int .i64 0]) ?_ 0 _ rfl; (with_reducible repeat (first | refine bN ?_ _ | refine bD ?_ | refine bA ?_ _)); exact BK109.out) hg (Kd.R_away HO_6.out (fun _ hk => hk.2))); replace HB := am (hb); have HO112 := am (ho); clear HO_6; clear ho hb hg hat; have hnb70 := NB106_101.out; have hnc70 := NB101_106.out; have hnb71 := NB106_102.out; have hnc71 := NB102_106.out; have hnb72 := NB106_104.out; have hnc72 := NB104_106.out; have hcz73_0 : w69.cell? ⟨gb106, 0, none⟩ = some (.int .i64 ((rd_T71 ((rd_T64 l0_1 x18_1).body) x25_2).kind)) := (blk_cell BK106.out 0).trans rfl; have hcz73_1 : w69.cell? ⟨gb106, 1, none⟩ = some (.string ((rd_T71 ((rd_T64 l0_1 x18_1).body) x25_2).atom.pred)) := (blk_cell BK106.out 1).trans rfl; have hcz73_2 : w69.cell? ⟨gb106, 2, none⟩ = some (.slice A105_2 ((rd_T71 ((rd_T64 l0_1 x18_1).body) x25_2).atom.args).length c105_2) := (blk_cell BK106.out 2).trans rfl; have hcz73_3 : w69.cell? ⟨gb106, 3, none⟩ = some (.string ((rd_T71 ((rd_T64 l0_1 x18_1).body) x25_2).op)) := (blk_cell BK106.out 3).trans rfl; have hcz73_4 : w69.cell? ⟨gb106, 4, none⟩ = some (.bool ((rd_T71 ((rd_T64 l0_1 x18_1).body) x25_2).l.isVar)) := (blk_cell BK106.out 4).trans rfl; have hcz73_5 : w69.cell? ⟨gb106, 5, none⟩ = some (.string ((rd_T71 ((rd_T64 l0_1 x18_1).body) x25_2).l.name)) := (blk_cell BK106.out 5).trans rfl; have hcz73_6 : w69.cell? ⟨gb106, 6, none⟩ = some (.bool ((rd_T71 ((rd_T64 l0_1 x18_1).body) x25_2).l.val.isSym)) := (blk_cell BK106.out 6).trans rfl; have hcz73_7 : w69.cell? ⟨gb106, 7, none⟩ = some (.string ((rd_T71 ((rd_T64 l0_1 x18_1).body) x25_2).l.val.sym)) := (blk_cell BK106.out 7).trans rfl; have hcz73_8 : w69.cell? ⟨gb106, 8, none⟩ = some (.int .i64 ((rd_T71 ((rd_T64 l0_1 x18_1).body) x25_2).l.val.n)) := (blk_cell BK106.out 8).trans rfl; have hcz73_9 : w69.cell? ⟨gb106, 9, none⟩ = some (.bool ((rd_T71 ((rd_T64 l0_1 x18_1).body) x25_2).r.isVar)) := (blk_cell BK106.out 9).trans rfl; have hcz73_10 : w69.cell? ⟨gb106, 10, none⟩ = some (.string ((rd_T71 ((rd_T64 l0_1 x18_1).body) x25_2).r.name)) := (blk_cell BK106.out 10).trans rfl; have hcz73_11 : w69.cell? ⟨gb106, 11, none⟩ = some (.bool ((rd_T71 ((rd_T64 l0_1 x18_1).body) x25_2).r.val.isSym)) := (blk_cell BK106.out 11).trans rfl; have hcz73_12 : w69.cell? ⟨gb106, 12, none⟩ = some (.string ((rd_T71 ((rd_T64 l0_1 x18_1).body) x25_2).r.val.sym)) := (blk_cell BK106.out 12).trans rfl; have hcz73_13 : w69.cell? ⟨gb106, 13, none⟩ = some (.int .i64 ((rd_T71 ((rd_T64 l0_1 x18_1).body) x25_2).r.val.n)) := (blk_cell BK106.out 13).trans rfl; have hfz73_0 := blk_frozen BK106.out 0; have hfz73_1 := blk_frozen BK106.out 1; have hfz73_2 := blk_frozen BK106.out 2; have hfz73_3 := blk_frozen BK106.out 3; have hfz73_4 := blk_frozen BK106.out 4; have hfz73_5 := blk_frozen BK106.out 5; have hfz73_6 := blk_frozen BK106.out 6; have hfz73_7 := blk_frozen BK106.out 7; have hfz73_8 := blk_frozen BK106.out 8; have hfz73_9 := blk_frozen BK106.out 9; have hfz73_10 := blk_frozen BK106.out 10; have hfz73_11 := blk_frozen BK106.out 11; have hfz73_12 := blk_frozen BK106.out 12; have hfz73_13 := blk_frozen BK106.out 13))
                go_roundg kj16
                case measure => have := HK1.out; have := HK2.out; have := HJ16.out; omega
                case rel => exact ⟨(y110), (x7_2), (wrap64 (x25_2 + 1)), (by first | rfl | (simp; done) | (simp [*]; done)), H', ⟨by have := HK1.out; have := HK2.out; have := HJ16.out; omega⟩, ⟨by (with_reducible repeat (first | apply Ra | apply Rn | apply Rd)); exact Kd.R_mono HO112.out (fun _ hk => hk.1)⟩, ⟨by (with_reducible repeat (first | apply Ra | apply Rn | apply Rd)); exact Kd.R_mono HO_7.out (fun _ hk => hk.2)⟩, ⟨by (with_reducible repeat (first | refine bN ?_ _ | refine bD ?_ | refine bA ?_ _)); exact BK101.out⟩, ⟨by (with_reducible repeat (first | refine bN ?_ _ | refine bD ?_ | refine bA ?_ _)); exact BK102.out⟩, ⟨by (with_reducible repeat (first | refine bN ?_ _ | refine bD ?_ | refine bA ?_ _)); exact BK104.out⟩, ⟨by repeat (first | (with_reducible first | exact HB.out | apply lA | apply lN | apply lD | refine lS ?_ GE101.out | refine lS ?_ GE102.out | refine lS ?_ GE104.out | refine lS ?_ GE106.out | refine lS ?_ GE109.out) | exact HB.out)⟩⟩
              ·rw [if_neg c35] at H
               exact absurd H (by simp)
          ·rw [if_neg c16] at H
           exact absurd H (by simp)
         ·rw [if_neg c15] at H
          exact absurd H (by simp)
        ·rw [if_neg c14] at H
         have c14b0 : decide (x25_2 < (((rd_T64 l0_1 x18_1).body).length : Int)) = false := decide_eq_false c14
         clear c14
         have H' := am H
         clear H
         go_wp2
         go_roundg k2
         case measure => have := HK1.out; have := HK2.out; omega
         case rel => exact ⟨(x6_2), (x7_2), (wrap64 (x18_1 + 1)), (by first | rfl | (simp; done) | (simp [*]; done)), H', ⟨by have := HK1.out; have := HK2.out; omega⟩, ⟨by (with_reducible repeat (first | apply Ra | apply Rn | apply Rd)); exact HO_6.out⟩, ⟨by (with_reducible repeat (first | apply Ra | apply Rn | apply Rd)); exact HO_7.out⟩, ⟨by (with_reducible repeat (first | refine bN ?_ _ | refine bD ?_ | refine bA ?_ _)); exact BK101.out⟩, ⟨by (with_reducible repeat (first | refine bN ?_ _ | refine bD ?_ | refine bA ?_ _)); exact BK102.out⟩, ⟨by repeat (first | (with_reducible first | exact HB.out | apply lA | apply lN | apply lD | refine lS ?_ GE101.out | refine lS ?_ GE102.out | refine lS ?_ GE104.out) | exact HB.out)⟩⟩
     ·rw [if_neg c9] at H
      exact absurd H (by simp)
    ·rw [if_neg c8] at H
     exact absurd H (by simp)
   ·rw [if_neg c7] at H
    have c7b0 : decide (x18_1 < (l0_1.length : Int)) = false := decide_eq_false c7
    clear c7
    simp only [Option.some.injEq, Prod.mk.injEq] at H
    obtain ⟨rfl, rfl⟩ := H
    go_wp2
    go_ret2
    exact ⟨_, _, by first | rfl | (simp [errW_none, errW_some] <;> rfl) | (simp [*, errW_none, errW_some] <;> rfl), by (with_reducible repeat (first | apply Ra | apply Rn | apply Rd)); exact HO_6.out, by (with_reducible repeat (first | apply Ra | apply Rn | apply Rd)); exact HO_7.out, by repeat (first | (with_reducible first | exact HB.out | apply lA | apply lN | apply lD | refine lS ?_ GE101.out | refine lS ?_ GE102.out) | exact HB.out)⟩
def slices_Index_int_int.l0 : Nat → List Int → Int → Int → Int → Option (Int)
 | 0, _, _, _, _ => none
 | k + 1, x0, x1, x7, x8 => if x8 < x7 then (if 0 ≤ x8 then (if x8 < (x0.length : Int) then (if x1 = (rd x0 x8) then (some x8) else (slices_Index_int_int.l0 k x0 x1 x7 (wrap64 (x8 + 1)))) else (none)) else (none)) else (some (-1))
def slices_Index_int_int.f (k : Nat) (l0 : List Int) (a1 : Int) : Option (Int) := slices_Index_int_int.l0 k l0 a1 (l0.length : Int) 0
theorem slices_Index_int_int.mono_l : ∀ k, (∀ y0 y1 y2 y3, LeO (slices_Index_int_int.l0 k y0 y1 y2 y3) (slices_Index_int_int.l0 (k + 1) y0 y1 y2 y3))
 | 0 => fun _ _ _ _ r h => by simp [slices_Index_int_int.l0] at h
 | k + 1 => by
  have ih0 := slices_Index_int_int.mono_l k
  ·intro y0 y1 y2 y3
   unfold slices_Index_int_int.l0
   repeat' first
   | (with_reducible exact ih0 _ _ _ _)
   | (with_reducible exact LeO.refl _)
   | (with_reducible exact LeO.none _)
   | (with_reducible refine LeO.ite ?_ ?_)
   | (with_reducible refine LeO.bind ?_ (fun _ => ?_))
   | exact ih0 _ _ _ _
   | exact LeO.none _
   | refine LeO.ite ?_ ?_
   | refine LeO.bind ?_ (fun _ => ?_)
theorem slices_Index_int_int.mono : ∀ a0 a1 k, LeO (slices_Index_int_int.f k a0 a1) (slices_Index_int_int.f (k + 1) a0 a1) := by
 intro a0 a1 k
 have ih0 := slices_Index_int_int.mono_l k
 unfold slices_Index_int_int.f
 repeat' first
   | (with_reducible exact ih0 _ _ _ _)
   | (with_reducible exact LeO.refl _)
   | (with_reducible exact LeO.none _)
   | (with_reducible refine LeO.ite ?_ ?_)
   | (with_reducible refine LeO.bind ?_ (fun _ => ?_))
   | exact ih0 _ _ _ _
   | exact LeO.none _
   | refine LeO.ite ?_ ?_
   | refine LeO.bind ?_ (fun _ => ?_)
set_option maxHeartbeats 8000000 in
set_option maxRecDepth 100000 in
theorem slices_Index_int_int.calls (k : Nat) (A0 : Option Addr) (c0 : Nat) (l0 : List Int) (a1 : Int) (r : Int) (w : World) (hr0 : Kd.C (Kd.int .i64) w A0 l0.length l0) (hc0 : l0.length ≤ c0) (h : slices_Index_int_int.f k l0 a1 = some r) :
  Calls Try.prog 78 #[.slice A0 l0.length c0, .int .i64 a1] w fun e w' => e = .returned (.int .i64 r) ∧ Drawn0 w w' := by
 have HR0 := Aside0.mk hr0
 have HC0 := Aside0.mk hc0
 clear hr0 hc0
 have H : (slices_Index_int_int.l0 k l0 a1 (l0.length : Int) 0) = some r := h
 clear h
 have H' := Aside0.mk H
 clear H
 go_enter Try.func78, Try.ntmps78
 go_wp2
 go_loopg [8] k (fun kq v8 w' => ∃ (x8_1 : Int), v8 = .int .i64 x8_1 ∧ Aside0 (slices_Index_int_int.l0 kq l0 a1 (l0.length : Int) x8_1 = some r) ∧ Aside0 (kq ≤ k) ∧ Drawn0 w w')
 case atStart => exact ⟨(0), (by first | rfl | (simp; done) | (simp [*]; done)), H', ⟨Nat.le_refl _⟩, by repeat (first | exact Drawn0.refl _ | apply Drawn0.step)⟩
 case round =>
  clear H'
  try clear p2
  obtain ⟨x8_1, rfl, HA, HK1, ⟨m1, rfl⟩⟩ := hrel
  cases gk with
  | zero => exact absurd HA.out (by simp [slices_Index_int_int.l0])
  | succ k1 =>
   have H := HA.out
   clear HA
   simp only [slices_Index_int_int.l0] at H
   by_cases c3 : x8_1 < (l0.length : Int)
   ·rw [if_pos c3] at H
    have c3b0 : decide (x8_1 < (l0.length : Int)) = true := decide_eq_true c3
    clear c3
    by_cases c4 : 0 ≤ x8_1
    ·rw [if_pos c4] at H
     have c4b0 : decide (0 ≤ x8_1) = true := decide_eq_true c4
     clear c4
     by_cases c5 : x8_1 < (l0.length : Int)
     ·rw [if_pos c5] at H
      have c5b0 : decide (x8_1 < (l0.length : Int)) = true := decide_eq_true c5
      clear c5
      by_cases c6 : a1 = (rd l0 x8_1)
      ·rw [if_pos c6] at H
       have c6b0 : (a1 == (rd l0 x8_1)) = true := beq_iff_eq.mpr c6
       have c6b1 : (a1 != (rd l0 x8_1)) = false := bne_eq_false_iff_eq.mpr c6
       clear c6
       obtain rfl := Option.some.inj H
       have p101 : 0 ≤ (x8_1 : Int) := of_decide_eq_true (by first | (with_reducible assumption) | assumption)
       have q101 : x8_1 < (l0.length : Int) := of_decide_eq_true (by first | (with_reducible assumption) | assumption)
       obtain ⟨ad101, e101, hx101_0⟩ := Kd.at_int HR0.out x8_1 p101 q101
       cases e101
       replace p101 := eq_true p101
       replace q101 := eq_true q101
       go_wp2
       go_ret
       exact ⟨by first | rfl | (simp; done) | (simp [*]; done), by repeat (first | exact Drawn0.refl _ | apply Drawn0.step)⟩
      ·rw [if_neg c6] at H
       have c6b0 : (a1 == (rd l0 x8_1)) = false := beq_eq_false_iff_ne.mpr c6
       have c6b1 : (a1 != (rd l0 x8_1)) = true := bne_iff_ne.mpr c6
       have H' := Aside0.mk H
       clear H
       have p101 : 0 ≤ (x8_1 : Int) := of_decide_eq_true (by first | (with_reducible assumption) | assumption)
       have q101 : x8_1 < (l0.length : Int) := of_decide_eq_true (by first | (with_reducible assumption) | assumption)
       obtain ⟨ad101, e101, hx101_0⟩ := Kd.at_int HR0.out x8_1 p101 q101
       cases e101
       replace p101 := eq_true p101
       replace q101 := eq_true q101
       go_wp2
       go_roundg k1
       case measure => have := HK1.out; omega
       case rel => exact ⟨(wrap64 (x8_1 + 1)), (by first | rfl | (simp; done) | (simp [*]; done)), H', ⟨by have := HK1.out; omega⟩, by repeat (first | exact Drawn0.refl _ | apply Drawn0.step)⟩
     ·rw [if_neg c5] at H
      exact absurd H (by simp)
    ·rw [if_neg c4] at H
     exact absurd H (by simp)
   ·rw [if_neg c3] at H
    have c3b0 : decide (x8_1 < (l0.length : Int)) = false := decide_eq_false c3
    clear c3
    obtain rfl := Option.some.inj H
    go_wp2
    go_ret
    exact ⟨by first | rfl | (simp; done) | (simp [*]; done), by repeat (first | exact Drawn0.refl _ | apply Drawn0.step)⟩
def slices_Contains_int_int.f (k : Nat) (l0 : List Int) (a1 : Int) : Option (Bool) := (slices_Index_int_int.f k l0 a1).bind fun t101 => (some (decide (t101 ≥ 0)))
theorem slices_Contains_int_int.mono : ∀ a0 a1 k, LeO (slices_Contains_int_int.f k a0 a1) (slices_Contains_int_int.f (k + 1) a0 a1) := by
 intro a0 a1 k
 unfold slices_Contains_int_int.f
 repeat' first
   | (with_reducible exact slices_Index_int_int.mono _ _ _)
   | (with_reducible exact LeO.refl _)
   | (with_reducible exact LeO.none _)
   | (with_reducible refine LeO.ite ?_ ?_)
   | (with_reducible refine LeO.bind ?_ (fun _ => ?_))
   | exact slices_Index_int_int.mono _ _ _
   | exact LeO.none _
   | refine LeO.ite ?_ ?_
   | refine LeO.bind ?_ (fun _ => ?_)
set_option maxHeartbeats 8000000 in
set_option maxRecDepth 100000 in
theorem slices_Contains_int_int.calls (k : Nat) (A0 : Option Addr) (c0 : Nat) (l0 : List Int) (a1 : Int) (r : Bool) (w : World) (hr0 : Kd.C (Kd.int .i64) w A0 l0.length l0) (hc0 : l0.length ≤ c0) (h : slices_Contains_int_int.f k l0 a1 = some r) :
  Calls Try.prog 65 #[.slice A0 l0.length c0, .int .i64 a1] w fun e w' => e = .returned (.bool r) ∧ Drawn0 w w' := by
 have HR0 := Aside0.mk hr0
 have HC0 := Aside0.mk hc0
 clear hr0 hc0
 have H : ((slices_Index_int_int.f k l0 a1).bind fun t101 => (some (decide (t101 ≥ 0)))) = some r := h
 clear h
 replace H := Option.bind_eq_some_iff.mp H
 obtain ⟨t101, A30, H⟩ := H
 replace H : (some (decide (t101 ≥ 0))) = some r := H
 have A3 := Aside0.mk A30
 clear A30
 obtain rfl := Option.some.inj H
 go_enter Try.func65, Try.ntmps65
 go_wp2_with (first | ((with_reducible refine gate_callee (f := 78) rfl ?_); refine goesL_ (some 7) rfl rfl Try.func78 (by kernel_rfl) rfl #[.slice A0 l0.length c0, .int .i64 a1] rfl (by (try simp only [List.map_toArray, List.map_cons, List.map_nil]); first | done | rfl | (simp only [List.length_drop, List.length_take]; rfl)) ?_; (with_reducible refine (slices_Index_int_int.calls k _ _ l0 a1 t101 _ ?side1 ?side2 A3.out).mono ?_); (case side1 => repeat (first | exact HR0.out | (with_reducible refine Kd.C_alloc ?_ _) | (with_reducible refine Kd.C_drewN ?_ _) | (with_reducible refine Kd.C_drew ?_))); (case side2 => exact HC0.out); rintro e w' ⟨rfl, ⟨nd, rfl⟩⟩; refine ⟨_, rfl, ?_⟩))
 go_ret
 exact ⟨by first | rfl | (simp; done) | (simp [*]; done), by repeat (first | exact Drawn0.refl _ | apply Drawn0.step)⟩
end Go.Proofs.Ytmlhnjonmjmhdaa.H

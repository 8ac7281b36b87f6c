/- Texts of this seat that its laws share, joined. -/
import Derived.Test.YthpejcnldecmoaaMA
import Derived.Test.YthpejcnldecmoaaMD
import Derived.Test.YthpejcnldecmoaaMD2
-- made by a program of this session (wip/tools) out of the translation; Lean checks it.
namespace Go.Proofs.Ythpejcnldecmoaa.H
open Go.RowKit Go.Proofs.YthpejcnldecmoaaW.PrintWords Go.Proofs.YthpejcnldecmoaaW.PrintLast Go.Proofs.YthpejcnldecmoaaW.PrintMore
attribute [local go_sem] max2_int min2_int max_two min_two max_three min_three max_four min_four   -- for this text's walks alone
set_option linter.unusedVariables false
set_option linter.unusedSimpArgs false

/-! ### lambrequinref13_next: function 44 -/
mutual
def lambrequinref13_next.l0 : Nat → List Bool → List ByteArray → Int → Int → Int → ByteArray → List (Term) → List (Liter) → Option (Int)
 | 0, _, _, _, _, _, _, _, _ => none
 | k + 1, x1, x2, x7, x8, x9, x102000, x102001, x102002 => if x9 < (x102002.length : Int) then (if 0 ≤ x9 then (if x9 < (x1.length : Int) then (if rdOf false x1 x9 = true then (lambrequinref13_next.l0 k x1 x2 x7 x8 (wrap64 (x9 + 1)) x102000 x102001 x102002) else (if ((rd_T47 x102002 x9).kind) = 1 then (lambrequinref13_next.j1 k x1 x2 x7 x8 x9 false x102000 x102001 x102002 ((rd_T47 x102002 x9).kind) ((rd_T47 x102002 x9).atom.pred) ((rd_T47 x102002 x9).atom.args) ((rd_T47 x102002 x9).op) ((rd_T47 x102002 x9).l.isVar) ((rd_T47 x102002 x9).l.name) ((rd_T47 x102002 x9).l.val.isSym) ((rd_T47 x102002 x9).l.val.sym) ((rd_T47 x102002 x9).l.val.n) ((rd_T47 x102002 x9).r.isVar) ((rd_T47 x102002 x9).r.name) ((rd_T47 x102002 x9).r.val.isSym) ((rd_T47 x102002 x9).r.val.sym) ((rd_T47 x102002 x9).r.val.n)) else ((lambrequinref13_Terms.f ((rd_T47 x102002 x9).kind) ((rd_T47 x102002 x9).atom.pred) ((rd_T47 x102002 x9).atom.args) ((rd_T47 x102002 x9).op) ((rd_T47 x102002 x9).l.isVar) ((rd_T47 x102002 x9).l.name) ((rd_T47 x102002 x9).l.val.isSym) ((rd_T47 x102002 x9).l.val.sym) ((rd_T47 x102002 x9).l.val.n) ((rd_T47 x102002 x9).r.isVar) ((rd_T47 x102002 x9).r.name) ((rd_T47 x102002 x9).r.val.isSym) ((rd_T47 x102002 x9).r.val.sym) ((rd_T47 x102002 x9).r.val.n)).bind fun t105 => ((lambrequinref13_Known.f k t105 x2).bind fun t108 => (lambrequinref13_next.j1 k x1 x2 x7 x8 x9 t108 x102000 x102001 x102002 ((rd_T47 x102002 x9).kind) ((rd_T47 x102002 x9).atom.pred) ((rd_T47 x102002 x9).atom.args) ((rd_T47 x102002 x9).op) ((rd_T47 x102002 x9).l.isVar) ((rd_T47 x102002 x9).l.name) ((rd_T47 x102002 x9).l.val.isSym) ((rd_T47 x102002 x9).l.val.sym) ((rd_T47 x102002 x9).l.val.n) ((rd_T47 x102002 x9).r.isVar) ((rd_T47 x102002 x9).r.name) ((rd_T47 x102002 x9).r.val.isSym) ((rd_T47 x102002 x9).r.val.sym) ((rd_T47 x102002 x9).r.val.n)))))) else (none)) else (none)) else (some x7)
def lambrequinref13_next.j1 : Nat → List Bool → List ByteArray → Int → Int → Int → Bool → ByteArray → List (Term) → List (Liter) → Int → ByteArray → List (Term) → ByteArray → Bool → ByteArray → Bool → ByteArray → Int → Bool → ByteArray → Bool → ByteArray → Int → Option (Int)
 | 0, _, _, _, _, _, _, _, _, _, _, _, _, _, _, _, _, _, _, _, _, _, _, _ => none
 | k + 1, x1, x2, x7, x8, x9, x36, x102000, x102001, x102002, x104000, x104001, x104002, x104003, x104004, x104005, x104006, x104007, x104008, x104009, x104010, x104011, x104012, x104013 => if x36 = true then (some x9) else ((lambrequinref13_Cols.f k x104001 x104002 x2).bind fun t109 => (if x104000 = 1 then (if (t109.length : Int) > x8 then (lambrequinref13_next.l0 k x1 x2 x9 (t109.length : Int) (wrap64 (x9 + 1)) x102000 x102001 x102002) else (lambrequinref13_next.l0 k x1 x2 x7 x8 (wrap64 (x9 + 1)) x102000 x102001 x102002)) else (lambrequinref13_next.l0 k x1 x2 x7 x8 (wrap64 (x9 + 1)) x102000 x102001 x102002)))
end
def lambrequinref13_next.f (k : Nat) (a0_0 : ByteArray) (l0_1 : List (Term)) (l0_2 : List (Liter)) (l1 : List Bool) (l2 : List ByteArray) : Option (Int) := lambrequinref13_next.l0 k l1 l2 (-1) (-1) 0 a0_0 l0_1 l0_2
theorem lambrequinref13_next.mono_l : ∀ k, (∀ y0 y1 y2 y3 y4 y5 y6 y7, LeO (lambrequinref13_next.l0 k y0 y1 y2 y3 y4 y5 y6 y7) (lambrequinref13_next.l0 (k + 1) y0 y1 y2 y3 y4 y5 y6 y7)) ∧ (∀ y0 y1 y2 y3 y4 y5 y6 y7 y8 y9 y10 y11 y12 y13 y14 y15 y16 y17 y18 y19 y20 y21 y22, LeO (lambrequinref13_next.j1 k y0 y1 y2 y3 y4 y5 y6 y7 y8 y9 y10 y11 y12 y13 y14 y15 y16 y17 y18 y19 y20 y21 y22) (lambrequinref13_next.j1 (k + 1) y0 y1 y2 y3 y4 y5 y6 y7 y8 y9 y10 y11 y12 y13 y14 y15 y16 y17 y18 y19 y20 y21 y22))
 | 0 => ⟨fun _ _ _ _ _ _ _ _ r h => by simp [lambrequinref13_next.l0] at h, fun _ _ _ _ _ _ _ _ _ _ _ _ _ _ _ _ _ _ _ _ _ _ _ r h => by simp [lambrequinref13_next.j1] at h⟩
 | k + 1 => by
  obtain ⟨ih0, ih1⟩ := lambrequinref13_next.mono_l k
  refine ⟨?_, ?_⟩
  ·intro y0 y1 y2 y3 y4 y5 y6 y7
   unfold lambrequinref13_next.l0
   repeat' first
   | (with_reducible exact ih0 _ _ _ _ _ _ _ _)
   | (with_reducible exact ih1 _ _ _ _ _ _ _ _ _ _ _ _ _ _ _ _ _ _ _ _ _ _ _)
   | (with_reducible exact lambrequinref13_Cols.mono _ _ _ _)
   | (with_reducible exact lambrequinref13_Known.mono _ _ _)
   | (with_reducible exact LeO.refl _)
   | (with_reducible exact LeO.none _)
   | (with_reducible refine LeO.ite ?_ ?_)
   | (with_reducible refine LeO.bind ?_ (fun _ => ?_))
   | exact ih0 _ _ _ _ _ _ _ _
   | exact ih1 _ _ _ _ _ _ _ _ _ _ _ _ _ _ _ _ _ _ _ _ _ _ _
   | exact lambrequinref13_Cols.mono _ _ _ _
   | exact lambrequinref13_Known.mono _ _ _
   | exact LeO.none _
   | refine LeO.ite ?_ ?_
   | refine LeO.bind ?_ (fun _ => ?_)
  ·intro y0 y1 y2 y3 y4 y5 y6 y7 y8 y9 y10 y11 y12 y13 y14 y15 y16 y17 y18 y19 y20 y21 y22
   unfold lambrequinref13_next.j1
   repeat' first
   | (with_reducible exact ih0 _ _ _ _ _ _ _ _)
   | (with_reducible exact ih1 _ _ _ _ _ _ _ _ _ _ _ _ _ _ _ _ _ _ _ _ _ _ _)
   | (with_reducible exact lambrequinref13_Cols.mono _ _ _ _)
   | (with_reducible exact lambrequinref13_Known.mono _ _ _)
   | (with_reducible exact LeO.refl _)
   | (with_reducible exact LeO.none _)
   | (with_reducible refine LeO.ite ?_ ?_)
   | (with_reducible refine LeO.bind ?_ (fun _ => ?_))
   | exact ih0 _ _ _ _ _ _ _ _
   | exact ih1 _ _ _ _ _ _ _ _ _ _ _ _ _ _ _ _ _ _ _ _ _ _ _
   | exact lambrequinref13_Cols.mono _ _ _ _
   | exact lambrequinref13_Known.mono _ _ _
   | exact LeO.none _
   | refine LeO.ite ?_ ?_
   | refine LeO.bind ?_ (fun _ => ?_)
theorem lambrequinref13_next.mono : ∀ a0 a1 a2 a3 a4 k, LeO (lambrequinref13_next.f k a0 a1 a2 a3 a4) (lambrequinref13_next.f (k + 1) a0 a1 a2 a3 a4) := by
 intro a0 a1 a2 a3 a4 k
 obtain ⟨ih0, ih1⟩ := lambrequinref13_next.mono_l k
 unfold lambrequinref13_next.f
 repeat' first
   | (with_reducible exact ih0 _ _ _ _ _ _ _ _)
   | (with_reducible exact ih1 _ _ _ _ _ _ _ _ _ _ _ _ _ _ _ _ _ _ _ _ _ _ _)
   | (with_reducible exact lambrequinref13_Cols.mono _ _ _ _)
   | (with_reducible exact lambrequinref13_Known.mono _ _ _)
   | (with_reducible exact LeO.refl _)
   | (with_reducible exact LeO.none _)
   | (with_reducible refine LeO.ite ?_ ?_)
   | (with_reducible refine LeO.bind ?_ (fun _ => ?_))
   | exact ih0 _ _ _ _ _ _ _ _
   | exact ih1 _ _ _ _ _ _ _ _ _ _ _ _ _ _ _ _ _ _ _ _ _ _ _
   | exact lambrequinref13_Cols.mono _ _ _ _
   | exact lambrequinref13_Known.mono _ _ _
   | exact LeO.none _
   | refine LeO.ite ?_ ?_
   | refine LeO.bind ?_ (fun _ => ?_)
set_option maxHeartbeats 8000000 in
set_option maxRecDepth 100000 in
theorem lambrequinref13_next.calls (k : Nat) (a0_0 : ByteArray) (A0_1 : Option Addr) (c0_1 : Nat) (l0_1 : List (Term)) (A0_2 : Option Addr) (c0_2 : Nat) (l0_2 : List (Liter)) (A1 : Option Addr) (c1 : Nat) (l1 : List Bool) (A2 : Option Addr) (c2 : Nat) (l2 : List ByteArray) (r : Int) (w : World) (hr0_1 : Kd.C k45 w A0_1 l0_1.length l0_1) (hc0_1 : l0_1.length ≤ c0_1) (hr0_2 : Kd.C k47 w A0_2 l0_2.length l0_2) (hc0_2 : l0_2.length ≤ c0_2) (hr1 : Kd.C Kd.bool w A1 l1.length l1) (hc1 : l1.length ≤ c1) (hr2 : Kd.C Kd.string w A2 l2.length l2) (hc2 : l2.length ≤ c2) (h : lambrequinref13_next.f k a0_0 l0_1 l0_2 l1 l2 = some r) :
  Calls Try.prog 44 #[.agg #[.string a0_0, .slice A0_1 l0_1.length c0_1, .slice A0_2 l0_2.length c0_2], .slice A1 l1.length c1, .slice A2 l2.length c2] w fun e w' => e = .returned (.int .i64 r) ∧ Below w.heap.size w w' := by
 have hu27 := Try.underlying27
 have hu47 := Try.underlying47
 have hu24 := Try.underlying24
 have HR0_1 := Aside0.mk hr0_1
 have HC0_1 := Aside0.mk hc0_1
 clear hr0_1 hc0_1
 have HR0_2 := Aside0.mk hr0_2
 have HC0_2 := Aside0.mk hc0_2
 clear hr0_2 hc0_2
 have HR1 := Aside0.mk hr1
 have HC1 := Aside0.mk hc1
 clear hr1 hc1
 have HR2 := Aside0.mk hr2
 have HC2 := Aside0.mk hc2
 clear hr2 hc2
 have HB := Aside0.mk (Below.refl w.heap.size w)
 have H : (lambrequinref13_next.l0 k l1 l2 (-1) (-1) 0 a0_0 l0_1 l0_2) = some r := h
 clear h
 have H' := Aside0.mk H
 clear H
 go_enter Try.func44, Try.ntmps44
 go_wp2_with (first | ((with_reducible refine gate_dst (N := 3) rfl ?_); refine box_event ?hg (N := 3) ?hd (cs := #[.string a0_0, .slice A0_1 l0_1.length c0_1, .slice A0_2 l0_2.length c0_2]) (t := 27) ?hr ?_; (case hd => rfl); (case hg => rfl); (case hr => first | (go_simp; done) | (go_simp; rfl)); intro gb101 hg w4 hbox hb; have n0_ := Aside0.mk (below_step (by repeat (first | (with_reducible first | exact HB.out | apply below_alloc | apply pw_below_drewN | apply below_drew1) | exact HB.out)) hb); have n1_ := Aside0.mk (hbox); have n2_ := Aside0.mk ((by rw [hg]; exact (below_size (by repeat (first | (with_reducible first | exact HB.out | apply below_alloc | apply pw_below_drewN | apply below_drew1) | exact HB.out))) : w.heap.size ≤ gb101)); have n3_ := Aside0.mk ((by rw [hg]; exact (below_size (by repeat (first | (with_reducible first | exact HB.out | apply below_alloc | apply pw_below_drewN | apply below_drew1) | exact HB.out))) : w.heap.size ≤ gb101)); clear HB; have HB := n0_; have BK101 := n1_; have GW101 := n2_; have GE101 := n3_; clear n0_ n1_ n2_ n3_; clear hb hbox hg))
 go_loopg [7, 8, 9] k (fun kq v7 v8 v9 w' => ∃ (x7_1 : Int) (x8_1 : Int) (x9_1 : Int), v7 = .int .i64 x7_1 ∧ v8 = .int .i64 x8_1 ∧ v9 = .int .i64 x9_1 ∧ Aside0 (lambrequinref13_next.l0 kq l1 l2 x7_1 x8_1 x9_1 a0_0 l0_1 l0_2 = some r) ∧ Aside0 (kq ≤ k) ∧ Aside0 (w'.heap[gb101]? = some (.cells #[.string a0_0, (.slice A0_1 l0_1.length c0_1), (.slice A0_2 l0_2.length c0_2)] 27 (0, 0))) ∧ Aside0 (Below w.heap.size w w'))
 case atStart => exact ⟨((-1)), ((-1)), (0), (by first | rfl | (simp; done) | (simp [*]; done)), (by first | rfl | (simp; done) | (simp [*]; done)), (by first | rfl | (simp; done) | (simp [*]; done)), H', ⟨Nat.le_refl _⟩, ⟨by (with_reducible repeat (first | refine blk_drewN ?_ _ | refine blk_drew ?_ | refine blk_alloc ?_ _)); exact BK101.out⟩, ⟨by repeat (first | (with_reducible first | exact HB.out | apply below_alloc | apply pw_below_drewN | apply below_drew1 | refine below_set ?_ GE101.out) | exact HB.out)⟩⟩
 case round =>
  clear H'
  try clear c1
  try clear c2
  try clear p2
  try clear c4
  obtain ⟨x7_1, x8_1, x9_1, rfl, rfl, rfl, HA, HK1, BK101, HB⟩ := hrel
  cases gk with
  | zero => exact absurd HA.out (by simp [lambrequinref13_next.l0])
  | succ k1 =>
   have H := HA.out
   clear HA
   simp only [lambrequinref13_next.l0] at H
   by_cases c5 : x9_1 < (l0_2.length : Int)
   ·rw [if_pos c5] at H
    have c5b0 : decide (x9_1 < (l0_2.length : Int)) = true := decide_eq_true c5
    clear c5
    by_cases c6 : 0 ≤ x9_1
    ·rw [if_pos c6] at H
     have c6b0 : decide (0 ≤ x9_1) = true := decide_eq_true c6
     clear c6
     by_cases c7 : x9_1 < (l1.length : Int)
     ·rw [if_pos c7] at H
      have c7b0 : decide (x9_1 < (l1.length : Int)) = true := decide_eq_true c7
      clear c7
      obtain ⟨bq8, hbq8⟩ : ∃ b_ : Bool, b_ = (rdOf false l1 x9_1) := ⟨_, rfl⟩
      replace H : (if bq8 = true then (lambrequinref13_next.l0 k1 l1 l2 x7_1 x8_1 (wrap64 (x9_1 + 1)) a0_0 l0_1 l0_2) else (if ((rd_T47 l0_2 x9_1).kind) = 1 then (lambrequinref13_next.j1 k1 l1 l2 x7_1 x8_1 x9_1 false a0_0 l0_1 l0_2 ((rd_T47 l0_2 x9_1).kind) ((rd_T47 l0_2 x9_1).atom.pred) ((rd_T47 l0_2 x9_1).atom.args) ((rd_T47 l0_2 x9_1).op) ((rd_T47 l0_2 x9_1).l.isVar) ((rd_T47 l0_2 x9_1).l.name) ((rd_T47 l0_2 x9_1).l.val.isSym) ((rd_T47 l0_2 x9_1).l.val.sym) ((rd_T47 l0_2 x9_1).l.val.n) ((rd_T47 l0_2 x9_1).r.isVar) ((rd_T47 l0_2 x9_1).r.name) ((rd_T47 l0_2 x9_1).r.val.isSym) ((rd_T47 l0_2 x9_1).r.val.sym) ((rd_T47 l0_2 x9_1).r.val.n)) else ((lambrequinref13_Terms.f ((rd_T47 l0_2 x9_1).kind) ((rd_T47 l0_2 x9_1).atom.pred) ((rd_T47 l0_2 x9_1).atom.args) ((rd_T47 l0_2 x9_1).op) ((rd_T47 l0_2 x9_1).l.isVar) ((rd_T47 l0_2 x9_1).l.name) ((rd_T47 l0_2 x9_1).l.val.isSym) ((rd_T47 l0_2 x9_1).l.val.sym) ((rd_T47 l0_2 x9_1).l.val.n) ((rd_T47 l0_2 x9_1).r.isVar) ((rd_T47 l0_2 x9_1).r.name) ((rd_T47 l0_2 x9_1).r.val.isSym) ((rd_T47 l0_2 x9_1).r.val.sym) ((rd_T47 l0_2 x9_1).r.val.n)).bind fun t105 => ((lambrequinref13_Known.f k1 t105 l2).bind fun t108 => (lambrequinref13_next.j1 k1 l1 l2 x7_1 x8_1 x9_1 t108 a0_0 l0_1 l0_2 ((rd_T47 l0_2 x9_1).kind) ((rd_T47 l0_2 x9_1).atom.pred) ((rd_T47 l0_2 x9_1).atom.args) ((rd_T47 l0_2 x9_1).op) ((rd_T47 l0_2 x9_1).l.isVar) ((rd_T47 l0_2 x9_1).l.name) ((rd_T47 l0_2 x9_1).l.val.isSym) ((rd_T47 l0_2 x9_1).l.val.sym) ((rd_T47 l0_2 x9_1).l.val.n) ((rd_T47 l0_2 x9_1).r.isVar) ((rd_T47 l0_2 x9_1).r.name) ((rd_T47 l0_2 x9_1).r.val.isSym) ((rd_T47 l0_2 x9_1).r.val.sym) ((rd_T47 l0_2 x9_1).r.val.n)))))) = some r := by rw [← hbq8] at H; exact H
      have Nbq8 := Aside0.mk hbq8
      clear hbq8
      by_cases c9 : bq8 = true
      ·subst c9
       have H1 : (lambrequinref13_next.l0 k1 l1 l2 x7_1 x8_1 (wrap64 (x9_1 + 1)) a0_0 l0_1 l0_2) = some r := by rw [if_pos rfl] at H; exact H
       clear H
       have H := H1
       clear H1
       have H' := Aside0.mk H
       clear H
       have hcz10_0 : wr.cell? ⟨gb101, 0, none⟩ = some (.string a0_0) := (blk_cell BK101.out 0).trans rfl
       have hcz10_1 : wr.cell? ⟨gb101, 1, none⟩ = some (.slice A0_1 l0_1.length c0_1) := (blk_cell BK101.out 1).trans rfl
       have hcz10_2 : wr.cell? ⟨gb101, 2, none⟩ = some (.slice A0_2 l0_2.length c0_2) := (blk_cell BK101.out 2).trans rfl
       have hfz10_0 := blk_frozen BK101.out 0
       have hfz10_1 := blk_frozen BK101.out 1
       have hfz10_2 := blk_frozen BK101.out 2
       have p102 : 0 ≤ (x9_1 : Int) := of_decide_eq_true (by first | (with_reducible assumption) | assumption)
       have q102 : x9_1 < (l0_2.length : Int) := of_decide_eq_true (by first | (with_reducible assumption) | assumption)
       obtain ⟨ad102, A102_2, c102_2, e102, hx102_0, hx102_1, hx102_2, hx102_3, hx102_4, hx102_5, hx102_6, hx102_7, hx102_8, hx102_9, hx102_10, hx102_11, hx102_12, hx102_13, hl102_2, hi102_2⟩ := at_T47 HR0_2.out x9_1 p102 q102
       (try rw [← Nbq8.out] at hx102_4)
       (try rw [← Nbq8.out] at hx102_6)
       (try rw [← Nbq8.out] at hx102_9)
       (try rw [← Nbq8.out] at hx102_11)
       cases e102
       replace hx102_0 := (HB.out.cell (blt_ hx102_0)).trans hx102_0
       replace hx102_1 := (HB.out.cell (blt_ hx102_1)).trans hx102_1
       replace hx102_2 := (HB.out.cell (blt_ hx102_2)).trans hx102_2
       replace hx102_3 := (HB.out.cell (blt_ hx102_3)).trans hx102_3
       replace hx102_4 := (HB.out.cell (blt_ hx102_4)).trans hx102_4
       replace hx102_5 := (HB.out.cell (blt_ hx102_5)).trans hx102_5
       replace hx102_6 := (HB.out.cell (blt_ hx102_6)).trans hx102_6
       replace hx102_7 := (HB.out.cell (blt_ hx102_7)).trans hx102_7
       replace hx102_8 := (HB.out.cell (blt_ hx102_8)).trans hx102_8
       replace hx102_9 := (HB.out.cell (blt_ hx102_9)).trans hx102_9
       replace hx102_10 := (HB.out.cell (blt_ hx102_10)).trans hx102_10
       replace hx102_11 := (HB.out.cell (blt_ hx102_11)).trans hx102_11
       replace hx102_12 := (HB.out.cell (blt_ hx102_12)).trans hx102_12
       replace hx102_13 := (HB.out.cell (blt_ hx102_13)).trans hx102_13
       have HR102_2 := Aside0.mk hi102_2
       have HC102_2 := Aside0.mk hl102_2
       clear hi102_2 hl102_2
       replace p102 := eq_true p102
       replace q102 := eq_true q102
       go_wp2_with (first | ((with_reducible refine gate_dst (N := 10) rfl ?_); refine box_event ?hg (N := 10) ?hd (cs := #[.int .i64 0, .string (⟨#[]⟩ : ByteArray), .slice none 0 0, .string (⟨#[]⟩ : ByteArray), .bool false, .string (⟨#[]⟩ : ByteArray), .bool false, .string (⟨#[]⟩ : ByteArray), .int .i64 0, .bool false, .string (⟨#[]⟩ : ByteArray), .bool false, .string (⟨#[]⟩ : ByteArray), .int .i64 0]) (t := 47) ?hr ?_; (case hd => rfl); (case hg => rfl); (case hr => first | (go_simp; done) | (go_simp; rfl)); intro gb103 hg w11 hbox hb; have n0_ := Aside0.mk (blk_below (g := gb101) (o := .cells #[.string a0_0, .slice A0_1 l0_1.length c0_1, .slice (some ad102) l0_2.length c0_2] 27 (0, 0)) (by (with_reducible repeat (first | refine blk_drewN ?_ _ | refine blk_drew ?_ | refine blk_alloc ?_ _)); exact BK101.out) hb); have n1_ := Aside0.mk (below_step (by repeat (first | (with_reducible first | exact HB.out | apply below_alloc | apply pw_below_drewN | apply below_drew1 | refine below_set ?_ GE101.out) | exact HB.out)) hb); have n2_ := Aside0.mk (hbox); have n3_ := Aside0.mk ((by rw [hg]; exact (below_size (by repeat (first | (with_reducible first | exact HB.out | apply below_alloc | apply pw_below_drewN | apply below_drew1 | refine below_set ?_ GE101.out) | exact HB.out))) : w.heap.size ≤ gb103)); have n4_ := Aside0.mk ((by rw [hg]; exact (below_size (by repeat (first | (with_reducible first | exact HB.out | apply below_alloc | apply pw_below_drewN | apply below_drew1 | refine below_set ?_ GE101.out) | exact HB.out))) : w.heap.size ≤ gb103)); have n5_ := Aside0.mk ((by rw [hg]; exact Nat.ne_of_lt (blk_lt (g := gb101) (o := .cells #[.string a0_0, .slice A0_1 l0_1.length c0_1, .slice (some ad102) l0_2.length c0_2] 27 (0, 0)) (by (with_reducible repeat (first | refine blk_drewN ?_ _ | refine blk_drew ?_ | refine blk_alloc ?_ _)); exact BK101.out)) : gb101 ≠ gb103)); have n6_ := Aside0.mk ((by rw [hg]; exact Nat.ne_of_gt (blk_lt (g := gb101) (o := .cells #[.string a0_0, .slice A0_1 l0_1.length c0_1, .slice (some ad102) l0_2.length c0_2] 27 (0, 0)) (by (with_reducible repeat (first | refine blk_drewN ?_ _ | refine blk_drew ?_ | refine blk_alloc ?_ _)); exact BK101.out)) : gb103 ≠ gb101)); clear BK101; clear HB; have BK101 := n0_; have HB := n1_; have BK103 := n2_; have GW103 := n3_; have GE103 := n4_; have NB101_103 := n5_; have NB103_101 := n6_; clear n0_ n1_ n2_ n3_ n4_ n5_ n6_; clear hb hbox hg; have hnb12 := NB103_101.out; have hnc12 := NB101_103.out; have hcz13_0 : w11.cell? ⟨gb103, 0, none⟩ = some (.int .i64 0) := (blk_cell BK103.out 0).trans rfl; have hcz13_1 : w11.cell? ⟨gb103, 1, none⟩ = some (.string (⟨#[]⟩ : ByteArray)) := (blk_cell BK103.out 1).trans rfl; have hcz13_2 : w11.cell? ⟨gb103, 2, none⟩ = some (.slice none 0 0) := (blk_cell BK103.out 2).trans rfl; have hcz13_3 : w11.cell? ⟨gb103, 3, none⟩ = some (.string (⟨#[]⟩ : ByteArray)) := (blk_cell BK103.out 3).trans rfl; have hcz13_4 : w11.cell? ⟨gb103, 4, none⟩ = some (.bool false) := (blk_cell BK103.out 4).trans rfl; have hcz13_5 : w11.cell? ⟨gb103, 5, none⟩ = some (.string (⟨#[]⟩ : ByteArray)) := (blk_cell BK103.out 5).trans rfl; have hcz13_6 : w11.cell? ⟨gb103, 6, none⟩ = some (.bool false) := (blk_cell BK103.out 6).trans rfl; have hcz13_7 : w11.cell? ⟨gb103, 7, none⟩ = some (.string (⟨#[]⟩ : ByteArray)) := (blk_cell BK103.out 7).trans rfl; have hcz13_8 : w11.cell? ⟨gb103, 8, none⟩ = some (.int .i64 0) := (blk_cell BK103.out 8).trans rfl; have hcz13_9 : w11.cell? ⟨gb103, 9, none⟩ = some (.bool false) := (blk_cell BK103.out 9).trans rfl; have hcz13_10 : w11.cell? ⟨gb103, 10, none⟩ = some (.string (⟨#[]⟩ : ByteArray)) := (blk_cell BK103.out 10).trans rfl; have hcz13_11 : w11.cell? ⟨gb103, 11, none⟩ = some (.bool false) := (blk_cell BK103.out 11).trans rfl; have hcz13_12 : w11.cell? ⟨gb103, 12, none⟩ = some (.string (⟨#[]⟩ : ByteArray)) := (blk_cell BK103.out 12).trans rfl; have hcz13_13 : w11.cell? ⟨gb103, 13, none⟩ = some (.int .i64 0) := (blk_cell BK103.out 13).trans rfl; have hfz13_0 := blk_frozen BK103.out 0; have hfz13_1 := blk_frozen BK103.out 1; have hfz13_2 := blk_frozen BK103.out 2; have hfz13_3 := blk_frozen BK103.out 3; have hfz13_4 := blk_frozen BK103.out 4; have hfz13_5 := blk_frozen BK103.out 5; have hfz13_6 := blk_frozen BK103.out 6; have hfz13_7 := blk_frozen BK103.out 7; have hfz13_8 := blk_frozen BK103.out 8; have hfz13_9 := blk_frozen BK103.out 9; have hfz13_10 := blk_frozen BK103.out 10; have hfz13_11 := blk_frozen BK103.out 11; have hfz13_12 := blk_frozen BK103.out 12; have hfz13_13 := blk_frozen BK103.out 13; have p104 : 0 ≤ (x9_1 : Int) := of_decide_eq_true (by first | (with_reducible assumption) | assumption); have q104 : x9_1 < (l1.length : Int) := of_decide_eq_true (by first | (with_reducible assumption) | assumption); obtain ⟨ad104, e104, hx104_0⟩ := Kd.at_bool HR1.out x9_1 p104 q104; (try rw [← Nbq8.out] at hx104_0); cases e104; have hn104_0 : ad104.block ≠ gb103 := Nat.ne_of_lt (Nat.lt_of_lt_of_le (by have := blt_ hx104_0; first | rwa [add_block] at this | exact this) GW103.out); have hn104_1 : ad104.block ≠ gb103 := Nat.ne_of_lt (Nat.lt_of_lt_of_le (by have := blt_ hx104_0; first | rwa [add_block] at this | exact this) GW103.out); have hn104_2 : ad104.block ≠ gb103 := Nat.ne_of_lt (Nat.lt_of_lt_of_le (by have := blt_ hx104_0; first | rwa [add_block] at this | exact this) GW103.out); have hn104_3 : ad104.block ≠ gb103 := Nat.ne_of_lt (Nat.lt_of_lt_of_le (by have := blt_ hx104_0; first | rwa [add_block] at this | exact this) GW103.out); have hn104_4 : ad104.block ≠ gb103 := Nat.ne_of_lt (Nat.lt_of_lt_of_le (by have := blt_ hx104_0; first | rwa [add_block] at this | exact this) GW103.out); have hn104_5 : ad104.block ≠ gb103 := Nat.ne_of_lt (Nat.lt_of_lt_of_le (by have := blt_ hx104_0; first | rwa [add_block] at this | exact this) GW103.out); have hn104_6 : ad104.block ≠ gb103 := Nat.ne_of_lt (Nat.lt_of_lt_of_le (by have := blt_ hx104_0; first | rwa [add_block] at this | exact this) GW103.out); have hn104_7 : ad104.block ≠ gb103 := Nat.ne_of_lt (Nat.lt_of_lt_of_le (by have := blt_ hx104_0; first | rwa [add_block] at this | exact this) GW103.out); have hn104_8 : ad104.block ≠ gb103 := Nat.ne_of_lt (Nat.lt_of_lt_of_le (by have := blt_ hx104_0; first | rwa [add_block] at this | exact this) GW103.out); have hn104_9 : ad104.block ≠ gb103 := Nat.ne_of_lt (Nat.lt_of_lt_of_le (by have := blt_ hx104_0; first | rwa [add_block] at this | exact this) GW103.out); have hn104_10 : ad104.block ≠ gb103 := Nat.ne_of_lt (Nat.lt_of_lt_of_le (by have := blt_ hx104_0; first | rwa [add_block] at this | exact this) GW103.out); have hn104_11 : ad104.block ≠ gb103 := Nat.ne_of_lt (Nat.lt_of_lt_of_le (by have := blt_ hx104_0; first | rwa [add_block] at this | exact this) GW103.out); have hn104_12 : ad104.block ≠ gb103 := Nat.ne_of_lt (Nat.lt_of_lt_of_le (by have := blt_ hx104_0; first | rwa [add_block] at this | exact this) GW103.out); have hn104_13 : ad104.block ≠ gb103 := Nat.ne_of_lt (Nat.lt_of_lt_of_le (by have := blt_ hx104_0; first | rwa [add_block] at this | exact this) GW103.out); replace hx104_0 := (HB.out.cell (blt_ hx104_0)).trans hx104_0; replace hx104_0 := (cell_far (p := ⟨gb103, 0, none⟩) (by first | (rw [add_block]; exact hn104_0) | (show (Addr.add _ _).block ≠ _; rw [add_block]; exact hn104_0) | exact hn104_0) (.int .i64 ((rd_T47 l0_2 x9_1).kind))).trans hx104_0; replace hx104_0 := (cell_far (p := ⟨gb103, 1, none⟩) (by first | (rw [add_block]; exact hn104_1) | (show (Addr.add _ _).block ≠ _; rw [add_block]; exact hn104_1) | exact hn104_1) (.string ((rd_T47 l0_2 x9_1).atom.pred))).trans hx104_0; replace hx104_0 := (cell_far (p := ⟨gb103, 2, none⟩) (by first | (rw [add_block]; exact hn104_2) | (show (Addr.add _ _).block ≠ _; rw [add_block]; exact hn104_2) | exact hn104_2) (.slice A102_2 ((rd_T47 l0_2 x9_1).atom.args).length c102_2)).trans hx104_0; replace hx104_0 := (cell_far (p := ⟨gb103, 3, none⟩) (by first | (rw [add_block]; exact hn104_3) | (show (Addr.add _ _).block ≠ _; rw [add_block]; exact hn104_3) | exact hn104_3) (.string ((rd_T47 l0_2 x9_1).op))).trans hx104_0; replace hx104_0 := (cell_far (p := ⟨gb103, 4, none⟩) (by first | (rw [add_block]; exact hn104_4) | (show (Addr.add _ _).block ≠ _; rw [add_block]; exact hn104_4) | exact hn104_4) (.bool ((rd_T47 l0_2 x9_1).l.isVar))).trans hx104_0; replace hx104_0 := (cell_far (p := ⟨gb103, 5, none⟩) (by first | (rw [add_block]; exact hn104_5) | (show (Addr.add _ _).block ≠ _; rw [add_block]; exact hn104_5) | exact hn104_5) (.string ((rd_T47 l0_2 x9_1).l.name))).trans hx104_0; replace hx104_0 := (cell_far (p := ⟨gb103, 6, none⟩) (by first | (rw [add_block]; exact hn104_6) | (show (Addr.add _ _).block ≠ _; rw [add_block]; exact hn104_6) | exact hn104_6) (.bool ((rd_T47 l0_2 x9_1).l.val.isSym))).trans hx104_0; replace hx104_0 := (cell_far (p := ⟨gb103, 7, none⟩) (by first | (rw [add_block]; exact hn104_7) | (show (Addr.add _ _).block ≠ _; rw [add_block]; exact hn104_7) | exact hn104_7) (.string ((rd_T47 l0_2 x9_1).l.val.sym))).trans hx104_0; replace hx104_0 := (cell_far (p := ⟨gb103, 8, none⟩) (by first | (rw [add_block]; exact hn104_8) | (show (Addr.add _ _).block ≠ _; rw [add_block]; exact hn104_8) | exact hn104_8) (.int .i64 ((rd_T47 l0_2 x9_1).l.val.n))).trans hx104_0; replace hx104_0 := (cell_far (p := ⟨gb103, 9, none⟩) (by first | (rw [add_block]; exact hn104_9) | (show (Addr.add _ _).block ≠ _; rw [add_block]; exact hn104_9) | exact hn104_9) (.bool ((rd_T47 l0_2 x9_1).r.isVar))).trans hx104_0; replace hx104_0 := (cell_far (p := ⟨gb103, 10, none⟩) (by first | (rw [add_block]; exact hn104_10) | (show (Addr.add _ _).block ≠ _; rw [add_block]; exact hn104_10) | exact hn104_10) (.string ((rd_T47 l0_2 x9_1).r.name))).trans hx104_0; replace hx104_0 := (cell_far (p := ⟨gb103, 11, none⟩) (by first | (rw [add_block]; exact hn104_11) | (show (Addr.add _ _).block ≠ _; rw [add_block]; exact hn104_11) | exact hn104_11) (.bool ((rd_T47 l0_2 x9_1).r.val.isSym))).trans hx104_0; replace hx104_0 := (cell_far (p := ⟨gb103, 12, none⟩) (by first | (rw [add_block]; exact hn104_12) | (show (Addr.add _ _).block ≠ _; rw [add_block]; exact hn104_12) | exact hn104_12) (.string ((rd_T47 l0_2 x9_1).r.val.sym))).trans hx104_0; replace hx104_0 := (cell_far (p := ⟨gb103, 13, none⟩) (by first | (rw [add_block]; exact hn104_13) | (show (Addr.add _ _).block ≠ _; rw [add_block]; exact hn104_13) | exact hn104_13) (.int .i64 ((rd_T47 l0_2 x9_1).r.val.n))).trans hx104_0; clear hn104_0; clear hn104_1; clear hn104_2; clear hn104_3; clear hn104_4; clear hn104_5; clear hn104_6; clear hn104_7; clear hn104_8; clear hn104_9; clear hn104_10; clear hn104_11; clear hn104_12; clear hn104_13; replace p104 := eq_true p104; replace q104 := eq_true q104))
       go_roundg k1
       case measure => have := HK1.out; omega
       case rel => exact ⟨(x7_1), (x8_1), (wrap64 (x9_1 + 1)), (by first | rfl | (simp; done) | (simp [*]; done)), (by first | rfl | (simp; done) | (simp [*]; done)), (by first | rfl | (simp; done) | (simp [*]; done)), H', ⟨by have := HK1.out; omega⟩, ⟨by repeat (first | (with_reducible first | exact BK101.out | refine blk_drewN ?_ _ | refine blk_drew ?_ | refine blk_alloc ?_ _) | refine blk_far ?_ NB101_103.out _ | exact BK101.out)⟩, ⟨by repeat (first | (with_reducible first | exact HB.out | apply below_alloc | apply pw_below_drewN | apply below_drew1 | refine below_set ?_ GE101.out | refine below_set ?_ GE103.out) | exact HB.out)⟩⟩
      ·replace c9 := Bool.eq_false_iff.mpr c9
       subst c9
       have H1 : (if ((rd_T47 l0_2 x9_1).kind) = 1 then (lambrequinref13_next.j1 k1 l1 l2 x7_1 x8_1 x9_1 false a0_0 l0_1 l0_2 ((rd_T47 l0_2 x9_1).kind) ((rd_T47 l0_2 x9_1).atom.pred) ((rd_T47 l0_2 x9_1).atom.args) ((rd_T47 l0_2 x9_1).op) ((rd_T47 l0_2 x9_1).l.isVar) ((rd_T47 l0_2 x9_1).l.name) ((rd_T47 l0_2 x9_1).l.val.isSym) ((rd_T47 l0_2 x9_1).l.val.sym) ((rd_T47 l0_2 x9_1).l.val.n) ((rd_T47 l0_2 x9_1).r.isVar) ((rd_T47 l0_2 x9_1).r.name) ((rd_T47 l0_2 x9_1).r.val.isSym) ((rd_T47 l0_2 x9_1).r.val.sym) ((rd_T47 l0_2 x9_1).r.val.n)) else ((lambrequinref13_Terms.f ((rd_T47 l0_2 x9_1).kind) ((rd_T47 l0_2 x9_1).atom.pred) ((rd_T47 l0_2 x9_1).atom.args) ((rd_T47 l0_2 x9_1).op) ((rd_T47 l0_2 x9_1).l.isVar) ((rd_T47 l0_2 x9_1).l.name) ((rd_T47 l0_2 x9_1).l.val.isSym) ((rd_T47 l0_2 x9_1).l.val.sym) ((rd_T47 l0_2 x9_1).l.val.n) ((rd_T47 l0_2 x9_1).r.isVar) ((rd_T47 l0_2 x9_1).r.name) ((rd_T47 l0_2 x9_1).r.val.isSym) ((rd_T47 l0_2 x9_1).r.val.sym) ((rd_T47 l0_2 x9_1).r.val.n)).bind fun t105 => ((lambrequinref13_Known.f k1 t105 l2).bind fun t108 => (lambrequinref13_next.j1 k1 l1 l2 x7_1 x8_1 x9_1 t108 a0_0 l0_1 l0_2 ((rd_T47 l0_2 x9_1).kind) ((rd_T47 l0_2 x9_1).atom.pred) ((rd_T47 l0_2 x9_1).atom.args) ((rd_T47 l0_2 x9_1).op) ((rd_T47 l0_2 x9_1).l.isVar) ((rd_T47 l0_2 x9_1).l.name) ((rd_T47 l0_2 x9_1).l.val.isSym) ((rd_T47 l0_2 x9_1).l.val.sym) ((rd_T47 l0_2 x9_1).l.val.n) ((rd_T47 l0_2 x9_1).r.isVar) ((rd_T47 l0_2 x9_1).r.name) ((rd_T47 l0_2 x9_1).r.val.isSym) ((rd_T47 l0_2 x9_1).r.val.sym) ((rd_T47 l0_2 x9_1).r.val.n))))) = some r := by rw [if_neg (show ¬ (false = true) by decide)] at H; exact H
       clear H
       have H := H1
       clear H1
       have HC14 := Aside0.mk H
       clear H
       have hcz15_0 : wr.cell? ⟨gb101, 0, none⟩ = some (.string a0_0) := (blk_cell BK101.out 0).trans rfl
       have hcz15_1 : wr.cell? ⟨gb101, 1, none⟩ = some (.slice A0_1 l0_1.length c0_1) := (blk_cell BK101.out 1).trans rfl
       have hcz15_2 : wr.cell? ⟨gb101, 2, none⟩ = some (.slice A0_2 l0_2.length c0_2) := (blk_cell BK101.out 2).trans rfl
       have hfz15_0 := blk_frozen BK101.out 0
       have hfz15_1 := blk_frozen BK101.out 1
       have hfz15_2 := blk_frozen BK101.out 2
       have p102 : 0 ≤ (x9_1 : Int) := of_decide_eq_true (by first | (with_reducible assumption) | assumption)
       have q102 : x9_1 < (l0_2.length : Int) := of_decide_eq_true (by first | (with_reducible assumption) | assumption)
       obtain ⟨ad102, A102_2, c102_2, e102, hx102_0, hx102_1, hx102_2, hx102_3, hx102_4, hx102_5, hx102_6, hx102_7, hx102_8, hx102_9, hx102_10, hx102_11, hx102_12, hx102_13, hl102_2, hi102_2⟩ := at_T47 HR0_2.out x9_1 p102 q102
       (try rw [← Nbq8.out] at hx102_4)
       (try rw [← Nbq8.out] at hx102_6)
       (try rw [← Nbq8.out] at hx102_9)
       (try rw [← Nbq8.out] at hx102_11)
       cases e102
       replace hx102_0 := (HB.out.cell (blt_ hx102_0)).trans hx102_0
       replace hx102_1 := (HB.out.cell (blt_ hx102_1)).trans hx102_1
       replace hx102_2 := (HB.out.cell (blt_ hx102_2)).trans hx102_2
       replace hx102_3 := (HB.out.cell (blt_ hx102_3)).trans hx102_3
       replace hx102_4 := (HB.out.cell (blt_ hx102_4)).trans hx102_4
       replace hx102_5 := (HB.out.cell (blt_ hx102_5)).trans hx102_5
       replace hx102_6 := (HB.out.cell (blt_ hx102_6)).trans hx102_6
       replace hx102_7 := (HB.out.cell (blt_ hx102_7)).trans hx102_7
       replace hx102_8 := (HB.out.cell (blt_ hx102_8)).trans hx102_8
       replace hx102_9 := (HB.out.cell (blt_ hx102_9)).trans hx102_9
       replace hx102_10 := (HB.out.cell (blt_ hx102_10)).trans hx102_10
       replace hx102_11 := (HB.out.cell (blt_ hx102_11)).trans hx102_11
       replace hx102_12 := (HB.out.cell (blt_ hx102_12)).trans hx102_12
       replace hx102_13 := (HB.out.cell (blt_ hx102_13)).trans hx102_13
       have HR102_2 := Aside0.mk hi102_2
       have HC102_2 := Aside0.mk hl102_2
       clear hi102_2 hl102_2
       replace p102 := eq_true p102
       replace q102 := eq_true q102
       go_upto_region 8 with (first | ((with_reducible refine gate_dst (N := 10) rfl ?_); refine box_event ?hg (N := 10) ?hd (cs := #[.int .i64 0, .string (⟨#[]⟩ : ByteArray), .slice none 0 0, .string (⟨#[]⟩ : ByteArray), .bool false, .string (⟨#[]⟩ : ByteArray), .bool false, .string (⟨#[]⟩ : ByteArray), .int .i64 0, .bool false, .string (⟨#[]⟩ : ByteArray), .bool false, .string (⟨#[]⟩ : ByteArray), .int .i64 0]) (t := 47) ?hr ?_; (case hd => rfl); (case hg => rfl); (case hr => first | (go_simp; done) | (go_simp; rfl)); intro gb103 hg w16 hbox hb; have n0_ := Aside0.mk (blk_below (g := gb101) (o := .cells #[.string a0_0, .slice A0_1 l0_1.length c0_1, .slice (some ad102) l0_2.length c0_2] 27 (0, 0)) (by (with_reducible repeat (first | refine blk_drewN ?_ _ | refine blk_drew ?_ | refine blk_alloc ?_ _)); exact BK101.out) hb); have n1_ := Aside0.mk (below_step (by repeat (first | (with_reducible first | exact HB.out | apply below_alloc | apply pw_below_drewN | apply below_drew1 | refine below_set ?_ GE101.out) | exact HB.out)) hb); have n2_ := Aside0.mk (hbox); have n3_ := Aside0.mk ((by rw [hg]; exact (below_size (by repeat (first | (with_reducible first | exact HB.out | apply below_alloc | apply pw_below_drewN | apply below_drew1 | refine below_set ?_ GE101.out) | exact HB.out))) : w.heap.size ≤ gb103)); have n4_ := Aside0.mk ((by rw [hg]; exact (below_size (by repeat (first | (with_reducible first | exact HB.out | apply below_alloc | apply pw_below_drewN | apply below_drew1 | refine below_set ?_ GE101.out) | exact HB.out))) : w.heap.size ≤ gb103)); have n5_ := Aside0.mk ((by rw [hg]; exact Nat.ne_of_lt (blk_lt (g := gb101) (o := .cells #[.string a0_0, .slice A0_1 l0_1.length c0_1, .slice (some ad102) l0_2.length c0_2] 27 (0, 0)) (by (with_reducible repeat (first | refine blk_drewN ?_ _ | refine blk_drew ?_ | refine blk_alloc ?_ _)); exact BK101.out)) : gb101 ≠ gb103)); have n6_ := Aside0.mk ((by rw [hg]; exact Nat.ne_of_gt (blk_lt (g := gb101) (o := .cells #[.string a0_0, .slice A0_1 l0_1.length c0_1, .slice (some ad102) l0_2.length c0_2] 27 (0, 0)) (by (with_reducible repeat (first | refine blk_drewN ?_ _ | refine blk_drew ?_ | refine blk_alloc ?_ _)); exact BK101.out)) : gb103 ≠ gb101)); clear BK101; clear HB; have BK101 := n0_; have HB := n1_; have BK103 := n2_; have GW103 := n3_; have GE103 := n4_; have NB101_103 := n5_; have NB103_101 := n6_; clear n0_ n1_ n2_ n3_ n4_ n5_ n6_; clear hb hbox hg; have hnb17 := NB103_101.out; have hnc17 := NB101_103.out; have hcz18_0 : w16.cell? ⟨gb103, 0, none⟩ = some (.int .i64 0) := (blk_cell BK103.out 0).trans rfl; have hcz18_1 : w16.cell? ⟨gb103, 1, none⟩ = some (.string (⟨#[]⟩ : ByteArray)) := (blk_cell BK103.out 1).trans rfl; have hcz18_2 : w16.cell? ⟨gb103, 2, none⟩ = some (.slice none 0 0) := (blk_cell BK103.out 2).trans rfl; have hcz18_3 : w16.cell? ⟨gb103, 3, none⟩ = some (.string (⟨#[]⟩ : ByteArray)) := (blk_cell BK103.out 3).trans rfl; have hcz18_4 : w16.cell? ⟨gb103, 4, none⟩ = some (.bool false) := (blk_cell BK103.out 4).trans rfl; have hcz18_5 : w16.cell? ⟨gb103, 5, none⟩ = some (.string (⟨#[]⟩ : ByteArray)) := (blk_cell BK103.out 5).trans rfl; have hcz18_6 : w16.cell? ⟨gb103, 6, none⟩ = some (.bool false) := (blk_cell BK103.out 6).trans rfl; have hcz18_7 : w16.cell? ⟨gb103, 7, none⟩ = some (.string (⟨#[]⟩ : ByteArray)) := (blk_cell BK103.out 7).trans rfl; have hcz18_8 : w16.cell? ⟨gb103, 8, none⟩ = some (.int .i64 0) := (blk_cell BK103.out 8).trans rfl; have hcz18_9 : w16.cell? ⟨gb103, 9, none⟩ = some (.bool false) := (blk_cell BK103.out 9).trans rfl; have hcz18_10 : w16.cell? ⟨gb103, 10, none⟩ = some (.string (⟨#[]⟩ : ByteArray)) := (blk_cell BK103.out 10).trans rfl; have hcz18_11 : w16.cell? ⟨gb103, 11, none⟩ = some (.bool false) := (blk_cell BK103.out 11).trans rfl; have hcz18_12 : w16.cell? ⟨gb103, 12, none⟩ = some (.string (⟨#[]⟩ : ByteArray)) := (blk_cell BK103.out 12).trans rfl; have hcz18_13 : w16.cell? ⟨gb103, 13, none⟩ = some (.int .i64 0) := (blk_cell BK103.out 13).trans rfl; have hfz18_0 := blk_frozen BK103.out 0; have hfz18_1 := blk_frozen BK103.out 1; have hfz18_2 := blk_frozen BK103.out 2; have hfz18_3 := blk_frozen BK103.out 3; have hfz18_4 := blk_frozen BK103.out 4; have hfz18_5 := blk_frozen BK103.out 5; have hfz18_6 := blk_frozen BK103.out 6; have hfz18_7 := blk_frozen BK103.out 7; have hfz18_8 := blk_frozen BK103.out 8; have hfz18_9 := blk_frozen BK103.out 9; have hfz18_10 := blk_frozen BK103.out 10; have hfz18_11 := blk_frozen BK103.out 11; have hfz18_12 := blk_frozen BK103.out 12; have hfz18_13 := blk_frozen BK103.out 13; have p104 : 0 ≤ (x9_1 : Int) := of_decide_eq_true (by first | (with_reducible assumption) | assumption); have q104 : x9_1 < (l1.length : Int) := of_decide_eq_true (by first | (with_reducible assumption) | assumption); obtain ⟨ad104, e104, hx104_0⟩ := Kd.at_bool HR1.out x9_1 p104 q104; (try rw [← Nbq8.out] at hx104_0); cases e104; have hn104_0 : ad104.block ≠ gb103 := Nat.ne_of_lt (Nat.lt_of_lt_of_le (by have := blt_ hx104_0; first | rwa [add_block] at this | exact this) GW103.out); have hn104_1 : ad104.block ≠ gb103 := Nat.ne_of_lt (Nat.lt_of_lt_of_le (by have := blt_ hx104_0; first | rwa [add_block] at this | exact this) GW103.out); have hn104_2 : ad104.block ≠ gb103 := Nat.ne_of_lt (Nat.lt_of_lt_of_le (by have := blt_ hx104_0; first | rwa [add_block] at this | exact this) GW103.out); have hn104_3 : ad104.block ≠ gb103 := Nat.ne_of_lt (Nat.lt_of_lt_of_le (by have := blt_ hx104_0; first | rwa [add_block] at this | exact this) GW103.out); have hn104_4 : ad104.block ≠ gb103 := Nat.ne_of_lt (Nat.lt_of_lt_of_le (by have := blt_ hx104_0; first | rwa [add_block] at this | exact this) GW103.out); have hn104_5 : ad104.block ≠ gb103 := Nat.ne_of_lt (Nat.lt_of_lt_of_le (by have := blt_ hx104_0; first | rwa [add_block] at this | exact this) GW103.out); have hn104_6 : ad104.block ≠ gb103 := Nat.ne_of_lt (Nat.lt_of_lt_of_le (by have := blt_ hx104_0; first | rwa [add_block] at this | exact this) GW103.out); have hn104_7 : ad104.block ≠ gb103 := Nat.ne_of_lt (Nat.lt_of_lt_of_le (by have := blt_ hx104_0; first | rwa [add_block] at this | exact this) GW103.out); have hn104_8 : ad104.block ≠ gb103 := Nat.ne_of_lt (Nat.lt_of_lt_of_le (by have := blt_ hx104_0; first | rwa [add_block] at this | exact this) GW103.out); have hn104_9 : ad104.block ≠ gb103 := Nat.ne_of_lt (Nat.lt_of_lt_of_le (by have := blt_ hx104_0; first | rwa [add_block] at this | exact this) GW103.out); have hn104_10 : ad104.block ≠ gb103 := Nat.ne_of_lt (Nat.lt_of_lt_of_le (by have := blt_ hx104_0; first | rwa [add_block] at this | exact this) GW103.out); have hn104_11 : ad104.block ≠ gb103 := Nat.ne_of_lt (Nat.lt_of_lt_of_le (by have := blt_ hx104_0; first | rwa [add_block] at this | exact this) GW103.out); have hn104_12 : ad104.block ≠ gb103 := Nat.ne_of_lt (Nat.lt_of_lt_of_le (by have := blt_ hx104_0; first | rwa [add_block] at this | exact this) GW103.out); have hn104_13 : ad104.block ≠ gb103 := Nat.ne_of_lt (Nat.lt_of_lt_of_le (by have := blt_ hx104_0; first | rwa [add_block] at this | exact this) GW103.out); replace hx104_0 := (HB.out.cell (blt_ hx104_0)).trans hx104_0; replace hx104_0 := (cell_far (p := ⟨gb103, 0, none⟩) (by first | (rw [add_block]; exact hn104_0) | (show (Addr.add _ _).block ≠ _; rw [add_block]; exact hn104_0) | exact hn104_0) (.int .i64 ((rd_T47 l0_2 x9_1).kind))).trans hx104_0; replace hx104_0 := (cell_far (p := ⟨gb103, 1, none⟩) (by first | (rw [add_block]; exact hn104_1) | (show (Addr.add _ _).block ≠ _; rw [add_block]; exact hn104_1) | exact hn104_1) (.string ((rd_T47 l0_2 x9_1).atom.pred))).trans hx104_0; replace hx104_0 := (cell_far (p := ⟨gb103, 2, none⟩) (by first | (rw [add_block]; exact hn104_2) | (show (Addr.add _ _).block ≠ _; rw [add_block]; exact hn104_2) | exact hn104_2) (.slice A102_2 ((rd_T47 l0_2 x9_1).atom.args).length c102_2)).trans hx104_0; replace hx104_0 := (cell_far (p := ⟨gb103, 3, none⟩) (by first | (rw [add_block]; exact hn104_3) | (show (Addr.add _ _).block ≠ _; rw [add_block]; exact hn104_3) | exact hn104_3) (.string ((rd_T47 l0_2 x9_1).op))).trans hx104_0; replace hx104_0 := (cell_far (p := ⟨gb103, 4, none⟩) (by first | (rw [add_block]; exact hn104_4) | (show (Addr.add _ _).block ≠ _; rw [add_block]; exact hn104_4) | exact hn104_4) (.bool ((rd_T47 l0_2 x9_1).l.isVar))).trans hx104_0; replace hx104_0 := (cell_far (p := ⟨gb103, 5, none⟩) (by first | (rw [add_block]; exact hn104_5) | (show (Addr.add _ _).block ≠ _; rw [add_block]; exact hn104_5) | exact hn104_5) (.string ((rd_T47 l0_2 x9_1).l.name))).trans hx104_0; replace hx104_0 := (cell_far (p := ⟨gb103, 6, none⟩) (by first | (rw [add_block]; exact hn104_6) | (show (Addr.add _ _).block ≠ _; rw [add_block]; exact hn104_6) | exact hn104_6) (.bool ((rd_T47 l0_2 x9_1).l.val.isSym))).trans hx104_0; replace hx104_0 := (cell_far (p := ⟨gb103, 7, none⟩) (by first | (rw [add_block]; exact hn104_7) | (show (Addr.add _ _).block ≠ _; rw [add_block]; exact hn104_7) | exact hn104_7) (.string ((rd_T47 l0_2 x9_1).l.val.sym))).trans hx104_0; replace hx104_0 := (cell_far (p := ⟨gb103, 8, none⟩) (by first | (rw [add_block]; exact hn104_8) | (show (Addr.add _ _).block ≠ _; rw [add_block]; exact hn104_8) | exact hn104_8) (.int .i64 ((rd_T47 l0_2 x9_1).l.val.n))).trans hx104_0; replace hx104_0 := (cell_far (p := ⟨gb103, 9, none⟩) (by first | (rw [add_block]; exact hn104_9) | (show (Addr.add _ _).block ≠ _; rw [add_block]; exact hn104_9) | exact hn104_9) (.bool ((rd_T47 l0_2 x9_1).r.isVar))).trans hx104_0; replace hx104_0 := (cell_far (p := ⟨gb103, 10, none⟩) (by first | (rw [add_block]; exact hn104_10) | (show (Addr.add _ _).block ≠ _; rw [add_block]; exact hn104_10) | exact hn104_10) (.string ((rd_T47 l0_2 x9_1).r.name))).trans hx104_0; replace hx104_0 := (cell_far (p := ⟨gb103, 11, none⟩) (by first | (rw [add_block]; exact hn104_11) | (show (Addr.add _ _).block ≠ _; rw [add_block]; exact hn104_11) | exact hn104_11) (.bool ((rd_T47 l0_2 x9_1).r.val.isSym))).trans hx104_0; replace hx104_0 := (cell_far (p := ⟨gb103, 12, none⟩) (by first | (rw [add_block]; exact hn104_12) | (show (Addr.add _ _).block ≠ _; rw [add_block]; exact hn104_12) | exact hn104_12) (.string ((rd_T47 l0_2 x9_1).r.val.sym))).trans hx104_0; replace hx104_0 := (cell_far (p := ⟨gb103, 13, none⟩) (by first | (rw [add_block]; exact hn104_13) | (show (Addr.add _ _).block ≠ _; rw [add_block]; exact hn104_13) | exact hn104_13) (.int .i64 ((rd_T47 l0_2 x9_1).r.val.n))).trans hx104_0; clear hn104_0; clear hn104_1; clear hn104_2; clear hn104_3; clear hn104_4; clear hn104_5; clear hn104_6; clear hn104_7; clear hn104_8; clear hn104_9; clear hn104_10; clear hn104_11; clear hn104_12; clear hn104_13; replace p104 := eq_true p104; replace q104 := eq_true q104))
       (try simp only [Act.put, List.setIfInBounds_toArray, List.set_cons_zero, List.set_cons_succ])
       go_cut [36] (fun v36 wc => ∃ (kq : Nat) (x36_13 : Bool), v36 = .bool x36_13 ∧ Aside0 (lambrequinref13_next.j1 kq l1 l2 x7_1 x8_1 x9_1 x36_13 a0_0 l0_1 l0_2 ((rd_T47 l0_2 x9_1).kind) ((rd_T47 l0_2 x9_1).atom.pred) ((rd_T47 l0_2 x9_1).atom.args) ((rd_T47 l0_2 x9_1).op) ((rd_T47 l0_2 x9_1).l.isVar) ((rd_T47 l0_2 x9_1).l.name) ((rd_T47 l0_2 x9_1).l.val.isSym) ((rd_T47 l0_2 x9_1).l.val.sym) ((rd_T47 l0_2 x9_1).l.val.n) ((rd_T47 l0_2 x9_1).r.isVar) ((rd_T47 l0_2 x9_1).r.name) ((rd_T47 l0_2 x9_1).r.val.isSym) ((rd_T47 l0_2 x9_1).r.val.sym) ((rd_T47 l0_2 x9_1).r.val.n) = some r) ∧ Aside0 (kq ≤ k1) ∧ Aside0 (wc.heap[gb101]? = some (.cells #[.string a0_0, (.slice A0_1 l0_1.length c0_1), (.slice (some ad102) l0_2.length c0_2)] 27 (0, 0))) ∧ Aside0 (wc.heap[gb103]? = some (.cells #[.int .i64 ((rd_T47 l0_2 x9_1).kind), .string ((rd_T47 l0_2 x9_1).atom.pred), (.slice A102_2 ((rd_T47 l0_2 x9_1).atom.args).length c102_2), .string ((rd_T47 l0_2 x9_1).op), .bool ((rd_T47 l0_2 x9_1).l.isVar), .string ((rd_T47 l0_2 x9_1).l.name), .bool ((rd_T47 l0_2 x9_1).l.val.isSym), .string ((rd_T47 l0_2 x9_1).l.val.sym), .int .i64 ((rd_T47 l0_2 x9_1).l.val.n), .bool ((rd_T47 l0_2 x9_1).r.isVar), .string ((rd_T47 l0_2 x9_1).r.name), .bool ((rd_T47 l0_2 x9_1).r.val.isSym), .string ((rd_T47 l0_2 x9_1).r.val.sym), .int .i64 ((rd_T47 l0_2 x9_1).r.val.n)] 47 (0, 0))) ∧ Aside0 (Below w.heap.size w wc))
       case first =>
        have H := HC14.out
        clear HC14
        by_cases c19 : ((rd_T47 l0_2 x9_1).kind) = 1
        ·rw [if_pos c19] at H
         have c19b0 : (((rd_T47 l0_2 x9_1).kind) == 1) = true := beq_iff_eq.mpr c19
         have c19b1 : (((rd_T47 l0_2 x9_1).kind) != 1) = false := bne_eq_false_iff_eq.mpr c19
         clear c19
         (first | rw [c19b0] | (simp only [i64_w, i32_w]; rw [c19b0]) | skip)
         have H' := Aside0.mk H
         clear H
         have hnb20 := NB103_101.out
         have hnc20 := NB101_103.out
         have hcz21_0 : w16.cell? ⟨gb103, 0, none⟩ = some (.int .i64 0) := (blk_cell BK103.out 0).trans rfl
         have hcz21_1 : w16.cell? ⟨gb103, 1, none⟩ = some (.string (⟨#[]⟩ : ByteArray)) := (blk_cell BK103.out 1).trans rfl
         have hcz21_2 : w16.cell? ⟨gb103, 2, none⟩ = some (.slice none 0 0) := (blk_cell BK103.out 2).trans rfl
         have hcz21_3 : w16.cell? ⟨gb103, 3, none⟩ = some (.string (⟨#[]⟩ : ByteArray)) := (blk_cell BK103.out 3).trans rfl
         have hcz21_4 : w16.cell? ⟨gb103, 4, none⟩ = some (.bool false) := (blk_cell BK103.out 4).trans rfl
         have hcz21_5 : w16.cell? ⟨gb103, 5, none⟩ = some (.string (⟨#[]⟩ : ByteArray)) := (blk_cell BK103.out 5).trans rfl
         have hcz21_6 : w16.cell? ⟨gb103, 6, none⟩ = some (.bool false) := (blk_cell BK103.out 6).trans rfl
         have hcz21_7 : w16.cell? ⟨gb103, 7, none⟩ = some (.string (⟨#[]⟩ : ByteArray)) := (blk_cell BK103.out 7).trans rfl
         have hcz21_8 : w16.cell? ⟨gb103, 8, none⟩ = some (.int .i64 0) := (blk_cell BK103.out 8).trans rfl
         have hcz21_9 : w16.cell? ⟨gb103, 9, none⟩ = some (.bool false) := (blk_cell BK103.out 9).trans rfl
         have hcz21_10 : w16.cell? ⟨gb103, 10, none⟩ = some (.string (⟨#[]⟩ : ByteArray)) := (blk_cell BK103.out 10).trans rfl
         have hcz21_11 : w16.cell? ⟨gb103, 11, none⟩ = some (.bool false) := (blk_cell BK103.out 11).trans rfl
         have hcz21_12 : w16.cell? ⟨gb103, 12, none⟩ = some (.string (⟨#[]⟩ : ByteArray)) := (blk_cell BK103.out 12).trans rfl
         have hcz21_13 : w16.cell? ⟨gb103, 13, none⟩ = some (.int .i64 0) := (blk_cell BK103.out 13).trans rfl
         have hfz21_0 := blk_frozen BK103.out 0
         have hfz21_1 := blk_frozen BK103.out 1
         have hfz21_2 := blk_frozen BK103.out 2
         have hfz21_3 := blk_frozen BK103.out 3
         have hfz21_4 := blk_frozen BK103.out 4
         have hfz21_5 := blk_frozen BK103.out 5
         have hfz21_6 := blk_frozen BK103.out 6
         have hfz21_7 := blk_frozen BK103.out 7
         have hfz21_8 := blk_frozen BK103.out 8
         have hfz21_9 := blk_frozen BK103.out 9
         have hfz21_10 := blk_frozen BK103.out 10
         have hfz21_11 := blk_frozen BK103.out 11
         have hfz21_12 := blk_frozen BK103.out 12
         have hfz21_13 := blk_frozen BK103.out 13
         go_wp2
         go_meet
         case rel => exact ⟨_, (false), (by first | rfl | (simp; done) | (simp [*]; done)), H', ⟨by have := HK1.out; first | omega | exact Nat.le_refl _⟩, ⟨by repeat (first | (with_reducible first | exact BK101.out | refine blk_drewN ?_ _ | refine blk_drew ?_ | refine blk_alloc ?_ _) | refine blk_far ?_ NB101_103.out _ | exact BK101.out)⟩, ⟨by (with_reducible repeat (first | refine blk_drewN ?_ _ | refine blk_drew ?_ | refine blk_alloc ?_ _)); refine blk_put (cs := #[.int .i64 ((rd_T47 l0_2 x9_1).kind), .string ((rd_T47 l0_2 x9_1).atom.pred), .slice A102_2 ((rd_T47 l0_2 x9_1).atom.args).length c102_2, .string ((rd_T47 l0_2 x9_1).op), .bool ((rd_T47 l0_2 x9_1).l.isVar), .string ((rd_T47 l0_2 x9_1).l.name), .bool ((rd_T47 l0_2 x9_1).l.val.isSym), .string ((rd_T47 l0_2 x9_1).l.val.sym), .int .i64 ((rd_T47 l0_2 x9_1).l.val.n), .bool ((rd_T47 l0_2 x9_1).r.isVar), .string ((rd_T47 l0_2 x9_1).r.name), .bool ((rd_T47 l0_2 x9_1).r.val.isSym), .string ((rd_T47 l0_2 x9_1).r.val.sym), .int .i64 0]) ?_ 13 _ rfl; (with_reducible repeat (first | refine blk_drewN ?_ _ | refine blk_drew ?_ | refine blk_alloc ?_ _)); refine blk_put (cs := #[.int .i64 ((rd_T47 l0_2 x9_1).kind), .string ((rd_T47 l0_2 x9_1).atom.pred), .slice A102_2 ((rd_T47 l0_2 x9_1).atom.args).length c102_2, .string ((rd_T47 l0_2 x9_1).op), .bool ((rd_T47 l0_2 x9_1).l.isVar), .string ((rd_T47 l0_2 x9_1).l.name), .bool ((rd_T47 l0_2 x9_1).l.val.isSym), .string ((rd_T47 l0_2 x9_1).l.val.sym), .int .i64 ((rd_T47 l0_2 x9_1).l.val.n), .bool ((rd_T47 l0_2 x9_1).r.isVar), .string ((rd_T47 l0_2 x9_1).r.name), .bool ((rd_T47 l0_2 x9_1).r.val.isSym), .string (⟨#[]⟩ : ByteArray), .int .i64 0]) ?_ 12 _ rfl; (with_reducible repeat (first | refine blk_drewN ?_ _ | refine blk_drew ?_ | refine blk_alloc ?_ _)); refine blk_put (cs := #[.int .i64 ((rd_T47 l0_2 x9_1).kind), .string ((rd_T47 l0_2 x9_1).atom.pred), .slice A102_2 ((rd_T47 l0_2 x9_1).atom.args).length c102_2, .string ((rd_T47 l0_2 x9_1).op), .bool ((rd_T47 l0_2 x9_1).l.isVar), .string ((rd_T47 l0_2 x9_1).l.name), .bool ((rd_T47 l0_2 x9_1).l.val.isSym), .string ((rd_T47 l0_2 x9_1).l.val.sym), .int .i64 ((rd_T47 l0_2 x9_1).l.val.n), .bool ((rd_T47 l0_2 x9_1).r.isVar), .string ((rd_T47 l0_2 x9_1).r.name), .bool false, .string (⟨#[]⟩ : ByteArray), .int .i64 0]) ?_ 11 _ rfl; (with_reducible repeat (first | refine blk_drewN ?_ _ | refine blk_drew ?_ | refine blk_alloc ?_ _)); refine blk_put (cs := #[.int .i64 ((rd_T47 l0_2 x9_1).kind), .string ((rd_T47 l0_2 x9_1).atom.pred), .slice A102_2 ((rd_T47 l0_2 x9_1).atom.args).length c102_2, .string ((rd_T47 l0_2 x9_1).op), .bool ((rd_T47 l0_2 x9_1).l.isVar), .string ((rd_T47 l0_2 x9_1).l.name), .bool ((rd_T47 l0_2 x9_1).l.val.isSym), .string ((rd_T47 l0_2 x9_1).l.val.sym), .int .i64 ((rd_T47 l0_2 x9_1).l.val.n), .bool ((rd_T47 l0_2 x9_1).r.isVar), .string (⟨#[]⟩ : ByteArray), .bool false, .string (⟨#[]⟩ : ByteArray), .int .i64 0]) ?_ 10 _ rfl; (with_reducible repeat (first | refine blk_drewN ?_ _ | refine blk_drew ?_ | refine blk_alloc ?_ _)); refine blk_put (cs := #[.int .i64 ((rd_T47 l0_2 x9_1).kind), .string ((rd_T47 l0_2 x9_1).atom.pred), .slice A102_2 ((rd_T47 l0_2 x9_1).atom.args).length c102_2, .string ((rd_T47 l0_2 x9_1).op), .bool ((rd_T47 l0_2 x9_1).l.isVar), .string ((rd_T47 l0_2 x9_1).l.name), .bool ((rd_T47 l0_2 x9_1).l.val.isSym), .string ((rd_T47 l0_2 x9_1).l.val.sym), .int .i64 ((rd_T47 l0_2 x9_1).l.val.n), .bool false, .string (⟨#[]⟩ : ByteArray), .bool false, .string (⟨#[]⟩ : ByteArray), .int .i64 0]) ?_ 9 _ rfl; (with_reducible repeat (first | refine blk_drewN ?_ _ | refine blk_drew ?_ | refine blk_alloc ?_ _)); refine blk_put (cs := #[.int .i64 ((rd_T47 l0_2 x9_1).kind), .string ((rd_T47 l0_2 x9_1).atom.pred), .slice A102_2 ((rd_T47 l0_2 x9_1).atom.args).length c102_2, .string ((rd_T47 l0_2 x9_1).op), .bool ((rd_T47 l0_2 x9_1).l.isVar), .string ((rd_T47 l0_2 x9_1).l.name), .bool ((rd_T47 l0_2 x9_1).l.val.isSym), .string ((rd_T47 l0_2 x9_1).l.val.sym), .int .i64 0, .bool false, .string (⟨#[]⟩ : ByteArray), .bool false, .string (⟨#[]⟩ : ByteArray), .int .i64 0]) ?_ 8 _ rfl; (with_reducible repeat (first | refine blk_drewN ?_ _ | refine blk_drew ?_ | refine blk_alloc ?_ _)); refine blk_put (cs := #[.int .i64 ((rd_T47 l0_2 x9_1).kind), .string ((rd_T47 l0_2 x9_1).atom.pred), .slice A102_2 ((rd_T47 l0_2 x9_1).atom.args).length c102_2, .string ((rd_T47 l0_2 x9_1).op), .bool ((rd_T47 l0_2 x9_1).l.isVar), .string ((rd_T47 l0_2 x9_1).l.name), .bool ((rd_T47 l0_2 x9_1).l.val.isSym), .string (⟨#[]⟩ : ByteArray), .int .i64 0, .bool false, .string (⟨#[]⟩ : ByteArray), .bool false, .string (⟨#[]⟩ : ByteArray), .int .i64 0]) ?_ 7 _ rfl; (with_reducible repeat (first | refine blk_drewN ?_ _ | refine blk_drew ?_ | refine blk_alloc ?_ _)); refine blk_put (cs := #[.int .i64 ((rd_T47 l0_2 x9_1).kind), .string ((rd_T47 l0_2 x9_1).atom.pred), .slice A102_2 ((rd_T47 l0_2 x9_1).atom.args).length c102_2, .string ((rd_T47 l0_2 x9_1).op), .bool ((rd_T47 l0_2 x9_1).l.isVar), .string ((rd_T47 l0_2 x9_1).l.name), .bool false, .string (⟨#[]⟩ : ByteArray), .int .i64 0, .bool false, .string (⟨#[]⟩ : ByteArray), .bool false, .string (⟨#[]⟩ : ByteArray), .int .i64 0]) ?_ 6 _ rfl; (with_reducible repeat (first | refine blk_drewN ?_ _ | refine blk_drew ?_ | refine blk_alloc ?_ _)); refine blk_put (cs := #[.int .i64 ((rd_T47 l0_2 x9_1).kind), .string ((rd_T47 l0_2 x9_1).atom.pred), .slice A102_2 ((rd_T47 l0_2 x9_1).atom.args).length c102_2, .string ((rd_T47 l0_2 x9_1).op), .bool ((rd_T47 l0_2 x9_1).l.isVar), .string (⟨#[]⟩ : ByteArray), .bool false, .string (⟨#[]⟩ : ByteArray), .int .i64 0, .bool false, .string (⟨#[]⟩ : ByteArray), .bool false, .string (⟨#[]⟩ : ByteArray), .int .i64 0]) ?_ 5 _ rfl; (with_reducible repeat (first | refine blk_drewN ?_ _ | refine blk_drew ?_ | refine blk_alloc ?_ _)); refine blk_put (cs := #[.int .i64 ((rd_T47 l0_2 x9_1).kind), .string ((rd_T47 l0_2 x9_1).atom.pred), .slice A102_2 ((rd_T47 l0_2 x9_1).atom.args).length c102_2, .string ((rd_T47 l0_2 x9_1).op), .bool false, .string (⟨#[]⟩ : ByteArray), .bool false, .string (⟨#[]⟩ : ByteArray), .int .i64 0, .bool false, .string (⟨#[]⟩ : ByteArray), .bool false, .string (⟨#[]⟩ : ByteArray), .int .i64 0]) ?_ 4 _ rfl; (with_reducible repeat (first | refine blk_drewN ?_ _ | refine blk_drew ?_ | refine blk_alloc ?_ _)); refine blk_put (cs := #[.int .i64 ((rd_T47 l0_2 x9_1).kind), .string ((rd_T47 l0_2 x9_1).atom.pred), .slice A102_2 ((rd_T47 l0_2 x9_1).atom.args).length c102_2, .string (⟨#[]⟩ : ByteArray), .bool false, .string (⟨#[]⟩ : ByteArray), .bool false, .string (⟨#[]⟩ : ByteArray), .int .i64 0, .bool false, .string (⟨#[]⟩ : ByteArray), .bool false, .string (⟨#[]⟩ : ByteArray), .int .i64 0]) ?_ 3 _ rfl; (with_reducible repeat (first | refine blk_drewN ?_ _ | refine blk_drew ?_ | refine blk_alloc ?_ _)); refine blk_put (cs := #[.int .i64 ((rd_T47 l0_2 x9_1).kind), .string ((rd_T47 l0_2 x9_1).atom.pred), .slice none 0 0, .string (⟨#[]⟩ : ByteArray), .bool false, .string (⟨#[]⟩ : ByteArray), .bool false, .string (⟨#[]⟩ : ByteArray), .int .i64 0, .bool false, .string (⟨#[]⟩ : ByteArray), .bool false, .string (⟨#[]⟩ : ByteArray), .int .i64 0]) ?_ 2 _ rfl; (with_reducible repeat (first | refine blk_drewN ?_ _ | refine blk_drew ?_ | refine blk_alloc ?_ _)); refine blk_put (cs := #[.int .i64 ((rd_T47 l0_2 x9_1).kind), .string (⟨#[]⟩ : ByteArray), .slice none 0 0, .string (⟨#[]⟩ : ByteArray), .bool false, .string (⟨#[]⟩ : ByteArray), .bool false, .string (⟨#[]⟩ : ByteArray), .int .i64 0, .bool false, .string (⟨#[]⟩ : ByteArray), .bool false, .string (⟨#[]⟩ : ByteArray), .int .i64 0]) ?_ 1 _ rfl; (with_reducible repeat (first | refine blk_drewN ?_ _ | refine blk_drew ?_ | refine blk_alloc ?_ _)); refine blk_put (cs := #[.int .i64 0, .string (⟨#[]⟩ : ByteArray), .slice none 0 0, .string (⟨#[]⟩ : ByteArray), .bool false, .string (⟨#[]⟩ : ByteArray), .bool false, .string (⟨#[]⟩ : ByteArray), .int .i64 0, .bool false, .string (⟨#[]⟩ : ByteArray), .bool false, .string (⟨#[]⟩ : ByteArray), .int .i64 0]) ?_ 0 _ rfl; (with_reducible repeat (first | refine blk_drewN ?_ _ | refine blk_drew ?_ | refine blk_alloc ?_ _)); exact BK103.out⟩, ⟨by repeat (first | (with_reducible first | exact HB.out | apply below_alloc | apply pw_below_drewN | apply below_drew1 | refine below_set ?_ GE101.out | refine below_set ?_ GE103.out) | exact HB.out)⟩⟩
        ·rw [if_neg c19] at H
         have c19b0 : (((rd_T47 l0_2 x9_1).kind) == 1) = false := beq_eq_false_iff_ne.mpr c19
         have c19b1 : (((rd_T47 l0_2 x9_1).kind) != 1) = true := bne_iff_ne.mpr c19
         (first | rw [c19b0] | (simp only [i64_w, i32_w]; rw [c19b0]) | skip)
         replace H := Option.bind_eq_some_iff.mp H
         obtain ⟨t105, A220, H⟩ := H
         replace H : ((lambrequinref13_Known.f k1 t105 l2).bind fun t108 => (lambrequinref13_next.j1 k1 l1 l2 x7_1 x8_1 x9_1 t108 a0_0 l0_1 l0_2 ((rd_T47 l0_2 x9_1).kind) ((rd_T47 l0_2 x9_1).atom.pred) ((rd_T47 l0_2 x9_1).atom.args) ((rd_T47 l0_2 x9_1).op) ((rd_T47 l0_2 x9_1).l.isVar) ((rd_T47 l0_2 x9_1).l.name) ((rd_T47 l0_2 x9_1).l.val.isSym) ((rd_T47 l0_2 x9_1).l.val.sym) ((rd_T47 l0_2 x9_1).l.val.n) ((rd_T47 l0_2 x9_1).r.isVar) ((rd_T47 l0_2 x9_1).r.name) ((rd_T47 l0_2 x9_1).r.val.isSym) ((rd_T47 l0_2 x9_1).r.val.sym) ((rd_T47 l0_2 x9_1).r.val.n))) = some r := H
         have A22 := Aside0.mk A220
         clear A220
         replace H := Option.bind_eq_some_iff.mp H
         obtain ⟨t108, A230, H⟩ := H
         replace H : (lambrequinref13_next.j1 k1 l1 l2 x7_1 x8_1 x9_1 t108 a0_0 l0_1 l0_2 ((rd_T47 l0_2 x9_1).kind) ((rd_T47 l0_2 x9_1).atom.pred) ((rd_T47 l0_2 x9_1).atom.args) ((rd_T47 l0_2 x9_1).op) ((rd_T47 l0_2 x9_1).l.isVar) ((rd_T47 l0_2 x9_1).l.name) ((rd_T47 l0_2 x9_1).l.val.isSym) ((rd_T47 l0_2 x9_1).l.val.sym) ((rd_T47 l0_2 x9_1).l.val.n) ((rd_T47 l0_2 x9_1).r.isVar) ((rd_T47 l0_2 x9_1).r.name) ((rd_T47 l0_2 x9_1).r.val.isSym) ((rd_T47 l0_2 x9_1).r.val.sym) ((rd_T47 l0_2 x9_1).r.val.n)) = some r := H
         have A23 := Aside0.mk A230
         clear A230
         have H' := Aside0.mk H
         clear H
         have hnb24 := NB103_101.out
         have hnc24 := NB101_103.out
         have hcz25_0 : w16.cell? ⟨gb103, 0, none⟩ = some (.int .i64 0) := (blk_cell BK103.out 0).trans rfl
         have hcz25_1 : w16.cell? ⟨gb103, 1, none⟩ = some (.string (⟨#[]⟩ : ByteArray)) := (blk_cell BK103.out 1).trans rfl
         have hcz25_2 : w16.cell? ⟨gb103, 2, none⟩ = some (.slice none 0 0) := (blk_cell BK103.out 2).trans rfl
         have hcz25_3 : w16.cell? ⟨gb103, 3, none⟩ = some (.string (⟨#[]⟩ : ByteArray)) := (blk_cell BK103.out 3).trans rfl
         have hcz25_4 : w16.cell? ⟨gb103, 4, none⟩ = some (.bool false) := (blk_cell BK103.out 4).trans rfl
         have hcz25_5 : w16.cell? ⟨gb103, 5, none⟩ = some (.string (⟨#[]⟩ : ByteArray)) := (blk_cell BK103.out 5).trans rfl
         have hcz25_6 : w16.cell? ⟨gb103, 6, none⟩ = some (.bool false) := (blk_cell BK103.out 6).trans rfl
         have hcz25_7 : w16.cell? ⟨gb103, 7, none⟩ = some (.string (⟨#[]⟩ : ByteArray)) := (blk_cell BK103.out 7).trans rfl
         have hcz25_8 : w16.cell? ⟨gb103, 8, none⟩ = some (.int .i64 0) := (blk_cell BK103.out 8).trans rfl
         have hcz25_9 : w16.cell? ⟨gb103, 9, none⟩ = some (.bool false) := (blk_cell BK103.out 9).trans rfl
         have hcz25_10 : w16.cell? ⟨gb103, 10, none⟩ = some (.string (⟨#[]⟩ : ByteArray)) := (blk_cell BK103.out 10).trans rfl
         have hcz25_11 : w16.cell? ⟨gb103, 11, none⟩ = some (.bool false) := (blk_cell BK103.out 11).trans rfl
         have hcz25_12 : w16.cell? ⟨gb103, 12, none⟩ = some (.string (⟨#[]⟩ : ByteArray)) := (blk_cell BK103.out 12).trans rfl
         have hcz25_13 : w16.cell? ⟨gb103, 13, none⟩ = some (.int .i64 0) := (blk_cell BK103.out 13).trans rfl
         have hfz25_0 := blk_frozen BK103.out 0
         have hfz25_1 := blk_frozen BK103.out 1
         have hfz25_2 := blk_frozen BK103.out 2
         have hfz25_3 := blk_frozen BK103.out 3
         have hfz25_4 := blk_frozen BK103.out 4
         have hfz25_5 := blk_frozen BK103.out 5
         have hfz25_6 := blk_frozen BK103.out 6
         have hfz25_7 := blk_frozen BK103.out 7
         have hfz25_8 := blk_frozen BK103.out 8
         have hfz25_9 := blk_frozen BK103.out 9
         have hfz25_10 := blk_frozen BK103.out 10
         have hfz25_11 := blk_frozen BK103.out 11
         have hfz25_12 := blk_frozen BK103.out 12
         have hfz25_13 := blk_frozen BK103.out 13
         go_wp2_with (first | (go_at_call 24; (with_reducible refine (lambrequinref13_Terms.calls ((rd_T47 l0_2 x9_1).kind) ((rd_T47 l0_2 x9_1).atom.pred) (fun k_ => k_ < w.heap.size) _ _ ((rd_T47 l0_2 x9_1).atom.args) ((rd_T47 l0_2 x9_1).op) ((rd_T47 l0_2 x9_1).l.isVar) ((rd_T47 l0_2 x9_1).l.name) ((rd_T47 l0_2 x9_1).l.val.isSym) ((rd_T47 l0_2 x9_1).l.val.sym) ((rd_T47 l0_2 x9_1).l.val.n) ((rd_T47 l0_2 x9_1).r.isVar) ((rd_T47 l0_2 x9_1).r.name) ((rd_T47 l0_2 x9_1).r.val.isSym) ((rd_T47 l0_2 x9_1).r.val.sym) ((rd_T47 l0_2 x9_1).r.val.n) t105 _ ?side1 A22.out).mono ?_); (case side1 => exact Kd.V_mk HC102_2.out (Kd.F_below (Kd.C_F k45_heap HR102_2.out) (by repeat (first | (with_reducible first | exact HB.out | apply below_alloc | apply pw_below_drewN | apply below_drew1 | refine below_set ?_ GE101.out | refine below_set ?_ GE103.out) | exact HB.out)))); rintro e w26 ⟨v106, rfl, ho0, hb⟩; have n0_ := Aside0.mk (Kd.V_lower (Kd.V_mono (ok' := fun k_ => k_ ≠ gb101 ∧ k_ ≠ gb103) ho0 (fun k_ hk_ => ⟨Or.elim hk_ (fun hs_ => fun e_ => Nat.not_le.2 hs_ (by rw [e_]; exact GW101.out)) (fun hn_ => (Kd.freshB (g := gb101) (o := .cells #[.string a0_0, .slice A0_1 l0_1.length c0_1, .slice (some ad102) l0_2.length c0_2] 27 (0, 0)) (by repeat (first | (with_reducible first | exact BK101.out | refine blk_drewN ?_ _ | refine blk_drew ?_ | refine blk_alloc ?_ _) | refine blk_far ?_ NB101_103.out _ | exact BK101.out)) k_ hn_)), Or.elim hk_ (fun hs_ => fun e_ => Nat.not_le.2 hs_ (by rw [e_]; exact GW103.out)) (fun hn_ => (Kd.freshB (g := gb103) (o := .cells #[.int .i64 ((rd_T47 l0_2 x9_1).kind), .string ((rd_T47 l0_2 x9_1).atom.pred), .slice A102_2 ((rd_T47 l0_2 x9_1).atom.args).length c102_2, .string ((rd_T47 l0_2 x9_1).op), .bool ((rd_T47 l0_2 x9_1).l.isVar), .string ((rd_T47 l0_2 x9_1).l.name), .bool ((rd_T47 l0_2 x9_1).l.val.isSym), .string ((rd_T47 l0_2 x9_1).l.val.sym), .int .i64 ((rd_T47 l0_2 x9_1).l.val.n), .bool ((rd_T47 l0_2 x9_1).r.isVar), .string ((rd_T47 l0_2 x9_1).r.name), .bool ((rd_T47 l0_2 x9_1).r.val.isSym), .string ((rd_T47 l0_2 x9_1).r.val.sym), .int .i64 ((rd_T47 l0_2 x9_1).r.val.n)] 47 (0, 0)) (by (with_reducible repeat (first | refine blk_drewN ?_ _ | refine blk_drew ?_ | refine blk_alloc ?_ _)); refine blk_put (cs := #[.int .i64 ((rd_T47 l0_2 x9_1).kind), .string ((rd_T47 l0_2 x9_1).atom.pred), .slice A102_2 ((rd_T47 l0_2 x9_1).atom.args).length c102_2, .string ((rd_T47 l0_2 x9_1).op), .bool ((rd_T47 l0_2 x9_1).l.isVar), .string ((rd_T47 l0_2 x9_1).l.name), .bool ((rd_T47 l0_2 x9_1).l.val.isSym), .string ((rd_T47 l0_2 x9_1).l.val.sym), .int .i64 ((rd_T47 l0_2 x9_1).l.val.n), .bool ((rd_T47 l0_2 x9_1).r.isVar), .string ((rd_T47 l0_2 x9_1).r.name), .bool ((rd_T47 l0_2 x9_1).r.val.isSym), .string ((rd_T47 l0_2 x9_1).r.val.sym), .int .i64 0]) ?_ 13 _ rfl; (with_reducible repeat (first | refine blk_drewN ?_ _ | refine blk_drew ?_ | refine blk_alloc ?_ _)); refine blk_put (cs := #[.int .i64 ((rd_T47 l0_2 x9_1).kind), .string ((rd_T47 l0_2 x9_1).atom.pred), .slice A102_2 ((rd_T47 l0_2 x9_1).atom.args).length c102_2, .string ((rd_T47 l0_2 x9_1).op), .bool ((rd_T47 l0_2 x9_1).l.isVar), .string ((rd_T47 l0_2 x9_1).l.name), .bool ((rd_T47 l0_2 x9_1).l.val.isSym), .string ((rd_T47 l0_2 x9_1).l.val.sym), .int .i64 ((rd_T47 l0_2 x9_1).l.val.n), .bool ((rd_T47 l0_2 x9_1).r.isVar), .string ((rd_T47 l0_2 x9_1).r.name), .bool ((rd_T47 l0_2 x9_1).r.val.isSym), .string (⟨#[]⟩ : ByteArray), .int .i64 0]) ?_ 12 _ rfl; (with_reducible repeat (first | refine blk_drewN ?_ _ | refine blk_drew ?_ | refine blk_alloc ?_ _)); refine blk_put (cs := #[.int .i64 ((rd_T47 l0_2 x9_1).kind), .string ((rd_T47 l0_2 x9_1).atom.pred), .slice A102_2 ((rd_T47 l0_2 x9_1).atom.args).length c102_2, .string ((rd_T47 l0_2 x9_1).op), .bool ((rd_T47 l0_2 x9_1).l.isVar), .string ((rd_T47 l0_2 x9_1).l.name), .bool ((rd_T47 l0_2 x9_1).l.val.isSym), .string ((rd_T47 l0_2 x9_1).l.val.sym), .int .i64 ((rd_T47 l0_2 x9_1).l.val.n), .bool ((rd_T47 l0_2 x9_1).r.isVar), .string ((rd_T47 l0_2 x9_1).r.name), .bool false, .string (⟨#[]⟩ : ByteArray), .int .i64 0]) ?_ 11 _ rfl; (with_reducible repeat (first | refine blk_drewN ?_ _ | refine blk_drew ?_ | refine blk_alloc ?_ _)); refine blk_put (cs := #[.int .i64 ((rd_T47 l0_2 x9_1).kind), .string ((rd_T47 l0_2 x9_1).atom.pred), .slice A102_2 ((rd_T47 l0_2 x9_1).atom.args).length c102_2, .string ((rd_T47 l0_2 x9_1).op), .bool ((rd_T47 l0_2 x9_1).l.isVar), .string ((rd_T47 l0_2 x9_1).l.name), .bool ((rd_T47 l0_2 x9_1).l.val.isSym), .string ((rd_T47 l0_2 x9_1).l.val.sym), .int .i64 ((rd_T47 l0_2 x9_1).l.val.n), .bool ((rd_T47 l0_2 x9_1).r.isVar), .string (⟨#[]⟩ : ByteArray), .bool false, .string (⟨#[]⟩ : ByteArray), .int .i64 0]) ?_ 10 _ rfl; (with_reducible repeat (first | refine blk_drewN ?_ _ | refine blk_drew ?_ | refine blk_alloc ?_ _)); refine blk_put (cs := #[.int .i64 ((rd_T47 l0_2 x9_1).kind), .string ((rd_T47 l0_2 x9_1).atom.pred), .slice A102_2 ((rd_T47 l0_2 x9_1).atom.args).length c102_2, .string ((rd_T47 l0_2 x9_1).op), .bool ((rd_T47 l0_2 x9_1).l.isVar), .string ((rd_T47 l0_2 x9_1).l.name), .bool ((rd_T47 l0_2 x9_1).l.val.isSym), .string ((rd_T47 l0_2 x9_1).l.val.sym), .int .i64 ((rd_T47 l0_2 x9_1).l.val.n), .bool false, .string (⟨#[]⟩ : ByteArray), .bool false, .string (⟨#[]⟩ : ByteArray), .int .i64 0]) ?_ 9 _ rfl; (with_reducible repeat (first | refine blk_drewN ?_ _ | refine blk_drew ?_ | refine blk_alloc ?_ _)); refine blk_put (cs := #[.int .i64 ((rd_T47 l0_2 x9_1).kind), .string ((rd_T47 l0_2 x9_1).atom.pred), .slice A102_2 ((rd_T47 l0_2 x9_1).atom.args).length c102_2, .string ((rd_T47 l0_2 x9_1).op), .bool ((rd_T47 l0_2 x9_1).l.isVar), .string ((rd_T47 l0_2 x9_1).l.name), .bool ((rd_T47 l0_2 x9_1).l.val.isSym), .string ((rd_T47 l0_2 x9_1).l.val.sym), .int .i64 0, .bool false, .string (⟨#[]⟩ : ByteArray), .bool false, .string (⟨#[]⟩ : ByteArray), .int .i64 0]) ?_ 8 _ rfl; (with_reducible repeat (first | refine blk_drewN ?_ _ | refine blk_drew ?_ | refine blk_alloc ?_ _)); refine blk_put (cs := #[.int .i64 ((rd_T47 l0_2 x9_1).kind), .string ((rd_T47 l0_2 x9_1).atom.pred), .slice A102_2 ((rd_T47 l0_2 x9_1).atom.args).length c102_2, .string ((rd_T47 l0_2 x9_1).op), .bool ((rd_T47 l0_2 x9_1).l.isVar), .string ((rd_T47 l0_2 x9_1).l.name), .bool ((rd_T47 l0_2 x9_1).l.val.isSym), .string (⟨#[]⟩ : ByteArray), .int .i64 0, .bool false, .string (⟨#[]⟩ : ByteArray), .bool false, .string (⟨#[]⟩ : ByteArray), .int .i64 0]) ?_ 7 _ rfl; (with_reducible repeat (first | refine blk_drewN ?_ _ | refine blk_drew ?_ | refine blk_alloc ?_ _)); refine blk_put (cs := #[.int .i64 ((rd_T47 l0_2 x9_1).kind), .string ((rd_T47 l0_2 x9_1).atom.pred), .slice A102_2 ((rd_T47 l0_2 x9_1).atom.args).length c102_2, .string ((rd_T47 l0_2 x9_1).op), .bool ((rd_T47 l0_2 x9_1).l.isVar), .string ((rd_T47 l0_2 x9_1).l.name), .bool false, .string (⟨#[]⟩ : ByteArray), .int .i64 0, .bool false, .string (⟨#[]⟩ : ByteArray), .bool false, .string (⟨#[]⟩ : ByteArray), .int .i64 0]) ?_ 6 _ rfl; (with_reducible repeat (first | refine blk_drewN ?_ _ | refine blk_drew ?_ | refine blk_alloc ?_ _)); refine blk_put (cs := #[.int .i64 ((rd_T47 l0_2 x9_1).kind), .string ((rd_T47 l0_2 x9_1).atom.pred), .slice A102_2 ((rd_T47 l0_2 x9_1).atom.args).length c102_2, .string ((rd_T47 l0_2 x9_1).op), .bool ((rd_T47 l0_2 x9_1).l.isVar), .string (⟨#[]⟩ : ByteArray), .bool false, .string (⟨#[]⟩ : ByteArray), .int .i64 0, .bool false, .string (⟨#[]⟩ : ByteArray), .bool false, .string (⟨#[]⟩ : ByteArray), .int .i64 0]) ?_ 5 _ rfl; (with_reducible repeat (first | refine blk_drewN ?_ _ | refine blk_drew ?_ | refine blk_alloc ?_ _)); refine blk_put (cs := #[.int .i64 ((rd_T47 l0_2 x9_1).kind), .string ((rd_T47 l0_2 x9_1).atom.pred), .slice A102_2 ((rd_T47 l0_2 x9_1).atom.args).length c102_2, .string ((rd_T47 l0_2 x9_1).op), .bool false, .string (⟨#[]⟩ : ByteArray), .bool false, .string (⟨#[]⟩ : ByteArray), .int .i64 0, .bool false, .string (⟨#[]⟩ : ByteArray), .bool false, .string (⟨#[]⟩ : ByteArray), .int .i64 0]) ?_ 4 _ rfl; (with_reducible repeat (first | refine blk_drewN ?_ _ | refine blk_drew ?_ | refine blk_alloc ?_ _)); refine blk_put (cs := #[.int .i64 ((rd_T47 l0_2 x9_1).kind), .string ((rd_T47 l0_2 x9_1).atom.pred), .slice A102_2 ((rd_T47 l0_2 x9_1).atom.args).length c102_2, .string (⟨#[]⟩ : ByteArray), .bool false, .string (⟨#[]⟩ : ByteArray), .bool false, .string (⟨#[]⟩ : ByteArray), .int .i64 0, .bool false, .string (⟨#[]⟩ : ByteArray), .bool false, .string (⟨#[]⟩ : ByteArray), .int .i64 0]) ?_ 3 _ rfl; (with_reducible repeat (first | refine blk_drewN ?_ _ | refine blk_drew ?_ | refine blk_alloc ?_ _)); refine blk_put (cs := #[.int .i64 ((rd_T47 l0_2 x9_1).kind), .string ((rd_T47 l0_2 x9_1).atom.pred), .slice none 0 0, .string (⟨#[]⟩ : ByteArray), .bool false, .string (⟨#[]⟩ : ByteArray), .bool false, .string (⟨#[]⟩ : ByteArray), .int .i64 0, .bool false, .string (⟨#[]⟩ : ByteArray), .bool false, .string (⟨#[]⟩ : ByteArray), .int .i64 0]) ?_ 2 _ rfl; (with_reducible repeat (first | refine blk_drewN ?_ _ | refine blk_drew ?_ | refine blk_alloc ?_ _)); refine blk_put (cs := #[.int .i64 ((rd_T47 l0_2 x9_1).kind), .string (⟨#[]⟩ : ByteArray), .slice none 0 0, .string (⟨#[]⟩ : ByteArray), .bool false, .string (⟨#[]⟩ : ByteArray), .bool false, .string (⟨#[]⟩ : ByteArray), .int .i64 0, .bool false, .string (⟨#[]⟩ : ByteArray), .bool false, .string (⟨#[]⟩ : ByteArray), .int .i64 0]) ?_ 1 _ rfl; (with_reducible repeat (first | refine blk_drewN ?_ _ | refine blk_drew ?_ | refine blk_alloc ?_ _)); refine blk_put (cs := #[.int .i64 0, .string (⟨#[]⟩ : ByteArray), .slice none 0 0, .string (⟨#[]⟩ : ByteArray), .bool false, .string (⟨#[]⟩ : ByteArray), .bool false, .string (⟨#[]⟩ : ByteArray), .int .i64 0, .bool false, .string (⟨#[]⟩ : ByteArray), .bool false, .string (⟨#[]⟩ : ByteArray), .int .i64 0]) ?_ 0 _ rfl; (with_reducible repeat (first | refine blk_drewN ?_ _ | refine blk_drew ?_ | refine blk_alloc ?_ _)); exact BK103.out) k_ hn_))⟩)) (below_size (by repeat (first | (with_reducible first | exact HB.out | apply below_alloc | apply pw_below_drewN | apply below_drew1 | refine below_set ?_ GE101.out | refine below_set ?_ GE103.out) | exact HB.out)))); have n1_ := Aside0.mk (blk_below (g := gb101) (o := .cells #[.string a0_0, .slice A0_1 l0_1.length c0_1, .slice (some ad102) l0_2.length c0_2] 27 (0, 0)) (by repeat (first | (with_reducible first | exact BK101.out | refine blk_drewN ?_ _ | refine blk_drew ?_ | refine blk_alloc ?_ _) | refine blk_far ?_ NB101_103.out _ | exact BK101.out)) hb); have n2_ := Aside0.mk (blk_below (g := gb103) (o := .cells #[.int .i64 ((rd_T47 l0_2 x9_1).kind), .string ((rd_T47 l0_2 x9_1).atom.pred), .slice A102_2 ((rd_T47 l0_2 x9_1).atom.args).length c102_2, .string ((rd_T47 l0_2 x9_1).op), .bool ((rd_T47 l0_2 x9_1).l.isVar), .string ((rd_T47 l0_2 x9_1).l.name), .bool ((rd_T47 l0_2 x9_1).l.val.isSym), .string ((rd_T47 l0_2 x9_1).l.val.sym), .int .i64 ((rd_T47 l0_2 x9_1).l.val.n), .bool ((rd_T47 l0_2 x9_1).r.isVar), .string ((rd_T47 l0_2 x9_1).r.name), .bool ((rd_T47 l0_2 x9_1).r.val.isSym), .string ((rd_T47 l0_2 x9_1).r.val.sym), .int .i64 ((rd_T47 l0_2 x9_1).r.val.n)] 47 (0, 0)) (by (with_reducible repeat (first | refine blk_drewN ?_ _ | refine blk_drew ?_ | refine blk_alloc ?_ _)); refine blk_put (cs := #[.int .i64 ((rd_T47 l0_2 x9_1).kind), .string ((rd_T47 l0_2 x9_1).atom.pred), .slice A102_2 ((rd_T47 l0_2 x9_1).atom.args).length c102_2, .string ((rd_T47 l0_2 x9_1).op), .bool ((rd_T47 l0_2 x9_1).l.isVar), .string ((rd_T47 l0_2 x9_1).l.name), .bool ((rd_T47 l0_2 x9_1).l.val.isSym), .string ((rd_T47 l0_2 x9_1).l.val.sym), .int .i64 ((rd_T47 l0_2 x9_1).l.val.n), .bool ((rd_T47 l0_2 x9_1).r.isVar), .string ((rd_T47 l0_2 x9_1).r.name), .bool ((rd_T47 l0_2 x9_1).r.val.isSym), .string ((rd_T47 l0_2 x9_1).r.val.sym), .int .i64 0]) ?_ 13 _ rfl; (with_reducible repeat (first | refine blk_drewN ?_ _ | refine blk_drew ?_ | refine blk_alloc ?_ _)); refine blk_put (cs := #[.int .i64 ((rd_T47 l0_2 x9_1).kind), .string ((rd_T47 l0_2 x9_1).atom.pred), .slice A102_2 ((rd_T47 l0_2 x9_1).atom.args).length c102_2, .string ((rd_T47 l0_2 x9_1).op), .bool ((rd_T47 l0_2 x9_1).l.isVar), .string ((rd_T47 l0_2 x9_1).l.name), .bool ((rd_T47 l0_2 x9_1).l.val.isSym), .string ((rd_T47 l0_2 x9_1).l.val.sym), .int .i64 ((rd_T47 l0_2 x9_1).l.val.n), .bool ((rd_T47 l0_2 x9_1).r.isVar), .string ((rd_T47 l0_2 x9_1).r.name), .bool ((rd_T47 l0_2 x9_1).r.val.isSym), .string (⟨#[]⟩ : ByteArray), .int .i64 0]) ?_ 12 _ rfl; (with_reducible repeat (first | refine blk_drewN ?_ _ | refine blk_drew ?_ | refine blk_alloc ?_ _)); refine blk_put (cs := #[.int .i64 ((rd_T47 l0_2 x9_1).kind), .string ((rd_T47 l0_2 x9_1).atom.pred), .slice A102_2 ((rd_T47 l0_2 x9_1).atom.args).length c102_2, .string ((rd_T47 l0_2 x9_1).op), .bool ((rd_T47 l0_2 x9_1).l.isVar), .string ((rd_T47 l0_2 x9_1).l.name), .bool ((rd_T47 l0_2 x9_1).l.val.isSym), .string ((rd_T47 l0_2 x9_1).l.val.sym), .int .i64 ((rd_T47 l0_2 x9_1).l.val.n), .bool ((rd_T47 l0_2 x9_1).r.isVar), .string ((rd_T47 l0_2 x9_1).r.name), .bool false, .string (⟨#[]⟩ : ByteArray), .int .i64 0]) ?_ 11 _ rfl; (with_reducible repeat (first | refine blk_drewN ?_ _ | refine blk_drew ?_ | refine blk_alloc ?_ _)); refine blk_put (cs := #[.int .i64 ((rd_T47 l0_2 x9_1).kind), .string ((rd_T47 l0_2 x9_1).atom.pred), .slice A102_2 ((rd_T47 l0_2 x9_1).atom.args).length c102_2, .string ((rd_T47 l0_2 x9_1).op), .bool ((rd_T47 l0_2 x9_1).l.isVar), .string ((rd_T47 l0_2 x9_1).l.name), .bool ((rd_T47 l0_2 x9_1).l.val.isSym), .string ((rd_T47 l0_2 x9_1).l.val.sym), .int .i64 ((rd_T47 l0_2 x9_1).l.val.n), .bool ((rd_T47 l0_2 x9_1).r.isVar), .string (⟨#[]⟩ : ByteArray), .bool false, .string (⟨#[]⟩ : ByteArray), .int .i64 0]) ?_ 10 _ rfl; (with_reducible repeat (first | refine blk_drewN ?_ _ | refine blk_drew ?_ | refine blk_alloc ?_ _)); refine blk_put (cs := #[.int .i64 ((rd_T47 l0_2 x9_1).kind), .string ((rd_T47 l0_2 x9_1).atom.pred), .slice A102_2 ((rd_T47 l0_2 x9_1).atom.args).length c102_2, .string ((rd_T47 l0_2 x9_1).op), .bool ((rd_T47 l0_2 x9_1).l.isVar), .string ((rd_T47 l0_2 x9_1).l.name), .bool ((rd_T47 l0_2 x9_1).l.val.isSym), .string ((rd_T47 l0_2 x9_1).l.val.sym), .int .i64 ((rd_T47 l0_2 x9_1).l.val.n), .bool false, .string (⟨#[]⟩ : ByteArray), .bool false, .string (⟨#[]⟩ : ByteArray), .int .i64 0]) ?_ 9 _ rfl; (with_reducible repeat (first | refine blk_drewN ?_ _ | refine blk_drew ?_ | refine blk_alloc ?_ _)); refine blk_put (cs := #[.int .i64 ((rd_T47 l0_2 x9_1).kind), .string ((rd_T47 l0_2 x9_1).atom.pred), .slice A102_2 ((rd_T47 l0_2 x9_1).atom.args).length c102_2, .string ((rd_T47 l0_2 x9_1).op), .bool ((rd_T47 l0_2 x9_1).l.isVar), .string ((rd_T47 l0_2 x9_1).l.name), .bool ((rd_T47 l0_2 x9_1).l.val.isSym), .string ((rd_T47 l0_2 x9_1).l.val.sym), .int .i64 0, .bool false, .string (⟨#[]⟩ : ByteArray), .bool false, .string (⟨#[]⟩ : ByteArray), .int .i64 0]) ?_ 8 _ rfl; (with_reducible repeat (first | refine blk_drewN ?_ _ | refine blk_drew ?_ | refine blk_alloc ?_ _)); refine blk_put (cs := #[.int .i64 ((rd_T47 l0_2 x9_1).kind), .string ((rd_T47 l0_2 x9_1).atom.pred), .slice A102_2 ((rd_T47 l0_2 x9_1).atom.args).length c102_2, .string ((rd_T47 l0_2 x9_1).op), .bool ((rd_T47 l0_2 x9_1).l.isVar), .string ((rd_T47 l0_2 x9_1).l.name), .bool ((rd_T47 l0_2 x9_1).l.val.isSym), .string (⟨#[]⟩ : ByteArray), .int .i64 0, .bool false, .string (⟨#[]⟩ : ByteArray), .bool false, .string (⟨#[]⟩ : ByteArray), .int .i64 0]) ?_ 7 _ rfl; (with_reducible repeat (first | refine blk_drewN ?_ _ | refine blk_drew ?_ | refine blk_alloc ?_ _)); refine blk_put (cs := #[.int .i64 ((rd_T47 l0_2 x9_1).kind), .string ((rd_T47 l0_2 x9_1).atom.pred), .slice A102_2 ((rd_T47 l0_2 x9_1).atom.args).length c102_2, .string ((rd_T47 l0_2 x9_1).op), .bool ((rd_T47 l0_2 x9_1).l.isVar), .string ((rd_T47 l0_2 x9_1).l.name), .bool false, .string (⟨#[]⟩ : ByteArray), .int .i64 0, .bool false, .string (⟨#[]⟩ : ByteArray), .bool false, .string (⟨#[]⟩ : ByteArray), .int .i64 0]) ?_ 6 _ rfl; (with_reducible repeat (first | refine blk_drewN ?_ _ | refine blk_drew ?_ | refine blk_alloc ?_ _)); refine blk_put (cs := #[.int .i64 ((rd_T47 l0_2 x9_1).kind), .string ((rd_T47 l0_2 x9_1).atom.pred), .slice A102_2 ((rd_T47 l0_2 x9_1).atom.args).length c102_2, .string ((rd_T47 l0_2 x9_1).op), .bool ((rd_T47 l0_2 x9_1).l.isVar), .string (⟨#[]⟩ : ByteArray), .bool false, .string (⟨#[]⟩ : ByteArray), .int .i64 0, .bool false, .string (⟨#[]⟩ : ByteArray), .bool false, .string (⟨#[]⟩ : ByteArray), .int .i64 0]) ?_ 5 _ rfl; (with_reducible repeat (first | refine blk_drewN ?_ _ | refine blk_drew ?_ | refine blk_alloc ?_ _)); refine blk_put (cs := #[.int .i64 ((rd_T47 l0_2 x9_1).kind), .string ((rd_T47 l0_2 x9_1).atom.pred), .slice A102_2 ((rd_T47 l0_2 x9_1).atom.args).length c102_2, .string ((rd_T47 l0_2 x9_1).op), .bool false, .string (⟨#[]⟩ : ByteArray), .bool false, .string (⟨#[]⟩ : ByteArray), .int .i64 0, .bool false, .string (⟨#[]⟩ : ByteArray), .bool false, .string (⟨#[]⟩ : ByteArray), .int .i64 0]) ?_ 4 _ rfl; (with_reducible repeat (first | refine blk_drewN ?_ _ | refine blk_drew ?_ | refine blk_alloc ?_ _)); refine blk_put (cs := #[.int .i64 ((rd_T47 l0_2 x9_1).kind), .string ((rd_T47 l0_2 x9_1).atom.pred), .slice A102_2 ((rd_T47 l0_2 x9_1).atom.args).length c102_2, .string (⟨#[]⟩ : ByteArray), .bool false, .string (⟨#[]⟩ : ByteArray), .bool false, .string (⟨#[]⟩ : ByteArray), .int .i64 0, .bool false, .string (⟨#[]⟩ : ByteArray), .bool false, .string (⟨#[]⟩ : ByteArray), .int .i64 0]) ?_ 3 _ rfl; (with_reducible repeat (first | refine blk_drewN ?_ _ | refine blk_drew ?_ | refine blk_alloc ?_ _)); refine blk_put (cs := #[.int .i64 ((rd_T47 l0_2 x9_1).kind), .string ((rd_T47 l0_2 x9_1).atom.pred), .slice none 0 0, .string (⟨#[]⟩ : ByteArray), .bool false, .string (⟨#[]⟩ : ByteArray), .bool false, .string (⟨#[]⟩ : ByteArray), .int .i64 0, .bool false, .string (⟨#[]⟩ : ByteArray), .bool false, .string (⟨#[]⟩ : ByteArray), .int .i64 0]) ?_ 2 _ rfl; (with_reducible repeat (first | refine blk_drewN ?_ _ | refine blk_drew ?_ | refine blk_alloc ?_ _)); refine blk_put (cs := #[.int .i64 ((rd_T47 l0_2 x9_1).kind), .string (⟨#[]⟩ : ByteArray), .slice none 0 0, .string (⟨#[]⟩ : ByteArray), .bool false, .string (⟨#[]⟩ : ByteArray), .bool false, .string (⟨#[]⟩ : ByteArray), .int .i64 0, .bool false, .string (⟨#[]⟩ : ByteArray), .bool false, .string (⟨#[]⟩ : ByteArray), .int .i64 0]) ?_ 1 _ rfl; (with_reducible repeat (first | refine blk_drewN ?_ _ | refine blk_drew ?_ | refine blk_alloc ?_ _)); refine blk_put (cs := #[.int .i64 0, .string (⟨#[]⟩ : ByteArray), .slice none 0 0, .string (⟨#[]⟩ : ByteArray), .bool false, .string (⟨#[]⟩ : ByteArray), .bool false, .string (⟨#[]⟩ : ByteArray), .int .i64 0, .bool false, .string (⟨#[]⟩ : ByteArray), .bool false, .string (⟨#[]⟩ : ByteArray), .int .i64 0]) ?_ 0 _ rfl; (with_reducible repeat (first | refine blk_drewN ?_ _ | refine blk_drew ?_ | refine blk_alloc ?_ _)); exact BK103.out) hb); have n3_ := Aside0.mk (below_step (by repeat (first | (with_reducible first | exact HB.out | apply below_alloc | apply pw_below_drewN | apply below_drew1 | refine below_set ?_ GE101.out | refine below_set ?_ GE103.out) | exact HB.out)) hb); clear BK101; clear BK103; clear HB; have HO107 := n0_; have BK101 := n1_; have BK103 := n2_; have HB := n3_; clear n0_ n1_ n2_ n3_; (try clear hb); (try clear hb2); (try clear hk); (try clear hi); (try clear ho0); obtain ⟨Ao27, co27, eo27⟩ := Kd.V_slice HO107.out; subst eo27) | (go_at_call 23; (with_reducible refine (lambrequinref13_Known.calls k1 _ _ t105 _ _ l2 t108 _ ?side1 ?side2 ?side3 ?side4 A23.out).mono ?_); (case side1 => repeat (first | exact (Kd.V_reads' HO107.out).2.2 | (with_reducible refine Kd.C_alloc ?_ _) | (with_reducible refine Kd.C_drewN ?_ _) | (with_reducible refine Kd.C_drew ?_))); (case side2 => exact (Kd.V_reads' HO107.out).2.1); (case side3 => repeat (first | exact (Kd.C_below HR2.out HB.out) | (with_reducible refine Kd.C_alloc ?_ _) | (with_reducible refine Kd.C_drewN ?_ _) | (with_reducible refine Kd.C_drew ?_))); (case side4 => exact HC2.out); rintro e w' ⟨rfl, ⟨nd, rfl⟩⟩))
         go_meet
         case rel => exact ⟨_, (t108), (by first | rfl | (simp; done) | (simp [*]; done)), H', ⟨by have := HK1.out; first | omega | exact Nat.le_refl _⟩, ⟨by (with_reducible repeat (first | refine blk_drewN ?_ _ | refine blk_drew ?_ | refine blk_alloc ?_ _)); exact BK101.out⟩, ⟨by (with_reducible repeat (first | refine blk_drewN ?_ _ | refine blk_drew ?_ | refine blk_alloc ?_ _)); exact BK103.out⟩, ⟨by repeat (first | (with_reducible first | exact HB.out | apply below_alloc | apply pw_below_drewN | apply below_drew1 | refine below_set ?_ GE101.out | refine below_set ?_ GE103.out) | exact HB.out)⟩⟩
       case rest =>
        clear HC14
        try clear c1
        try clear p1
        try clear q1
        try clear hx1
        try clear c2
        try clear p2
        try clear c4
        try clear c5
        try clear c5b0
        try clear c6
        try clear c6b0
        try clear p6
        try clear c7
        try clear c7b0
        try clear q8
        try clear c9
        try clear c10
        try clear p10
        try clear q10
        try clear hx10
        try clear c12
        try clear c17
        try clear c19
        try clear c19b0
        try clear c19b1
        try clear c20
        try clear c24
        try clear hcz10_0
        try clear hcz10_1
        try clear hcz10_2
        try clear hcz13_0
        try clear hcz13_1
        try clear hcz13_10
        try clear hcz13_11
        try clear hcz13_12
        try clear hcz13_13
        try clear hcz13_2
        try clear hcz13_3
        try clear hcz13_4
        try clear hcz13_5
        try clear hcz13_6
        try clear hcz13_7
        try clear hcz13_8
        try clear hcz13_9
        try clear hcz15_0
        try clear hcz15_1
        try clear hcz15_2
        try clear hcz18_0
        try clear hcz18_1
        try clear hcz18_10
        try clear hcz18_11
        try clear hcz18_12
        try clear hcz18_13
        try clear hcz18_2
        try clear hcz18_3
        try clear hcz18_4
        try clear hcz18_5
        try clear hcz18_6
        try clear hcz18_7
        try clear hcz18_8
        try clear hcz18_9
        try clear hcz21_0
        try clear hcz21_1
        try clear hcz21_10
        try clear hcz21_11
        try clear hcz21_12
        try clear hcz21_13
        try clear hcz21_2
        try clear hcz21_3
        try clear hcz21_4
        try clear hcz21_5
        try clear hcz21_6
        try clear hcz21_7
        try clear hcz21_8
        try clear hcz21_9
        try clear hcz25_0
        try clear hcz25_1
        try clear hcz25_10
        try clear hcz25_11
        try clear hcz25_12
        try clear hcz25_13
        try clear hcz25_2
        try clear hcz25_3
        try clear hcz25_4
        try clear hcz25_5
        try clear hcz25_6
        try clear hcz25_7
        try clear hcz25_8
        try clear hcz25_9
        try clear hfz10_0
        try clear hfz10_1
        try clear hfz10_2
        try clear hfz13_0
        try clear hfz13_1
        try clear hfz13_10
        try clear hfz13_11
        try clear hfz13_12
        try clear hfz13_13
        try clear hfz13_2
        try clear hfz13_3
        try clear hfz13_4
        try clear hfz13_5
        try clear hfz13_6
        try clear hfz13_7
        try clear hfz13_8
        try clear hfz13_9
        try clear hfz15_0
        try clear hfz15_1
        try clear hfz15_2
        try clear hfz18_0
        try clear hfz18_1
        try clear hfz18_10
        try clear hfz18_11
        try clear hfz18_12
        try clear hfz18_13
        try clear hfz18_2
        try clear hfz18_3
        try clear hfz18_4
        try clear hfz18_5
        try clear hfz18_6
        try clear hfz18_7
        try clear hfz18_8
        try clear hfz18_9
        try clear hfz21_0
        try clear hfz21_1
        try clear hfz21_10
        try clear hfz21_11
        try clear hfz21_12
        try clear hfz21_13
        try clear hfz21_2
        try clear hfz21_3
        try clear hfz21_4
        try clear hfz21_5
        try clear hfz21_6
        try clear hfz21_7
        try clear hfz21_8
        try clear hfz21_9
        try clear hfz25_0
        try clear hfz25_1
        try clear hfz25_10
        try clear hfz25_11
        try clear hfz25_12
        try clear hfz25_13
        try clear hfz25_2
        try clear hfz25_3
        try clear hfz25_4
        try clear hfz25_5
        try clear hfz25_6
        try clear hfz25_7
        try clear hfz25_8
        try clear hfz25_9
        try clear hx102_0
        try clear hx102_1
        try clear hx102_10
        try clear hx102_11
        try clear hx102_12
        try clear hx102_13
        try clear hx102_2
        try clear hx102_3
        try clear hx102_4
        try clear hx102_5
        try clear hx102_6
        try clear hx102_7
        try clear hx102_8
        try clear hx102_9
        try clear hx104_0
        try clear p102
        try clear p104
        try clear p2
        try clear q102
        try clear q104
        obtain ⟨kq, x36_13, rfl, HA, HJ13, BK101, BK103, HB⟩ := hcut
        cases kq with
        | zero => exact absurd HA.out (by simp [lambrequinref13_next.j1])
        | succ kj13 =>
         have H := HA.out
         clear HA
         simp only [lambrequinref13_next.j1] at H
         by_cases c28 : x36_13 = true
         ·subst c28
          have H1 : (some x9_1) = some r := by rw [if_pos rfl] at H; exact H
          clear H
          have H := H1
          clear H1
          obtain rfl := Option.some.inj H
          go_wp2
          go_ret
          exact ⟨by first | rfl | (simp [errW_none, errW_some] <;> rfl) | (simp [*, errW_none, errW_some] <;> rfl), by repeat (first | (with_reducible first | exact HB.out | apply below_alloc | apply pw_below_drewN | apply below_drew1 | refine below_set ?_ GE101.out | refine below_set ?_ GE103.out) | exact HB.out)⟩
         ·replace c28 := Bool.eq_false_iff.mpr c28
          subst c28
          have H1 : ((lambrequinref13_Cols.f kj13 ((rd_T47 l0_2 x9_1).atom.pred) ((rd_T47 l0_2 x9_1).atom.args) l2).bind fun t109 => (if ((rd_T47 l0_2 x9_1).kind) = 1 then (if (t109.length : Int) > x8_1 then (lambrequinref13_next.l0 kj13 l1 l2 x9_1 (t109.length : Int) (wrap64 (x9_1 + 1)) a0_0 l0_1 l0_2) else (lambrequinref13_next.l0 kj13 l1 l2 x7_1 x8_1 (wrap64 (x9_1 + 1)) a0_0 l0_1 l0_2)) else (lambrequinref13_next.l0 kj13 l1 l2 x7_1 x8_1 (wrap64 (x9_1 + 1)) a0_0 l0_1 l0_2))) = some r := by rw [if_neg (show ¬ (false = true) by decide)] at H; exact H
          clear H
          have H := H1
          clear H1
          replace H := Option.bind_eq_some_iff.mp H
          obtain ⟨t109, A290, H⟩ := H
          replace H : (if ((rd_T47 l0_2 x9_1).kind) = 1 then (if (t109.length : Int) > x8_1 then (lambrequinref13_next.l0 kj13 l1 l2 x9_1 (t109.length : Int) (wrap64 (x9_1 + 1)) a0_0 l0_1 l0_2) else (lambrequinref13_next.l0 kj13 l1 l2 x7_1 x8_1 (wrap64 (x9_1 + 1)) a0_0 l0_1 l0_2)) else (lambrequinref13_next.l0 kj13 l1 l2 x7_1 x8_1 (wrap64 (x9_1 + 1)) a0_0 l0_1 l0_2)) = some r := H
          have A29 := Aside0.mk A290
          clear A290
          by_cases c30 : ((rd_T47 l0_2 x9_1).kind) = 1
          ·rw [if_pos c30] at H
           have c30b0 : (((rd_T47 l0_2 x9_1).kind) == 1) = true := beq_iff_eq.mpr c30
           have c30b1 : (((rd_T47 l0_2 x9_1).kind) != 1) = false := bne_eq_false_iff_eq.mpr c30
           clear c30
           by_cases c31 : (t109.length : Int) > x8_1
           ·rw [if_pos c31] at H
            have c31b0 : decide (x8_1 < (t109.length : Int)) = true := decide_eq_true c31
            clear c31
            have H' := Aside0.mk H
            clear H
            have hnb32 := NB103_101.out
            have hnc32 := NB101_103.out
            have hcz33_0 : wc.cell? ⟨gb103, 0, none⟩ = some (.int .i64 ((rd_T47 l0_2 x9_1).kind)) := (blk_cell BK103.out 0).trans rfl
            have hcz33_1 : wc.cell? ⟨gb103, 1, none⟩ = some (.string ((rd_T47 l0_2 x9_1).atom.pred)) := (blk_cell BK103.out 1).trans rfl
            have hcz33_2 : wc.cell? ⟨gb103, 2, none⟩ = some (.slice A102_2 ((rd_T47 l0_2 x9_1).atom.args).length c102_2) := (blk_cell BK103.out 2).trans rfl
            have hcz33_3 : wc.cell? ⟨gb103, 3, none⟩ = some (.string ((rd_T47 l0_2 x9_1).op)) := (blk_cell BK103.out 3).trans rfl
            have hcz33_4 : wc.cell? ⟨gb103, 4, none⟩ = some (.bool ((rd_T47 l0_2 x9_1).l.isVar)) := (blk_cell BK103.out 4).trans rfl
            have hcz33_5 : wc.cell? ⟨gb103, 5, none⟩ = some (.string ((rd_T47 l0_2 x9_1).l.name)) := (blk_cell BK103.out 5).trans rfl
            have hcz33_6 : wc.cell? ⟨gb103, 6, none⟩ = some (.bool ((rd_T47 l0_2 x9_1).l.val.isSym)) := (blk_cell BK103.out 6).trans rfl
            have hcz33_7 : wc.cell? ⟨gb103, 7, none⟩ = some (.string ((rd_T47 l0_2 x9_1).l.val.sym)) := (blk_cell BK103.out 7).trans rfl
            have hcz33_8 : wc.cell? ⟨gb103, 8, none⟩ = some (.int .i64 ((rd_T47 l0_2 x9_1).l.val.n)) := (blk_cell BK103.out 8).trans rfl
            have hcz33_9 : wc.cell? ⟨gb103, 9, none⟩ = some (.bool ((rd_T47 l0_2 x9_1).r.isVar)) := (blk_cell BK103.out 9).trans rfl
            have hcz33_10 : wc.cell? ⟨gb103, 10, none⟩ = some (.string ((rd_T47 l0_2 x9_1).r.name)) := (blk_cell BK103.out 10).trans rfl
            have hcz33_11 : wc.cell? ⟨gb103, 11, none⟩ = some (.bool ((rd_T47 l0_2 x9_1).r.val.isSym)) := (blk_cell BK103.out 11).trans rfl
            have hcz33_12 : wc.cell? ⟨gb103, 12, none⟩ = some (.string ((rd_T47 l0_2 x9_1).r.val.sym)) := (blk_cell BK103.out 12).trans rfl
            have hcz33_13 : wc.cell? ⟨gb103, 13, none⟩ = some (.int .i64 ((rd_T47 l0_2 x9_1).r.val.n)) := (blk_cell BK103.out 13).trans rfl
            have hfz33_0 := blk_frozen BK103.out 0
            have hfz33_1 := blk_frozen BK103.out 1
            have hfz33_2 := blk_frozen BK103.out 2
            have hfz33_3 := blk_frozen BK103.out 3
            have hfz33_4 := blk_frozen BK103.out 4
            have hfz33_5 := blk_frozen BK103.out 5
            have hfz33_6 := blk_frozen BK103.out 6
            have hfz33_7 := blk_frozen BK103.out 7
            have hfz33_8 := blk_frozen BK103.out 8
            have hfz33_9 := blk_frozen BK103.out 9
            have hfz33_10 := blk_frozen BK103.out 10
            have hfz33_11 := blk_frozen BK103.out 11
            have hfz33_12 := blk_frozen BK103.out 12
            have hfz33_13 := blk_frozen BK103.out 13
            go_wp2_with (first | ((with_reducible refine gate_callee (f := 21) rfl ?_); refine goesL_ (some 41) rfl rfl Try.func21 (by kernel_rfl) rfl #[.agg #[.string ((rd_T47 l0_2 x9_1).atom.pred), .slice A102_2 ((rd_T47 l0_2 x9_1).atom.args).length c102_2], .slice A2 l2.length c2] rfl (by (try simp only [List.map_toArray, List.map_cons, List.map_nil]); first | done | rfl | (simp only [List.length_drop, List.length_take]; rfl)) ?_; (with_reducible refine (lambrequinref13_Cols.calls kj13 ((rd_T47 l0_2 x9_1).atom.pred) _ _ ((rd_T47 l0_2 x9_1).atom.args) _ _ l2 t109 _ ?side1 ?side2 ?side3 ?side4 A29.out).mono ?_); (case side1 => repeat (first | exact (Kd.C_below HR102_2.out HB.out) | (with_reducible refine Kd.C_alloc ?_ _) | (with_reducible refine Kd.C_drewN ?_ _) | (with_reducible refine Kd.C_drew ?_))); (case side2 => exact HC102_2.out); (case side3 => repeat (first | exact (Kd.C_below HR2.out HB.out) | (with_reducible refine Kd.C_alloc ?_ _) | (with_reducible refine Kd.C_drewN ?_ _) | (with_reducible refine Kd.C_drew ?_))); (case side4 => exact HC2.out); rintro e w34 ⟨v110, rfl, ho0, hb⟩; refine ⟨_, rfl, ?_⟩; have n0_ := Aside0.mk (Kd.R_lower ho0 (below_size (by repeat (first | (with_reducible first | exact HB.out | apply below_alloc | apply pw_below_drewN | apply below_drew1 | refine below_set ?_ GE101.out | refine below_set ?_ GE103.out) | exact HB.out)))); have n1_ := Aside0.mk (blk_below (g := gb101) (o := .cells #[.string a0_0, .slice A0_1 l0_1.length c0_1, .slice (some ad102) l0_2.length c0_2] 27 (0, 0)) (by (with_reducible repeat (first | refine blk_drewN ?_ _ | refine blk_drew ?_ | refine blk_alloc ?_ _)); exact BK101.out) hb); have n2_ := Aside0.mk (blk_below (g := gb103) (o := .cells #[.int .i64 ((rd_T47 l0_2 x9_1).kind), .string ((rd_T47 l0_2 x9_1).atom.pred), .slice A102_2 ((rd_T47 l0_2 x9_1).atom.args).length c102_2, .string ((rd_T47 l0_2 x9_1).op), .bool ((rd_T47 l0_2 x9_1).l.isVar), .string ((rd_T47 l0_2 x9_1).l.name), .bool ((rd_T47 l0_2 x9_1).l.val.isSym), .string ((rd_T47 l0_2 x9_1).l.val.sym), .int .i64 ((rd_T47 l0_2 x9_1).l.val.n), .bool ((rd_T47 l0_2 x9_1).r.isVar), .string ((rd_T47 l0_2 x9_1).r.name), .bool ((rd_T47 l0_2 x9_1).r.val.isSym), .string ((rd_T47 l0_2 x9_1).r.val.sym), .int .i64 ((rd_T47 l0_2 x9_1).r.val.n)] 47 (0, 0)) (by (with_reducible repeat (first | refine blk_drewN ?_ _ | refine blk_drew ?_ | refine blk_alloc ?_ _)); exact BK103.out) hb); have n3_ := Aside0.mk (below_step (by repeat (first | (with_reducible first | exact HB.out | apply below_alloc | apply pw_below_drewN | apply below_drew1 | refine below_set ?_ GE101.out | refine below_set ?_ GE103.out) | exact HB.out)) hb); clear BK101; clear BK103; clear HB; have HO111 := n0_; have BK101 := n1_; have BK103 := n2_; have HB := n3_; clear n0_ n1_ n2_ n3_; (try clear hb); (try clear hb2); (try clear hk); (try clear hi); (try clear ho0); obtain ⟨Ao35, co35, eo35⟩ := Kd.R_slice HO111.out; subst eo35; have hcz36_0 : w34.cell? ⟨gb103, 0, none⟩ = some (.int .i64 ((rd_T47 l0_2 x9_1).kind)) := (blk_cell BK103.out 0).trans rfl; have hcz36_1 : w34.cell? ⟨gb103, 1, none⟩ = some (.string ((rd_T47 l0_2 x9_1).atom.pred)) := (blk_cell BK103.out 1).trans rfl; have hcz36_2 : w34.cell? ⟨gb103, 2, none⟩ = some (.slice A102_2 ((rd_T47 l0_2 x9_1).atom.args).length c102_2) := (blk_cell BK103.out 2).trans rfl; have hcz36_3 : w34.cell? ⟨gb103, 3, none⟩ = some (.string ((rd_T47 l0_2 x9_1).op)) := (blk_cell BK103.out 3).trans rfl; have hcz36_4 : w34.cell? ⟨gb103, 4, none⟩ = some (.bool ((rd_T47 l0_2 x9_1).l.isVar)) := (blk_cell BK103.out 4).trans rfl; have hcz36_5 : w34.cell? ⟨gb103, 5, none⟩ = some (.string ((rd_T47 l0_2 x9_1).l.name)) := (blk_cell BK103.out 5).trans rfl; have hcz36_6 : w34.cell? ⟨gb103, 6, none⟩ = some (.bool ((rd_T47 l0_2 x9_1).l.val.isSym)) := (blk_cell BK103.out 6).trans rfl; have hcz36_7 : w34.cell? ⟨gb103, 7, none⟩ = some (.string ((rd_T47 l0_2 x9_1).l.val.sym)) := (blk_cell BK103.out 7).trans rfl; have hcz36_8 : w34.cell? ⟨gb103, 8, none⟩ = some (.int .i64 ((rd_T47 l0_2 x9_1).l.val.n)) := (blk_cell BK103.out 8).trans rfl; have hcz36_9 : w34.cell? ⟨gb103, 9, none⟩ = some (.bool ((rd_T47 l0_2 x9_1).r.isVar)) := (blk_cell BK103.out 9).trans rfl; have hcz36_10 : w34.cell? ⟨gb103, 10, none⟩ = some (.string ((rd_T47 l0_2 x9_1).r.name)) := (blk_cell BK103.out 10).trans rfl; have hcz36_11 : w34.cell? ⟨gb103, 11, none⟩ = some (.bool ((rd_T47 l0_2 x9_1).r.val.isSym)) := (blk_cell BK103.out 11).trans rfl; have hcz36_12 : w34.cell? ⟨gb103, 12, none⟩ = some (.string ((rd_T47 l0_2 x9_1).r.val.sym)) := (blk_cell BK103.out 12).trans rfl; have hcz36_13 : w34.cell? ⟨gb103, 13, none⟩ = some (.int .i64 ((rd_T47 l0_2 x9_1).r.val.n)) := (blk_cell BK103.out 13).trans rfl; have hfz36_0 := blk_frozen BK103.out 0; have hfz36_1 := blk_frozen BK103.out 1; have hfz36_2 := blk_frozen BK103.out 2; have hfz36_3 := blk_frozen BK103.out 3; have hfz36_4 := blk_frozen BK103.out 4; have hfz36_5 := blk_frozen BK103.out 5; have hfz36_6 := blk_frozen BK103.out 6; have hfz36_7 := blk_frozen BK103.out 7; have hfz36_8 := blk_frozen BK103.out 8; have hfz36_9 := blk_frozen BK103.out 9; have hfz36_10 := blk_frozen BK103.out 10; have hfz36_11 := blk_frozen BK103.out 11; have hfz36_12 := blk_frozen BK103.out 12; have hfz36_13 := blk_frozen BK103.out 13))
            go_roundg kj13
            case measure => have := HK1.out; have := HJ13.out; omega
            case rel => exact ⟨(x9_1), ((t109.length : Int)), (wrap64 (x9_1 + 1)), (by first | rfl | (simp; done) | (simp [*]; done)), (by first | rfl | (simp; done) | (simp [*]; done)), (by first | rfl | (simp; done) | (simp [*]; done)), H', ⟨by have := HK1.out; have := HJ13.out; omega⟩, ⟨by (with_reducible repeat (first | refine blk_drewN ?_ _ | refine blk_drew ?_ | refine blk_alloc ?_ _)); exact BK101.out⟩, ⟨by repeat (first | (with_reducible first | exact HB.out | apply below_alloc | apply pw_below_drewN | apply below_drew1 | refine below_set ?_ GE101.out | refine below_set ?_ GE103.out) | exact HB.out)⟩⟩
           ·rw [if_neg c31] at H
            have c31b0 : decide (x8_1 < (t109.length : Int)) = false := decide_eq_false c31
            clear c31
            have H' := Aside0.mk H
            clear H
            have hnb37 := NB103_101.out
            have hnc37 := NB101_103.out
            have hcz38_0 : wc.cell? ⟨gb103, 0, none⟩ = some (.int .i64 ((rd_T47 l0_2 x9_1).kind)) := (blk_cell BK103.out 0).trans rfl
            have hcz38_1 : wc.cell? ⟨gb103, 1, none⟩ = some (.string ((rd_T47 l0_2 x9_1).atom.pred)) := (blk_cell BK103.out 1).trans rfl
            have hcz38_2 : wc.cell? ⟨gb103, 2, none⟩ = some (.slice A102_2 ((rd_T47 l0_2 x9_1).atom.args).length c102_2) := (blk_cell BK103.out 2).trans rfl
            have hcz38_3 : wc.cell? ⟨gb103, 3, none⟩ = some (.string ((rd_T47 l0_2 x9_1).op)) := (blk_cell BK103.out 3).trans rfl
            have hcz38_4 : wc.cell? ⟨gb103, 4, none⟩ = some (.bool ((rd_T47 l0_2 x9_1).l.isVar)) := (blk_cell BK103.out 4).trans rfl
            have hcz38_5 : wc.cell? ⟨gb103, 5, none⟩ = some (.string ((rd_T47 l0_2 x9_1).l.name)) := (blk_cell BK103.out 5).trans rfl
            have hcz38_6 : wc.cell? ⟨gb103, 6, none⟩ = some (.bool ((rd_T47 l0_2 x9_1).l.val.isSym)) := (blk_cell BK103.out 6).trans rfl
            have hcz38_7 : wc.cell? ⟨gb103, 7, none⟩ = some (.string ((rd_T47 l0_2 x9_1).l.val.sym)) := (blk_cell BK103.out 7).trans rfl
            have hcz38_8 : wc.cell? ⟨gb103, 8, none⟩ = some (.int .i64 ((rd_T47 l0_2 x9_1).l.val.n)) := (blk_cell BK103.out 8).trans rfl
            have hcz38_9 : wc.cell? ⟨gb103, 9, none⟩ = some (.bool ((rd_T47 l0_2 x9_1).r.isVar)) := (blk_cell BK103.out 9).trans rfl
            have hcz38_10 : wc.cell? ⟨gb103, 10, none⟩ = some (.string ((rd_T47 l0_2 x9_1).r.name)) := (blk_cell BK103.out 10).trans rfl
            have hcz38_11 : wc.cell? ⟨gb103, 11, none⟩ = some (.bool ((rd_T47 l0_2 x9_1).r.val.isSym)) := (blk_cell BK103.out 11).trans rfl
            have hcz38_12 : wc.cell? ⟨gb103, 12, none⟩ = some (.string ((rd_T47 l0_2 x9_1).r.val.sym)) := (blk_cell BK103.out 12).trans rfl
            have hcz38_13 : wc.cell? ⟨gb103, 13, none⟩ = some (.int .i64 ((rd_T47 l0_2 x9_1).r.val.n)) := (blk_cell BK103.out 13).trans rfl
            have hfz38_0 := blk_frozen BK103.out 0
            have hfz38_1 := blk_frozen BK103.out 1
            have hfz38_2 := blk_frozen BK103.out 2
            have hfz38_3 := blk_frozen BK103.out 3
            have hfz38_4 := blk_frozen BK103.out 4
            have hfz38_5 := blk_frozen BK103.out 5
            have hfz38_6 := blk_frozen BK103.out 6
            have hfz38_7 := blk_frozen BK103.out 7
            have hfz38_8 := blk_frozen BK103.out 8
            have hfz38_9 := blk_frozen BK103.out 9
            have hfz38_10 := blk_frozen BK103.out 10
            have hfz38_11 := blk_frozen BK103.out 11
            have hfz38_12 := blk_frozen BK103.out 12
            have hfz38_13 := blk_frozen BK103.out 13
            go_wp2_with (first | ((with_reducible refine gate_callee (f := 21) rfl ?_); refine goesL_ (some 41) rfl rfl Try.func21 (by kernel_rfl) rfl #[.agg #[.string ((rd_T47 l0_2 x9_1).atom.pred), .slice A102_2 ((rd_T47 l0_2 x9_1).atom.args).length c102_2], .slice A2 l2.length c2] rfl (by (try simp only [List.map_toArray, List.map_cons, List.map_nil]); first | done | rfl | (simp only [List.length_drop, List.length_take]; rfl)) ?_; (with_reducible refine (lambrequinref13_Cols.calls kj13 ((rd_T47 l0_2 x9_1).atom.pred) _ _ ((rd_T47 l0_2 x9_1).atom.args) _ _ l2 t109 _ ?side1 ?side2 ?side3 ?side4 A29.out).mono ?_); (case side1 => repeat (first | exact (Kd.C_below HR102_2.out HB.out) | (with_reducible refine Kd.C_alloc ?_ _) | (with_reducible refine Kd.C_drewN ?_ _) | (with_reducible refine Kd.C_drew ?_))); (case side2 => exact HC102_2.out); (case side3 => repeat (first | exact (Kd.C_below HR2.out HB.out) | (with_reducible refine Kd.C_alloc ?_ _) | (with_reducible refine Kd.C_drewN ?_ _) | (with_reducible refine Kd.C_drew ?_))); (case side4 => exact HC2.out); rintro e w39 ⟨v110, rfl, ho0, hb⟩; refine ⟨_, rfl, ?_⟩; have n0_ := Aside0.mk (Kd.R_lower ho0 (below_size (by repeat (first | (with_reducible first | exact HB.out | apply below_alloc | apply pw_below_drewN | apply below_drew1 | refine below_set ?_ GE101.out | refine below_set ?_ GE103.out) | exact HB.out)))); have n1_ := Aside0.mk (blk_below (g := gb101) (o := .cells #[.string a0_0, .slice A0_1 l0_1.length c0_1, .slice (some ad102) l0_2.length c0_2] 27 (0, 0)) (by (with_reducible repeat (first | refine blk_drewN ?_ _ | refine blk_drew ?_ | refine blk_alloc ?_ _)); exact BK101.out) hb); have n2_ := Aside0.mk (blk_below (g := gb103) (o := .cells #[.int .i64 ((rd_T47 l0_2 x9_1).kind), .string ((rd_T47 l0_2 x9_1).atom.pred), .slice A102_2 ((rd_T47 l0_2 x9_1).atom.args).length c102_2, .string ((rd_T47 l0_2 x9_1).op), .bool ((rd_T47 l0_2 x9_1).l.isVar), .string ((rd_T47 l0_2 x9_1).l.name), .bool ((rd_T47 l0_2 x9_1).l.val.isSym), .string ((rd_T47 l0_2 x9_1).l.val.sym), .int .i64 ((rd_T47 l0_2 x9_1).l.val.n), .bool ((rd_T47 l0_2 x9_1).r.isVar), .string ((rd_T47 l0_2 x9_1).r.name), .bool ((rd_T47 l0_2 x9_1).r.val.isSym), .string ((rd_T47 l0_2 x9_1).r.val.sym), .int .i64 ((rd_T47 l0_2 x9_1).r.val.n)] 47 (0, 0)) (by (with_reducible repeat (first | refine blk_drewN ?_ _ | refine blk_drew ?_ | refine blk_alloc ?_ _)); exact BK103.out) hb); have n3_ := Aside0.mk (below_step (by repeat (first | (with_reducible first | exact HB.out | apply below_alloc | apply pw_below_drewN | apply below_drew1 | refine below_set ?_ GE101.out | refine below_set ?_ GE103.out) | exact HB.out)) hb); clear BK101; clear BK103; clear HB; have HO111 := n0_; have BK101 := n1_; have BK103 := n2_; have HB := n3_; clear n0_ n1_ n2_ n3_; (try clear hb); (try clear hb2); (try clear hk); (try clear hi); (try clear ho0); obtain ⟨Ao40, co40, eo40⟩ := Kd.R_slice HO111.out; subst eo40; have hcz41_0 : w39.cell? ⟨gb103, 0, none⟩ = some (.int .i64 ((rd_T47 l0_2 x9_1).kind)) := (blk_cell BK103.out 0).trans rfl; have hcz41_1 : w39.cell? ⟨gb103, 1, none⟩ = some (.string ((rd_T47 l0_2 x9_1).atom.pred)) := (blk_cell BK103.out 1).trans rfl; have hcz41_2 : w39.cell? ⟨gb103, 2, none⟩ = some (.slice A102_2 ((rd_T47 l0_2 x9_1).atom.args).length c102_2) := (blk_cell BK103.out 2).trans rfl; have hcz41_3 : w39.cell? ⟨gb103, 3, none⟩ = some (.string ((rd_T47 l0_2 x9_1).op)) := (blk_cell BK103.out 3).trans rfl; have hcz41_4 : w39.cell? ⟨gb103, 4, none⟩ = some (.bool ((rd_T47 l0_2 x9_1).l.isVar)) := (blk_cell BK103.out 4).trans rfl; have hcz41_5 : w39.cell? ⟨gb103, 5, none⟩ = some (.string ((rd_T47 l0_2 x9_1).l.name)) := (blk_cell BK103.out 5).trans rfl; have hcz41_6 : w39.cell? ⟨gb103, 6, none⟩ = some (.bool ((rd_T47 l0_2 x9_1).l.val.isSym)) := (blk_cell BK103.out 6).trans rfl; have hcz41_7 : w39.cell? ⟨gb103, 7, none⟩ = some (.string ((rd_T47 l0_2 x9_1).l.val.sym)) := (blk_cell BK103.out 7).trans rfl; have hcz41_8 : w39.cell? ⟨gb103, 8, none⟩ = some (.int .i64 ((rd_T47 l0_2 x9_1).l.val.n)) := (blk_cell BK103.out 8).trans rfl; have hcz41_9 : w39.cell? ⟨gb103, 9, none⟩ = some (.bool ((rd_T47 l0_2 x9_1).r.isVar)) := (blk_cell BK103.out 9).trans rfl; have hcz41_10 : w39.cell? ⟨gb103, 10, none⟩ = some (.string ((rd_T47 l0_2 x9_1).r.name)) := (blk_cell BK103.out 10).trans rfl; have hcz41_11 : w39.cell? ⟨gb103, 11, none⟩ = some (.bool ((rd_T47 l0_2 x9_1).r.val.isSym)) := (blk_cell BK103.out 11).trans rfl; have hcz41_12 : w39.cell? ⟨gb103, 12, none⟩ = some (.string ((rd_T47 l0_2 x9_1).r.val.sym)) := (blk_cell BK103.out 12).trans rfl; have hcz41_13 : w39.cell? ⟨gb103, 13, none⟩ = some (.int .i64 ((rd_T47 l0_2 x9_1).r.val.n)) := (blk_cell BK103.out 13).trans rfl; have hfz41_0 := blk_frozen BK103.out 0; have hfz41_1 := blk_frozen BK103.out 1; have hfz41_2 := blk_frozen BK103.out 2; have hfz41_3 := blk_frozen BK103.out 3; have hfz41_4 := blk_frozen BK103.out 4; have hfz41_5 := blk_frozen BK103.out 5; have hfz41_6 := blk_frozen BK103.out 6; have hfz41_7 := blk_frozen BK103.out 7; have hfz41_8 := blk_frozen BK103.out 8; have hfz41_9 := blk_frozen BK103.out 9; have hfz41_10 := blk_frozen BK103.out 10; have hfz41_11 := blk_frozen BK103.out 11; have hfz41_12 := blk_frozen BK103.out 12; have hfz41_13 := blk_frozen BK103.out 13))
            go_roundg kj13
            case measure => have := HK1.out; have := HJ13.out; omega
            case rel => exact ⟨(x7_1), (x8_1), (wrap64 (x9_1 + 1)), (by first | rfl | (simp; done) | (simp [*]; done)), (by first | rfl | (simp; done) | (simp [*]; done)), (by first | rfl | (simp; done) | (simp [*]; done)), H', ⟨by have := HK1.out; have := HJ13.out; omega⟩, ⟨by (with_reducible repeat (first | refine blk_drewN ?_ _ | refine blk_drew ?_ | refine blk_alloc ?_ _)); exact BK101.out⟩, ⟨by repeat (first | (with_reducible first | exact HB.out | apply below_alloc | apply pw_below_drewN | apply below_drew1 | refine below_set ?_ GE101.out | refine below_set ?_ GE103.out) | exact HB.out)⟩⟩
          ·rw [if_neg c30] at H
           have c30b0 : (((rd_T47 l0_2 x9_1).kind) == 1) = false := beq_eq_false_iff_ne.mpr c30
           have c30b1 : (((rd_T47 l0_2 x9_1).kind) != 1) = true := bne_iff_ne.mpr c30
           have H' := Aside0.mk H
           clear H
           have hnb42 := NB103_101.out
           have hnc42 := NB101_103.out
           have hcz43_0 : wc.cell? ⟨gb103, 0, none⟩ = some (.int .i64 ((rd_T47 l0_2 x9_1).kind)) := (blk_cell BK103.out 0).trans rfl
           have hcz43_1 : wc.cell? ⟨gb103, 1, none⟩ = some (.string ((rd_T47 l0_2 x9_1).atom.pred)) := (blk_cell BK103.out 1).trans rfl
           have hcz43_2 : wc.cell? ⟨gb103, 2, none⟩ = some (.slice A102_2 ((rd_T47 l0_2 x9_1).atom.args).length c102_2) := (blk_cell BK103.out 2).trans rfl
           have hcz43_3 : wc.cell? ⟨gb103, 3, none⟩ = some (.string ((rd_T47 l0_2 x9_1).op)) := (blk_cell BK103.out 3).trans rfl
           have hcz43_4 : wc.cell? ⟨gb103, 4, none⟩ = some (.bool ((rd_T47 l0_2 x9_1).l.isVar)) := (blk_cell BK103.out 4).trans rfl
           have hcz43_5 : wc.cell? ⟨gb103, 5, none⟩ = some (.string ((rd_T47 l0_2 x9_1).l.name)) := (blk_cell BK103.out 5).trans rfl
           have hcz43_6 : wc.cell? ⟨gb103, 6, none⟩ = some (.bool ((rd_T47 l0_2 x9_1).l.val.isSym)) := (blk_cell BK103.out 6).trans rfl
           have hcz43_7 : wc.cell? ⟨gb103, 7, none⟩ = some (.string ((rd_T47 l0_2 x9_1).l.val.sym)) := (blk_cell BK103.out 7).trans rfl
           have hcz43_8 : wc.cell? ⟨gb103, 8, none⟩ = some (.int .i64 ((rd_T47 l0_2 x9_1).l.val.n)) := (blk_cell BK103.out 8).trans rfl
           have hcz43_9 : wc.cell? ⟨gb103, 9, none⟩ = some (.bool ((rd_T47 l0_2 x9_1).r.isVar)) := (blk_cell BK103.out 9).trans rfl
           have hcz43_10 : wc.cell? ⟨gb103, 10, none⟩ = some (.string ((rd_T47 l0_2 x9_1).r.name)) := (blk_cell BK103.out 10).trans rfl
           have hcz43_11 : wc.cell? ⟨gb103, 11, none⟩ = some (.bool ((rd_T47 l0_2 x9_1).r.val.isSym)) := (blk_cell BK103.out 11).trans rfl
           have hcz43_12 : wc.cell? ⟨gb103, 12, none⟩ = some (.string ((rd_T47 l0_2 x9_1).r.val.sym)) := (blk_cell BK103.out 12).trans rfl
           have hcz43_13 : wc.cell? ⟨gb103, 13, none⟩ = some (.int .i64 ((rd_T47 l0_2 x9_1).r.val.n)) := (blk_cell BK103.out 13).trans rfl
           have hfz43_0 := blk_frozen BK103.out 0
           have hfz43_1 := blk_frozen BK103.out 1
           have hfz43_2 := blk_frozen BK103.out 2
           have hfz43_3 := blk_frozen BK103.out 3
           have hfz43_4 := blk_frozen BK103.out 4
           have hfz43_5 := blk_frozen BK103.out 5
           have hfz43_6 := blk_frozen BK103.out 6
           have hfz43_7 := blk_frozen BK103.out 7
           have hfz43_8 := blk_frozen BK103.out 8
           have hfz43_9 := blk_frozen BK103.out 9
           have hfz43_10 := blk_frozen BK103.out 10
           have hfz43_11 := blk_frozen BK103.out 11
           have hfz43_12 := blk_frozen BK103.out 12
           have hfz43_13 := blk_frozen BK103.out 13
           go_wp2_with (first | ((with_reducible refine gate_callee (f := 21) rfl ?_); refine goesL_ (some 41) rfl rfl Try.func21 (by kernel_rfl) rfl #[.agg #[.string ((rd_T47 l0_2 x9_1).atom.pred), .slice A102_2 ((rd_T47 l0_2 x9_1).atom.args).length c102_2], .slice A2 l2.length c2] rfl (by (try simp only [List.map_toArray, List.map_cons, List.map_nil]); first | done | rfl | (simp only [List.length_drop, List.length_take]; rfl)) ?_; (with_reducible refine (lambrequinref13_Cols.calls kj13 ((rd_T47 l0_2 x9_1).atom.pred) _ _ ((rd_T47 l0_2 x9_1).atom.args) _ _ l2 t109 _ ?side1 ?side2 ?side3 ?side4 A29.out).mono ?_); (case side1 => repeat (first | exact (Kd.C_below HR102_2.out HB.out) | (with_reducible refine Kd.C_alloc ?_ _) | (with_reducible refine Kd.C_drewN ?_ _) | (with_reducible refine Kd.C_drew ?_))); (case side2 => exact HC102_2.out); (case side3 => repeat (first | exact (Kd.C_below HR2.out HB.out) | (with_reducible refine Kd.C_alloc ?_ _) | (with_reducible refine Kd.C_drewN ?_ _) | (with_reducible refine Kd.C_drew ?_))); (case side4 => exact HC2.out); rintro e w44 ⟨v110, rfl, ho0, hb⟩; refine ⟨_, rfl, ?_⟩; have n0_ := Aside0.mk (Kd.R_lower ho0 (below_size (by repeat (first | (with_reducible first | exact HB.out | apply below_alloc | apply pw_below_drewN | apply below_drew1 | refine below_set ?_ GE101.out | refine below_set ?_ GE103.out) | exact HB.out)))); have n1_ := Aside0.mk (blk_below (g := gb101) (o := .cells #[.string a0_0, .slice A0_1 l0_1.length c0_1, .slice (some ad102) l0_2.length c0_2] 27 (0, 0)) (by (with_reducible repeat (first | refine blk_drewN ?_ _ | refine blk_drew ?_ | refine blk_alloc ?_ _)); exact BK101.out) hb); have n2_ := Aside0.mk (blk_below (g := gb103) (o := .cells #[.int .i64 ((rd_T47 l0_2 x9_1).kind), .string ((rd_T47 l0_2 x9_1).atom.pred), .slice A102_2 ((rd_T47 l0_2 x9_1).atom.args).length c102_2, .string ((rd_T47 l0_2 x9_1).op), .bool ((rd_T47 l0_2 x9_1).l.isVar), .string ((rd_T47 l0_2 x9_1).l.name), .bool ((rd_T47 l0_2 x9_1).l.val.isSym), .string ((rd_T47 l0_2 x9_1).l.val.sym), .int .i64 ((rd_T47 l0_2 x9_1).l.val.n), .bool ((rd_T47 l0_2 x9_1).r.isVar), .string ((rd_T47 l0_2 x9_1).r.name), .bool ((rd_T47 l0_2 x9_1).r.val.isSym), .string ((rd_T47 l0_2 x9_1).r.val.sym), .int .i64 ((rd_T47 l0_2 x9_1).r.val.n)] 47 (0, 0)) (by (with_reducible repeat (first | refine blk_drewN ?_ _ | refine blk_drew ?_ | refine blk_alloc ?_ _)); exact BK103.out) hb); have n3_ := Aside0.mk (below_step (by repeat (first | (with_reducible first | exact HB.out | apply below_alloc | apply pw_below_drewN | apply below_drew1 | refine below_set ?_ GE101.out | refine below_set ?_ GE103.out) | exact HB.out)) hb); clear BK101; clear BK103; clear HB; have HO111 := n0_; have BK101 := n1_; have BK103 := n2_; have HB := n3_; clear n0_ n1_ n2_ n3_; (try clear hb); (try clear hb2); (try clear hk); (try clear hi); (try clear ho0); obtain ⟨Ao45, co45, eo45⟩ := Kd.R_slice HO111.out; subst eo45; have hcz46_0 : w44.cell? ⟨gb103, 0, none⟩ = some (.int .i64 ((rd_T47 l0_2 x9_1).kind)) := (blk_cell BK103.out 0).trans rfl; have hcz46_1 : w44.cell? ⟨gb103, 1, none⟩ = some (.string ((rd_T47 l0_2 x9_1).atom.pred)) := (blk_cell BK103.out 1).trans rfl; have hcz46_2 : w44.cell? ⟨gb103, 2, none⟩ = some (.slice A102_2 ((rd_T47 l0_2 x9_1).atom.args).length c102_2) := (blk_cell BK103.out 2).trans rfl; have hcz46_3 : w44.cell? ⟨gb103, 3, none⟩ = some (.string ((rd_T47 l0_2 x9_1).op)) := (blk_cell BK103.out 3).trans rfl; have hcz46_4 : w44.cell? ⟨gb103, 4, none⟩ = some (.bool ((rd_T47 l0_2 x9_1).l.isVar)) := (blk_cell BK103.out 4).trans rfl; have hcz46_5 : w44.cell? ⟨gb103, 5, none⟩ = some (.string ((rd_T47 l0_2 x9_1).l.name)) := (blk_cell BK103.out 5).trans rfl; have hcz46_6 : w44.cell? ⟨gb103, 6, none⟩ = some (.bool ((rd_T47 l0_2 x9_1).l.val.isSym)) := (blk_cell BK103.out 6).trans rfl; have hcz46_7 : w44.cell? ⟨gb103, 7, none⟩ = some (.string ((rd_T47 l0_2 x9_1).l.val.sym)) := (blk_cell BK103.out 7).trans rfl; have hcz46_8 : w44.cell? ⟨gb103, 8, none⟩ = some (.int .i64 ((rd_T47 l0_2 x9_1).l.val.n)) := (blk_cell BK103.out 8).trans rfl; have hcz46_9 : w44.cell? ⟨gb103, 9, none⟩ = some (.bool ((rd_T47 l0_2 x9_1).r.isVar)) := (blk_cell BK103.out 9).trans rfl; have hcz46_10 : w44.cell? ⟨gb103, 10, none⟩ = some (.string ((rd_T47 l0_2 x9_1).r.name)) := (blk_cell BK103.out 10).trans rfl; have hcz46_11 : w44.cell? ⟨gb103, 11, none⟩ = some (.bool ((rd_T47 l0_2 x9_1).r.val.isSym)) := (blk_cell BK103.out 11).trans rfl; have hcz46_12 : w44.cell? ⟨gb103, 12, none⟩ = some (.string ((rd_T47 l0_2 x9_1).r.val.sym)) := (blk_cell BK103.out 12).trans rfl; have hcz46_13 : w44.cell? ⟨gb103, 13, none⟩ = some (.int .i64 ((rd_T47 l0_2 x9_1).r.val.n)) := (blk_cell BK103.out 13).trans rfl; have hfz46_0 := blk_frozen BK103.out 0; have hfz46_1 := blk_frozen BK103.out 1; have hfz46_2 := blk_frozen BK103.out 2; have hfz46_3 := blk_frozen BK103.out 3; have hfz46_4 := blk_frozen BK103.out 4; have hfz46_5 := blk_frozen BK103.out 5; have hfz46_6 := blk_frozen BK103.out 6; have hfz46_7 := blk_frozen BK103.out 7; have hfz46_8 := blk_frozen BK103.out 8; have hfz46_9 := blk_frozen BK103.out 9; have hfz46_10 := blk_frozen BK103.out 10; have hfz46_11 := blk_frozen BK103.out 11; have hfz46_12 := blk_frozen BK103.out 12; have hfz46_13 := blk_frozen BK103.out 13))
           go_roundg kj13
           case measure => have := HK1.out; have := HJ13.out; omega
           case rel => exact ⟨(x7_1), (x8_1), (wrap64 (x9_1 + 1)), (by first | rfl | (simp; done) | (simp [*]; done)), (by first | rfl | (simp; done) | (simp [*]; done)), (by first | rfl | (simp; done) | (simp [*]; done)), H', ⟨by have := HK1.out; have := HJ13.out; omega⟩, ⟨by (with_reducible repeat (first | refine blk_drewN ?_ _ | refine blk_drew ?_ | refine blk_alloc ?_ _)); exact BK101.out⟩, ⟨by repeat (first | (with_reducible first | exact HB.out | apply below_alloc | apply pw_below_drewN | apply below_drew1 | refine below_set ?_ GE101.out | refine below_set ?_ GE103.out) | exact HB.out)⟩⟩
     ·rw [if_neg c7] at H
      exact absurd H (by simp)
    ·rw [if_neg c6] at H
     exact absurd H (by simp)
   ·rw [if_neg c5] at H
    have c5b0 : decide (x9_1 < (l0_2.length : Int)) = false := decide_eq_false c5
    clear c5
    obtain rfl := Option.some.inj H
    have hcz47_0 : wr.cell? ⟨gb101, 0, none⟩ = some (.string a0_0) := (blk_cell BK101.out 0).trans rfl
    have hcz47_1 : wr.cell? ⟨gb101, 1, none⟩ = some (.slice A0_1 l0_1.length c0_1) := (blk_cell BK101.out 1).trans rfl
    have hcz47_2 : wr.cell? ⟨gb101, 2, none⟩ = some (.slice A0_2 l0_2.length c0_2) := (blk_cell BK101.out 2).trans rfl
    have hfz47_0 := blk_frozen BK101.out 0
    have hfz47_1 := blk_frozen BK101.out 1
    have hfz47_2 := blk_frozen BK101.out 2
    go_wp2
    go_ret
    exact ⟨by first | rfl | (simp [errW_none, errW_some] <;> rfl) | (simp [*, errW_none, errW_some] <;> rfl), by repeat (first | (with_reducible first | exact HB.out | apply below_alloc | apply pw_below_drewN | apply below_drew1 | refine below_set ?_ GE101.out) | exact HB.out)⟩

end Go.Proofs.Ythpejcnldecmoaa.H
-- made by a program of this session (wip/tools) out of the translation; Lean checks it.
namespace Go.Proofs.Ythpejcnldecmoaa.H
open Go.RowKit Go.Proofs.YthpejcnldecmoaaW.PrintWords Go.Proofs.YthpejcnldecmoaaW.PrintLast Go.Proofs.YthpejcnldecmoaaW.PrintMore
attribute [local go_sem] max2_int min2_int max_two min_two max_three min_three max_four min_four   -- for this text's walks alone
set_option linter.unusedVariables false
set_option linter.unusedSimpArgs false

/-! ### lambrequinref13_Order: function 18 -/
mutual
def lambrequinref13_Order.l0 : Nat → Int → Int → Int → ByteArray → List (Term) → List (Liter) → Option (List Int × Int)
 | 0, _, _, _, _, _, _ => none
 | k + 1, x1, x6, x7, x102000, x102001, x102002 => if x7 < x6 then (if 0 ≤ x7 then (if x7 < (x102002.length : Int) then (if ((rd_T47 x102002 x7).kind) = 1 then (lambrequinref13_Order.l0 k x1 x6 (wrap64 (x7 + 1)) x102000 x102001 x102002) else (if ((rd_T47 x102002 x7).kind) = 2 then (lambrequinref13_Order.l0 k x1 x6 (wrap64 (x7 + 1)) x102000 x102001 x102002) else (if ((rd_T47 x102002 x7).kind) = 3 then (lambrequinref13_Order.l0 k x1 x6 (wrap64 (x7 + 1)) x102000 x102001 x102002) else (some (([] : List Int), 1))))) else (none)) else (none)) else (if x1 = (-1) then (lambrequinref13_Order.j1 k x1 x6 false x102000 x102001 x102002) else (if x1 < 0 then (lambrequinref13_Order.j1 k x1 x6 true x102000 x102001 x102002) else (if x1 ≥ x6 then (lambrequinref13_Order.j1 k x1 x6 true x102000 x102001 x102002) else (if 0 ≤ x1 then (if x1 < (x102002.length : Int) then (lambrequinref13_Order.j1 k x1 x6 (((rd_T47 x102002 x1).kind) != 1) x102000 x102001 x102002) else (none)) else (none)))))
def lambrequinref13_Order.j1 : Nat → Int → Int → Bool → ByteArray → List (Term) → List (Liter) → Option (List Int × Int)
 | 0, _, _, _, _, _, _ => none
 | k + 1, x1, x6, x64, x102000, x102001, x102002 => if x64 = true then (some (([] : List Int), 1)) else (if 0 ≤ x6 then (if (x6 : Int).toNat ≤ 281474976710656 then (lambrequinref13_Order.l1 k x1 x6 (List.replicate (x6 : Int).toNat false) ([] : List ByteArray) ([] : List Int) x102000 x102001 x102002) else (none)) else (none))
def lambrequinref13_Order.l1 : Nat → Int → Int → List Bool → List ByteArray → List Int → ByteArray → List (Term) → List (Liter) → Option (List Int × Int)
 | 0, _, _, _, _, _, _, _, _ => none
 | k + 1, x1, x6, x8, x9, x10, x102000, x102001, x102002 => if (x10.length : Int) < x6 then ((lambrequinref13_next.f k x102000 x102001 x102002 x8 x9).bind fun t109 => (if (x10.length : Int) = 0 then (lambrequinref13_Order.j3 k x1 x6 x8 x9 x10 t109 (x1 != (-1)) x102000 x102001 x102002) else (lambrequinref13_Order.j3 k x1 x6 x8 x9 x10 t109 false x102000 x102001 x102002))) else (some (x10, 0))
def lambrequinref13_Order.j3 : Nat → Int → Int → List Bool → List ByteArray → List Int → Int → Bool → ByteArray → List (Term) → List (Liter) → Option (List Int × Int)
 | 0, _, _, _, _, _, _, _, _, _, _ => none
 | k + 1, x1, x6, x8, x9, x10, x11, x81, x102000, x102001, x102002 => if x81 = true then (lambrequinref13_Order.j4 k x1 x6 x8 x9 x10 x1 x102000 x102001 x102002) else (lambrequinref13_Order.j4 k x1 x6 x8 x9 x10 x11 x102000 x102001 x102002)
def lambrequinref13_Order.j4 : Nat → Int → Int → List Bool → List ByteArray → List Int → Int → ByteArray → List (Term) → List (Liter) → Option (List Int × Int)
 | 0, _, _, _, _, _, _, _, _, _ => none
 | k + 1, x1, x6, x8, x9, x10, x11, x102000, x102001, x102002 => if x11 < 0 then (some (([] : List Int), 6)) else (if 0 ≤ x11 then (if x11 < (x8.length : Int) then ((some (x8.set (x11 : Int).toNat true : List Bool)).bind fun y110 => (if x10.length < 17592186044416 then ((some (x10 ++ [x11] : List Int)).bind fun y111 => (if x11 < (x102002.length : Int) then (if ((rd_T47 x102002 x11).kind) = 1 then ((lambrequinref09_Vars.f k ((rd_T47 x102002 x11).atom.pred) ((rd_T47 x102002 x11).atom.args)).bind fun t116 => (if x9.length + t116.length < 8796093022208 then (lambrequinref13_Order.l1 k x1 x6 y110 (x9 ++ t116) y111 x102000 x102001 x102002) else (none))) else (lambrequinref13_Order.l1 k x1 x6 y110 x9 y111 x102000 x102001 x102002)) else (none))) else (none))) else (none)) else (none))
end
def lambrequinref13_Order.f (k : Nat) (a0_0 : ByteArray) (l0_1 : List (Term)) (l0_2 : List (Liter)) (a1 : Int) : Option (List Int × Int) := lambrequinref13_Order.l0 k a1 (l0_2.length : Int) 0 a0_0 l0_1 l0_2
theorem lambrequinref13_Order.mono_l : ∀ k, (∀ y0 y1 y2 y3 y4 y5, LeO (lambrequinref13_Order.l0 k y0 y1 y2 y3 y4 y5) (lambrequinref13_Order.l0 (k + 1) y0 y1 y2 y3 y4 y5)) ∧ (∀ y0 y1 y2 y3 y4 y5, LeO (lambrequinref13_Order.j1 k y0 y1 y2 y3 y4 y5) (lambrequinref13_Order.j1 (k + 1) y0 y1 y2 y3 y4 y5)) ∧ (∀ y0 y1 y2 y3 y4 y5 y6 y7, LeO (lambrequinref13_Order.l1 k y0 y1 y2 y3 y4 y5 y6 y7) (lambrequinref13_Order.l1 (k + 1) y0 y1 y2 y3 y4 y5 y6 y7)) ∧ (∀ y0 y1 y2 y3 y4 y5 y6 y7 y8 y9, LeO (lambrequinref13_Order.j3 k y0 y1 y2 y3 y4 y5 y6 y7 y8 y9) (lambrequinref13_Order.j3 (k + 1) y0 y1 y2 y3 y4 y5 y6 y7 y8 y9)) ∧ (∀ y0 y1 y2 y3 y4 y5 y6 y7 y8, LeO (lambrequinref13_Order.j4 k y0 y1 y2 y3 y4 y5 y6 y7 y8) (lambrequinref13_Order.j4 (k + 1) y0 y1 y2 y3 y4 y5 y6 y7 y8))
 | 0 => ⟨fun _ _ _ _ _ _ r h => by simp [lambrequinref13_Order.l0] at h, fun _ _ _ _ _ _ r h => by simp [lambrequinref13_Order.j1] at h, fun _ _ _ _ _ _ _ _ r h => by simp [lambrequinref13_Order.l1] at h, fun _ _ _ _ _ _ _ _ _ _ r h => by simp [lambrequinref13_Order.j3] at h, fun _ _ _ _ _ _ _ _ _ r h => by simp [lambrequinref13_Order.j4] at h⟩
 | k + 1 => by
  obtain ⟨ih0, ih1, ih2, ih3, ih4⟩ := lambrequinref13_Order.mono_l k
  refine ⟨?_, ?_, ?_, ?_, ?_⟩
  ·intro y0 y1 y2 y3 y4 y5
   unfold lambrequinref13_Order.l0
   repeat' first
   | (with_reducible exact ih0 _ _ _ _ _ _)
   | (with_reducible exact ih1 _ _ _ _ _ _)
   | (with_reducible exact ih2 _ _ _ _ _ _ _ _)
   | (with_reducible exact ih3 _ _ _ _ _ _ _ _ _ _)
   | (with_reducible exact ih4 _ _ _ _ _ _ _ _ _)
   | (with_reducible exact lambrequinref09_Vars.mono _ _ _)
   | (with_reducible exact lambrequinref13_next.mono _ _ _ _ _ _)
   | (with_reducible exact LeO.refl _)
   | (with_reducible exact LeO.none _)
   | (with_reducible refine LeO.ite ?_ ?_)
   | (with_reducible refine LeO.bind ?_ (fun _ => ?_))
   | exact ih0 _ _ _ _ _ _
   | exact ih1 _ _ _ _ _ _
   | exact ih2 _ _ _ _ _ _ _ _
   | exact ih3 _ _ _ _ _ _ _ _ _ _
   | exact ih4 _ _ _ _ _ _ _ _ _
   | exact lambrequinref09_Vars.mono _ _ _
   | exact lambrequinref13_next.mono _ _ _ _ _ _
   | exact LeO.none _
   | refine LeO.ite ?_ ?_
   | refine LeO.bind ?_ (fun _ => ?_)
  ·intro y0 y1 y2 y3 y4 y5
   unfold lambrequinref13_Order.j1
   repeat' first
   | (with_reducible exact ih0 _ _ _ _ _ _)
   | (with_reducible exact ih1 _ _ _ _ _ _)
   | (with_reducible exact ih2 _ _ _ _ _ _ _ _)
   | (with_reducible exact ih3 _ _ _ _ _ _ _ _ _ _)
   | (with_reducible exact ih4 _ _ _ _ _ _ _ _ _)
   | (with_reducible exact lambrequinref09_Vars.mono _ _ _)
   | (with_reducible exact lambrequinref13_next.mono _ _ _ _ _ _)
   | (with_reducible exact LeO.refl _)
   | (with_reducible exact LeO.none _)
   | (with_reducible refine LeO.ite ?_ ?_)
   | (with_reducible refine LeO.bind ?_ (fun _ => ?_))
   | exact ih0 _ _ _ _ _ _
   | exact ih1 _ _ _ _ _ _
   | exact ih2 _ _ _ _ _ _ _ _
   | exact ih3 _ _ _ _ _ _ _ _ _ _
   | exact ih4 _ _ _ _ _ _ _ _ _
   | exact lambrequinref09_Vars.mono _ _ _
   | exact lambrequinref13_next.mono _ _ _ _ _ _
   | exact LeO.none _
   | refine LeO.ite ?_ ?_
   | refine LeO.bind ?_ (fun _ => ?_)
  ·intro y0 y1 y2 y3 y4 y5 y6 y7
   unfold lambrequinref13_Order.l1
   repeat' first
   | (with_reducible exact ih0 _ _ _ _ _ _)
   | (with_reducible exact ih1 _ _ _ _ _ _)
   | (with_reducible exact ih2 _ _ _ _ _ _ _ _)
   | (with_reducible exact ih3 _ _ _ _ _ _ _ _ _ _)
   | (with_reducible exact ih4 _ _ _ _ _ _ _ _ _)
   | (with_reducible exact lambrequinref09_Vars.mono _ _ _)
   | (with_reducible exact lambrequinref13_next.mono _ _ _ _ _ _)
   | (with_reducible exact LeO.refl _)
   | (with_reducible exact LeO.none _)
   | (with_reducible refine LeO.ite ?_ ?_)
   | (with_reducible refine LeO.bind ?_ (fun _ => ?_))
   | exact ih0 _ _ _ _ _ _
   | exact ih1 _ _ _ _ _ _
   | exact ih2 _ _ _ _ _ _ _ _
   | exact ih3 _ _ _ _ _ _ _ _ _ _
   | exact ih4 _ _ _ _ _ _ _ _ _
   | exact lambrequinref09_Vars.mono _ _ _
   | exact lambrequinref13_next.mono _ _ _ _ _ _
   | exact LeO.none _
   | refine LeO.ite ?_ ?_
   | refine LeO.bind ?_ (fun _ => ?_)
  ·intro y0 y1 y2 y3 y4 y5 y6 y7 y8 y9
   unfold lambrequinref13_Order.j3
   repeat' first
   | (with_reducible exact ih0 _ _ _ _ _ _)
   | (with_reducible exact ih1 _ _ _ _ _ _)
   | (with_reducible exact ih2 _ _ _ _ _ _ _ _)
   | (with_reducible exact ih3 _ _ _ _ _ _ _ _ _ _)
   | (with_reducible exact ih4 _ _ _ _ _ _ _ _ _)
   | (with_reducible exact lambrequinref09_Vars.mono _ _ _)
   | (with_reducible exact lambrequinref13_next.mono _ _ _ _ _ _)
   | (with_reducible exact LeO.refl _)
   | (with_reducible exact LeO.none _)
   | (with_reducible refine LeO.ite ?_ ?_)
   | (with_reducible refine LeO.bind ?_ (fun _ => ?_))
   | exact ih0 _ _ _ _ _ _
   | exact ih1 _ _ _ _ _ _
   | exact ih2 _ _ _ _ _ _ _ _
   | exact ih3 _ _ _ _ _ _ _ _ _ _
   | exact ih4 _ _ _ _ _ _ _ _ _
   | exact lambrequinref09_Vars.mono _ _ _
   | exact lambrequinref13_next.mono _ _ _ _ _ _
   | exact LeO.none _
   | refine LeO.ite ?_ ?_
   | refine LeO.bind ?_ (fun _ => ?_)
  ·intro y0 y1 y2 y3 y4 y5 y6 y7 y8
   unfold lambrequinref13_Order.j4
   repeat' first
   | (with_reducible exact ih0 _ _ _ _ _ _)
   | (with_reducible exact ih1 _ _ _ _ _ _)
   | (with_reducible exact ih2 _ _ _ _ _ _ _ _)
   | (with_reducible exact ih3 _ _ _ _ _ _ _ _ _ _)
   | (with_reducible exact ih4 _ _ _ _ _ _ _ _ _)
   | (with_reducible exact lambrequinref09_Vars.mono _ _ _)
   | (with_reducible exact lambrequinref13_next.mono _ _ _ _ _ _)
   | (with_reducible exact LeO.refl _)
   | (with_reducible exact LeO.none _)
   | (with_reducible refine LeO.ite ?_ ?_)
   | (with_reducible refine LeO.bind ?_ (fun _ => ?_))
   | exact ih0 _ _ _ _ _ _
   | exact ih1 _ _ _ _ _ _
   | exact ih2 _ _ _ _ _ _ _ _
   | exact ih3 _ _ _ _ _ _ _ _ _ _
   | exact ih4 _ _ _ _ _ _ _ _ _
   | exact lambrequinref09_Vars.mono _ _ _
   | exact lambrequinref13_next.mono _ _ _ _ _ _
   | exact LeO.none _
   | refine LeO.ite ?_ ?_
   | refine LeO.bind ?_ (fun _ => ?_)
theorem lambrequinref13_Order.mono : ∀ a0 a1 a2 a3 k, LeO (lambrequinref13_Order.f k a0 a1 a2 a3) (lambrequinref13_Order.f (k + 1) a0 a1 a2 a3) := by
 intro a0 a1 a2 a3 k
 obtain ⟨ih0, ih1, ih2, ih3, ih4⟩ := lambrequinref13_Order.mono_l k
 unfold lambrequinref13_Order.f
 repeat' first
   | (with_reducible exact ih0 _ _ _ _ _ _)
   | (with_reducible exact ih1 _ _ _ _ _ _)
   | (with_reducible exact ih2 _ _ _ _ _ _ _ _)
   | (with_reducible exact ih3 _ _ _ _ _ _ _ _ _ _)
   | (with_reducible exact ih4 _ _ _ _ _ _ _ _ _)
   | (with_reducible exact lambrequinref09_Vars.mono _ _ _)
   | (with_reducible exact lambrequinref13_next.mono _ _ _ _ _ _)
   | (with_reducible exact LeO.refl _)
   | (with_reducible exact LeO.none _)
   | (with_reducible refine LeO.ite ?_ ?_)
   | (with_reducible refine LeO.bind ?_ (fun _ => ?_))
   | exact ih0 _ _ _ _ _ _
   | exact ih1 _ _ _ _ _ _
   | exact ih2 _ _ _ _ _ _ _ _
   | exact ih3 _ _ _ _ _ _ _ _ _ _
   | exact ih4 _ _ _ _ _ _ _ _ _
   | exact lambrequinref09_Vars.mono _ _ _
   | exact lambrequinref13_next.mono _ _ _ _ _ _
   | exact LeO.none _
   | refine LeO.ite ?_ ?_
   | refine LeO.bind ?_ (fun _ => ?_)
set_option maxHeartbeats 8000000 in
set_option maxRecDepth 100000 in
theorem lambrequinref13_Order.calls (k : Nat) (a0_0 : ByteArray) (A0_1 : Option Addr) (c0_1 : Nat) (l0_1 : List (Term)) (A0_2 : Option Addr) (c0_2 : Nat) (l0_2 : List (Liter)) (a1 : Int) (r1 : List Int) (r2 : Int) (w : World) (hr0_1 : Kd.C k45 w A0_1 l0_1.length l0_1) (hc0_1 : l0_1.length ≤ c0_1) (hr0_2 : Kd.C k47 w A0_2 l0_2.length l0_2) (hc0_2 : l0_2.length ≤ c0_2) (h : lambrequinref13_Order.f k a0_0 l0_1 l0_2 a1 = some (r1, r2)) :
  Calls Try.prog 18 #[.agg #[.string a0_0, .slice A0_1 l0_1.length c0_1, .slice A0_2 l0_2.length c0_2], .int .i64 a1] w fun e w' => ∃ v0_ : Value, e = .returned (.tuple #[v0_, .int .i64 r2]) ∧ Kd.R (Kd.int .i64) 3 w' w.heap.size (fun _ => True) v0_ r1 ∧ Below w.heap.size w w' := by
 have hu27 := Try.underlying27
 have hu24 := Try.underlying24
 have HR0_1 := Aside0.mk hr0_1
 have HC0_1 := Aside0.mk hc0_1
 clear hr0_1 hc0_1
 have HR0_2 := Aside0.mk hr0_2
 have HC0_2 := Aside0.mk hc0_2
 clear hr0_2 hc0_2
 have HB := Aside0.mk (Below.refl w.heap.size w)
 have H : (lambrequinref13_Order.l0 k a1 (l0_2.length : Int) 0 a0_0 l0_1 l0_2) = some (r1, r2) := h
 clear h
 have H' := Aside0.mk H
 clear H
 go_enter Try.func18, Try.ntmps18
 go_wp2_with (first | ((with_reducible refine gate_dst (N := 2) rfl ?_); refine box_event ?hg (N := 2) ?hd (cs := #[.string a0_0, .slice A0_1 l0_1.length c0_1, .slice A0_2 l0_2.length c0_2]) (t := 27) ?hr ?_; (case hd => rfl); (case hg => rfl); (case hr => first | (go_simp; done) | (go_simp; rfl)); intro gb101 hg w3 hbox hb; have n0_ := Aside0.mk (below_step (by repeat (first | (with_reducible first | exact HB.out | apply below_alloc | apply pw_below_drewN | apply below_drew1) | exact HB.out)) hb); have n1_ := Aside0.mk (hbox); have n2_ := Aside0.mk ((by rw [hg]; exact (below_size (by repeat (first | (with_reducible first | exact HB.out | apply below_alloc | apply pw_below_drewN | apply below_drew1) | exact HB.out))) : w.heap.size ≤ gb101)); have n3_ := Aside0.mk ((by rw [hg]; exact (below_size (by repeat (first | (with_reducible first | exact HB.out | apply below_alloc | apply pw_below_drewN | apply below_drew1) | exact HB.out))) : w.heap.size ≤ gb101)); clear HB; have HB := n0_; have BK101 := n1_; have GW101 := n2_; have GE101 := n3_; clear n0_ n1_ n2_ n3_; clear hb hbox hg; have hcz4_0 : w3.cell? ⟨gb101, 0, none⟩ = some (.string a0_0) := (blk_cell BK101.out 0).trans rfl; have hcz4_1 : w3.cell? ⟨gb101, 1, none⟩ = some (.slice A0_1 l0_1.length c0_1) := (blk_cell BK101.out 1).trans rfl; have hcz4_2 : w3.cell? ⟨gb101, 2, none⟩ = some (.slice A0_2 l0_2.length c0_2) := (blk_cell BK101.out 2).trans rfl; have hfz4_0 := blk_frozen BK101.out 0; have hfz4_1 := blk_frozen BK101.out 1; have hfz4_2 := blk_frozen BK101.out 2))
 go_loopg [7] k (fun kq v7 w' => ∃ (x7_1 : Int), v7 = .int .i64 x7_1 ∧ Aside0 (lambrequinref13_Order.l0 kq a1 (l0_2.length : Int) x7_1 a0_0 l0_1 l0_2 = some (r1, r2)) ∧ Aside0 (kq ≤ k) ∧ Aside0 (w'.heap[gb101]? = some (.cells #[.string a0_0, (.slice A0_1 l0_1.length c0_1), (.slice A0_2 l0_2.length c0_2)] 27 (0, 0))) ∧ Aside0 (Below w.heap.size w w'))
 case atStart => exact ⟨(0), (by first | rfl | (simp; done) | (simp [*]; done)), H', ⟨Nat.le_refl _⟩, ⟨by (with_reducible repeat (first | refine blk_drewN ?_ _ | refine blk_drew ?_ | refine blk_alloc ?_ _)); exact BK101.out⟩, ⟨by repeat (first | (with_reducible first | exact HB.out | apply below_alloc | apply pw_below_drewN | apply below_drew1 | refine below_set ?_ GE101.out) | exact HB.out)⟩⟩
 case round =>
  clear H'
  try clear c1
  try clear p2
  try clear hcz4_0
  try clear hcz4_1
  try clear hcz4_2
  try clear hfz4_0
  try clear hfz4_1
  try clear hfz4_2
  obtain ⟨x7_1, rfl, HA, HK1, BK101, HB⟩ := hrel
  cases gk with
  | zero => exact absurd HA.out (by simp [lambrequinref13_Order.l0])
  | succ k1 =>
   have H := HA.out
   clear HA
   simp only [lambrequinref13_Order.l0] at H
   by_cases c5 : x7_1 < (l0_2.length : Int)
   ·rw [if_pos c5] at H
    have c5b0 : decide (x7_1 < (l0_2.length : Int)) = true := decide_eq_true c5
    clear c5
    by_cases c6 : 0 ≤ x7_1
    ·rw [if_pos c6] at H
     have c6b0 : decide (0 ≤ x7_1) = true := decide_eq_true c6
     clear c6
     by_cases c7 : x7_1 < (l0_2.length : Int)
     ·rw [if_pos c7] at H
      have c7b0 : decide (x7_1 < (l0_2.length : Int)) = true := decide_eq_true c7
      clear c7
      by_cases c8 : ((rd_T47 l0_2 x7_1).kind) = 1
      ·rw [if_pos c8] at H
       have c8b0 : (((rd_T47 l0_2 x7_1).kind) == 1) = true := beq_iff_eq.mpr c8
       have c8b1 : (((rd_T47 l0_2 x7_1).kind) != 1) = false := bne_eq_false_iff_eq.mpr c8
       clear c8
       have H' := Aside0.mk H
       clear H
       have hcz9_0 : wr.cell? ⟨gb101, 0, none⟩ = some (.string a0_0) := (blk_cell BK101.out 0).trans rfl
       have hcz9_1 : wr.cell? ⟨gb101, 1, none⟩ = some (.slice A0_1 l0_1.length c0_1) := (blk_cell BK101.out 1).trans rfl
       have hcz9_2 : wr.cell? ⟨gb101, 2, none⟩ = some (.slice A0_2 l0_2.length c0_2) := (blk_cell BK101.out 2).trans rfl
       have hfz9_0 := blk_frozen BK101.out 0
       have hfz9_1 := blk_frozen BK101.out 1
       have hfz9_2 := blk_frozen BK101.out 2
       have p102 : 0 ≤ (x7_1 : Int) := of_decide_eq_true (by first | (with_reducible assumption) | assumption)
       have q102 : x7_1 < (l0_2.length : Int) := of_decide_eq_true (by first | (with_reducible assumption) | assumption)
       obtain ⟨ad102, A102_2, c102_2, e102, hx102_0, hx102_1, hx102_2, hx102_3, hx102_4, hx102_5, hx102_6, hx102_7, hx102_8, hx102_9, hx102_10, hx102_11, hx102_12, hx102_13, hl102_2, hi102_2⟩ := at_T47 HR0_2.out x7_1 p102 q102
       cases e102
       replace hx102_0 := (HB.out.cell (blt_ hx102_0)).trans hx102_0
       replace hx102_1 := (HB.out.cell (blt_ hx102_1)).trans hx102_1
       replace hx102_2 := (HB.out.cell (blt_ hx102_2)).trans hx102_2
       replace hx102_3 := (HB.out.cell (blt_ hx102_3)).trans hx102_3
       replace hx102_4 := (HB.out.cell (blt_ hx102_4)).trans hx102_4
       replace hx102_5 := (HB.out.cell (blt_ hx102_5)).trans hx102_5
       replace hx102_6 := (HB.out.cell (blt_ hx102_6)).trans hx102_6
       replace hx102_7 := (HB.out.cell (blt_ hx102_7)).trans hx102_7
       replace hx102_8 := (HB.out.cell (blt_ hx102_8)).trans hx102_8
       replace hx102_9 := (HB.out.cell (blt_ hx102_9)).trans hx102_9
       replace hx102_10 := (HB.out.cell (blt_ hx102_10)).trans hx102_10
       replace hx102_11 := (HB.out.cell (blt_ hx102_11)).trans hx102_11
       replace hx102_12 := (HB.out.cell (blt_ hx102_12)).trans hx102_12
       replace hx102_13 := (HB.out.cell (blt_ hx102_13)).trans hx102_13
       have HR102_2 := Aside0.mk hi102_2
       have HC102_2 := Aside0.mk hl102_2
       clear hi102_2 hl102_2
       replace p102 := eq_true p102
       replace q102 := eq_true q102
       go_wp2
       go_roundg k1
       case measure => have := HK1.out; omega
       case rel => exact ⟨(wrap64 (x7_1 + 1)), (by first | rfl | (simp; done) | (simp [*]; done)), H', ⟨by have := HK1.out; omega⟩, ⟨by (with_reducible repeat (first | refine blk_drewN ?_ _ | refine blk_drew ?_ | refine blk_alloc ?_ _)); exact BK101.out⟩, ⟨by repeat (first | (with_reducible first | exact HB.out | apply below_alloc | apply pw_below_drewN | apply below_drew1 | refine below_set ?_ GE101.out) | exact HB.out)⟩⟩
      ·rw [if_neg c8] at H
       have c8b0 : (((rd_T47 l0_2 x7_1).kind) == 1) = false := beq_eq_false_iff_ne.mpr c8
       have c8b1 : (((rd_T47 l0_2 x7_1).kind) != 1) = true := bne_iff_ne.mpr c8
       by_cases c10 : ((rd_T47 l0_2 x7_1).kind) = 2
       ·rw [if_pos c10] at H
        have c10b0 : (((rd_T47 l0_2 x7_1).kind) == 2) = true := beq_iff_eq.mpr c10
        have c10b1 : (((rd_T47 l0_2 x7_1).kind) != 2) = false := bne_eq_false_iff_eq.mpr c10
        clear c10
        have H' := Aside0.mk H
        clear H
        have hcz11_0 : wr.cell? ⟨gb101, 0, none⟩ = some (.string a0_0) := (blk_cell BK101.out 0).trans rfl
        have hcz11_1 : wr.cell? ⟨gb101, 1, none⟩ = some (.slice A0_1 l0_1.length c0_1) := (blk_cell BK101.out 1).trans rfl
        have hcz11_2 : wr.cell? ⟨gb101, 2, none⟩ = some (.slice A0_2 l0_2.length c0_2) := (blk_cell BK101.out 2).trans rfl
        have hfz11_0 := blk_frozen BK101.out 0
        have hfz11_1 := blk_frozen BK101.out 1
        have hfz11_2 := blk_frozen BK101.out 2
        have p102 : 0 ≤ (x7_1 : Int) := of_decide_eq_true (by first | (with_reducible assumption) | assumption)
        have q102 : x7_1 < (l0_2.length : Int) := of_decide_eq_true (by first | (with_reducible assumption) | assumption)
        obtain ⟨ad102, A102_2, c102_2, e102, hx102_0, hx102_1, hx102_2, hx102_3, hx102_4, hx102_5, hx102_6, hx102_7, hx102_8, hx102_9, hx102_10, hx102_11, hx102_12, hx102_13, hl102_2, hi102_2⟩ := at_T47 HR0_2.out x7_1 p102 q102
        cases e102
        replace hx102_0 := (HB.out.cell (blt_ hx102_0)).trans hx102_0
        replace hx102_1 := (HB.out.cell (blt_ hx102_1)).trans hx102_1
        replace hx102_2 := (HB.out.cell (blt_ hx102_2)).trans hx102_2
        replace hx102_3 := (HB.out.cell (blt_ hx102_3)).trans hx102_3
        replace hx102_4 := (HB.out.cell (blt_ hx102_4)).trans hx102_4
        replace hx102_5 := (HB.out.cell (blt_ hx102_5)).trans hx102_5
        replace hx102_6 := (HB.out.cell (blt_ hx102_6)).trans hx102_6
        replace hx102_7 := (HB.out.cell (blt_ hx102_7)).trans hx102_7
        replace hx102_8 := (HB.out.cell (blt_ hx102_8)).trans hx102_8
        replace hx102_9 := (HB.out.cell (blt_ hx102_9)).trans hx102_9
        replace hx102_10 := (HB.out.cell (blt_ hx102_10)).trans hx102_10
        replace hx102_11 := (HB.out.cell (blt_ hx102_11)).trans hx102_11
        replace hx102_12 := (HB.out.cell (blt_ hx102_12)).trans hx102_12
        replace hx102_13 := (HB.out.cell (blt_ hx102_13)).trans hx102_13
        have HR102_2 := Aside0.mk hi102_2
        have HC102_2 := Aside0.mk hl102_2
        clear hi102_2 hl102_2
        replace p102 := eq_true p102
        replace q102 := eq_true q102
        have p103 : 0 ≤ (x7_1 : Int) := of_decide_eq_true (by first | (with_reducible assumption) | assumption)
        have q103 : x7_1 < (l0_2.length : Int) := of_decide_eq_true (by first | (with_reducible assumption) | assumption)
        obtain ⟨ad103, A103_2, c103_2, e103, hx103_0, hx103_1, hx103_2, hx103_3, hx103_4, hx103_5, hx103_6, hx103_7, hx103_8, hx103_9, hx103_10, hx103_11, hx103_12, hx103_13, hl103_2, hi103_2⟩ := at_T47 HR0_2.out x7_1 p103 q103
        obtain rfl : ad102 = ad103 := (by injection e103)
        replace hx103_0 := (HB.out.cell (blt_ hx103_0)).trans hx103_0
        replace hx103_1 := (HB.out.cell (blt_ hx103_1)).trans hx103_1
        replace hx103_2 := (HB.out.cell (blt_ hx103_2)).trans hx103_2
        replace hx103_3 := (HB.out.cell (blt_ hx103_3)).trans hx103_3
        replace hx103_4 := (HB.out.cell (blt_ hx103_4)).trans hx103_4
        replace hx103_5 := (HB.out.cell (blt_ hx103_5)).trans hx103_5
        replace hx103_6 := (HB.out.cell (blt_ hx103_6)).trans hx103_6
        replace hx103_7 := (HB.out.cell (blt_ hx103_7)).trans hx103_7
        replace hx103_8 := (HB.out.cell (blt_ hx103_8)).trans hx103_8
        replace hx103_9 := (HB.out.cell (blt_ hx103_9)).trans hx103_9
        replace hx103_10 := (HB.out.cell (blt_ hx103_10)).trans hx103_10
        replace hx103_11 := (HB.out.cell (blt_ hx103_11)).trans hx103_11
        replace hx103_12 := (HB.out.cell (blt_ hx103_12)).trans hx103_12
        replace hx103_13 := (HB.out.cell (blt_ hx103_13)).trans hx103_13
        have HR103_2 := Aside0.mk hi103_2
        have HC103_2 := Aside0.mk hl103_2
        clear hi103_2 hl103_2
        replace p103 := eq_true p103
        replace q103 := eq_true q103
        have ea_ := Option.some.inj (hx102_2.symm.trans hx103_2)
        injection ea_ with ea_ en_ ec_
        subst ea_
        subst ec_
        clear en_
        go_wp2
        go_roundg k1
        case measure => have := HK1.out; omega
        case rel => exact ⟨(wrap64 (x7_1 + 1)), (by first | rfl | (simp; done) | (simp [*]; done)), H', ⟨by have := HK1.out; omega⟩, ⟨by (with_reducible repeat (first | refine blk_drewN ?_ _ | refine blk_drew ?_ | refine blk_alloc ?_ _)); exact BK101.out⟩, ⟨by repeat (first | (with_reducible first | exact HB.out | apply below_alloc | apply pw_below_drewN | apply below_drew1 | refine below_set ?_ GE101.out) | exact HB.out)⟩⟩
       ·rw [if_neg c10] at H
        have c10b0 : (((rd_T47 l0_2 x7_1).kind) == 2) = false := beq_eq_false_iff_ne.mpr c10
        have c10b1 : (((rd_T47 l0_2 x7_1).kind) != 2) = true := bne_iff_ne.mpr c10
        by_cases c12 : ((rd_T47 l0_2 x7_1).kind) = 3
        ·rw [if_pos c12] at H
         have c12b0 : (((rd_T47 l0_2 x7_1).kind) == 3) = true := beq_iff_eq.mpr c12
         have c12b1 : (((rd_T47 l0_2 x7_1).kind) != 3) = false := bne_eq_false_iff_eq.mpr c12
         clear c12
         have H' := Aside0.mk H
         clear H
         have hcz13_0 : wr.cell? ⟨gb101, 0, none⟩ = some (.string a0_0) := (blk_cell BK101.out 0).trans rfl
         have hcz13_1 : wr.cell? ⟨gb101, 1, none⟩ = some (.slice A0_1 l0_1.length c0_1) := (blk_cell BK101.out 1).trans rfl
         have hcz13_2 : wr.cell? ⟨gb101, 2, none⟩ = some (.slice A0_2 l0_2.length c0_2) := (blk_cell BK101.out 2).trans rfl
         have hfz13_0 := blk_frozen BK101.out 0
         have hfz13_1 := blk_frozen BK101.out 1
         have hfz13_2 := blk_frozen BK101.out 2
         have p102 : 0 ≤ (x7_1 : Int) := of_decide_eq_true (by first | (with_reducible assumption) | assumption)
         have q102 : x7_1 < (l0_2.length : Int) := of_decide_eq_true (by first | (with_reducible assumption) | assumption)
         obtain ⟨ad102, A102_2, c102_2, e102, hx102_0, hx102_1, hx102_2, hx102_3, hx102_4, hx102_5, hx102_6, hx102_7, hx102_8, hx102_9, hx102_10, hx102_11, hx102_12, hx102_13, hl102_2, hi102_2⟩ := at_T47 HR0_2.out x7_1 p102 q102
         cases e102
         replace hx102_0 := (HB.out.cell (blt_ hx102_0)).trans hx102_0
         replace hx102_1 := (HB.out.cell (blt_ hx102_1)).trans hx102_1
         replace hx102_2 := (HB.out.cell (blt_ hx102_2)).trans hx102_2
         replace hx102_3 := (HB.out.cell (blt_ hx102_3)).trans hx102_3
         replace hx102_4 := (HB.out.cell (blt_ hx102_4)).trans hx102_4
         replace hx102_5 := (HB.out.cell (blt_ hx102_5)).trans hx102_5
         replace hx102_6 := (HB.out.cell (blt_ hx102_6)).trans hx102_6
         replace hx102_7 := (HB.out.cell (blt_ hx102_7)).trans hx102_7
         replace hx102_8 := (HB.out.cell (blt_ hx102_8)).trans hx102_8
         replace hx102_9 := (HB.out.cell (blt_ hx102_9)).trans hx102_9
         replace hx102_10 := (HB.out.cell (blt_ hx102_10)).trans hx102_10
         replace hx102_11 := (HB.out.cell (blt_ hx102_11)).trans hx102_11
         replace hx102_12 := (HB.out.cell (blt_ hx102_12)).trans hx102_12
         replace hx102_13 := (HB.out.cell (blt_ hx102_13)).trans hx102_13
         have HR102_2 := Aside0.mk hi102_2
         have HC102_2 := Aside0.mk hl102_2
         clear hi102_2 hl102_2
         replace p102 := eq_true p102
         replace q102 := eq_true q102
         have p103 : 0 ≤ (x7_1 : Int) := of_decide_eq_true (by first | (with_reducible assumption) | assumption)
         have q103 : x7_1 < (l0_2.length : Int) := of_decide_eq_true (by first | (with_reducible assumption) | assumption)
         obtain ⟨ad103, A103_2, c103_2, e103, hx103_0, hx103_1, hx103_2, hx103_3, hx103_4, hx103_5, hx103_6, hx103_7, hx103_8, hx103_9, hx103_10, hx103_11, hx103_12, hx103_13, hl103_2, hi103_2⟩ := at_T47 HR0_2.out x7_1 p103 q103
         obtain rfl : ad102 = ad103 := (by injection e103)
         replace hx103_0 := (HB.out.cell (blt_ hx103_0)).trans hx103_0
         replace hx103_1 := (HB.out.cell (blt_ hx103_1)).trans hx103_1
         replace hx103_2 := (HB.out.cell (blt_ hx103_2)).trans hx103_2
         replace hx103_3 := (HB.out.cell (blt_ hx103_3)).trans hx103_3
         replace hx103_4 := (HB.out.cell (blt_ hx103_4)).trans hx103_4
         replace hx103_5 := (HB.out.cell (blt_ hx103_5)).trans hx103_5
         replace hx103_6 := (HB.out.cell (blt_ hx103_6)).trans hx103_6
         replace hx103_7 := (HB.out.cell (blt_ hx103_7)).trans hx103_7
         replace hx103_8 := (HB.out.cell (blt_ hx103_8)).trans hx103_8
         replace hx103_9 := (HB.out.cell (blt_ hx103_9)).trans hx103_9
         replace hx103_10 := (HB.out.cell (blt_ hx103_10)).trans hx103_10
         replace hx103_11 := (HB.out.cell (blt_ hx103_11)).trans hx103_11
         replace hx103_12 := (HB.out.cell (blt_ hx103_12)).trans hx103_12
         replace hx103_13 := (HB.out.cell (blt_ hx103_13)).trans hx103_13
         have HR103_2 := Aside0.mk hi103_2
         have HC103_2 := Aside0.mk hl103_2
         clear hi103_2 hl103_2
         replace p103 := eq_true p103
         replace q103 := eq_true q103
         have ea_ := Option.some.inj (hx102_2.symm.trans hx103_2)
         injection ea_ with ea_ en_ ec_
         subst ea_
         subst ec_
         clear en_
         have p104 : 0 ≤ (x7_1 : Int) := of_decide_eq_true (by first | (with_reducible assumption) | assumption)
         have q104 : x7_1 < (l0_2.length : Int) := of_decide_eq_true (by first | (with_reducible assumption) | assumption)
         obtain ⟨ad104, A104_2, c104_2, e104, hx104_0, hx104_1, hx104_2, hx104_3, hx104_4, hx104_5, hx104_6, hx104_7, hx104_8, hx104_9, hx104_10, hx104_11, hx104_12, hx104_13, hl104_2, hi104_2⟩ := at_T47 HR0_2.out x7_1 p104 q104
         obtain rfl : ad102 = ad104 := (by injection e104)
         replace hx104_0 := (HB.out.cell (blt_ hx104_0)).trans hx104_0
         replace hx104_1 := (HB.out.cell (blt_ hx104_1)).trans hx104_1
         replace hx104_2 := (HB.out.cell (blt_ hx104_2)).trans hx104_2
         replace hx104_3 := (HB.out.cell (blt_ hx104_3)).trans hx104_3
         replace hx104_4 := (HB.out.cell (blt_ hx104_4)).trans hx104_4
         replace hx104_5 := (HB.out.cell (blt_ hx104_5)).trans hx104_5
         replace hx104_6 := (HB.out.cell (blt_ hx104_6)).trans hx104_6
         replace hx104_7 := (HB.out.cell (blt_ hx104_7)).trans hx104_7
         replace hx104_8 := (HB.out.cell (blt_ hx104_8)).trans hx104_8
         replace hx104_9 := (HB.out.cell (blt_ hx104_9)).trans hx104_9
         replace hx104_10 := (HB.out.cell (blt_ hx104_10)).trans hx104_10
         replace hx104_11 := (HB.out.cell (blt_ hx104_11)).trans hx104_11
         replace hx104_12 := (HB.out.cell (blt_ hx104_12)).trans hx104_12
         replace hx104_13 := (HB.out.cell (blt_ hx104_13)).trans hx104_13
         have HR104_2 := Aside0.mk hi104_2
         have HC104_2 := Aside0.mk hl104_2
         clear hi104_2 hl104_2
         replace p104 := eq_true p104
         replace q104 := eq_true q104
         have ea_ := Option.some.inj (hx102_2.symm.trans hx104_2)
         injection ea_ with ea_ en_ ec_
         subst ea_
         subst ec_
         clear en_
         go_wp2
         go_roundg k1
         case measure => have := HK1.out; omega
         case rel => exact ⟨(wrap64 (x7_1 + 1)), (by first | rfl | (simp; done) | (simp [*]; done)), H', ⟨by have := HK1.out; omega⟩, ⟨by (with_reducible repeat (first | refine blk_drewN ?_ _ | refine blk_drew ?_ | refine blk_alloc ?_ _)); exact BK101.out⟩, ⟨by repeat (first | (with_reducible first | exact HB.out | apply below_alloc | apply pw_below_drewN | apply below_drew1 | refine below_set ?_ GE101.out) | exact HB.out)⟩⟩
        ·rw [if_neg c12] at H
         have c12b0 : (((rd_T47 l0_2 x7_1).kind) == 3) = false := beq_eq_false_iff_ne.mpr c12
         have c12b1 : (((rd_T47 l0_2 x7_1).kind) != 3) = true := bne_iff_ne.mpr c12
         simp only [Option.some.injEq, Prod.mk.injEq] at H
         obtain ⟨rfl, rfl⟩ := H
         have hcz14_0 : wr.cell? ⟨gb101, 0, none⟩ = some (.string a0_0) := (blk_cell BK101.out 0).trans rfl
         have hcz14_1 : wr.cell? ⟨gb101, 1, none⟩ = some (.slice A0_1 l0_1.length c0_1) := (blk_cell BK101.out 1).trans rfl
         have hcz14_2 : wr.cell? ⟨gb101, 2, none⟩ = some (.slice A0_2 l0_2.length c0_2) := (blk_cell BK101.out 2).trans rfl
         have hfz14_0 := blk_frozen BK101.out 0
         have hfz14_1 := blk_frozen BK101.out 1
         have hfz14_2 := blk_frozen BK101.out 2
         have p102 : 0 ≤ (x7_1 : Int) := of_decide_eq_true (by first | (with_reducible assumption) | assumption)
         have q102 : x7_1 < (l0_2.length : Int) := of_decide_eq_true (by first | (with_reducible assumption) | assumption)
         obtain ⟨ad102, A102_2, c102_2, e102, hx102_0, hx102_1, hx102_2, hx102_3, hx102_4, hx102_5, hx102_6, hx102_7, hx102_8, hx102_9, hx102_10, hx102_11, hx102_12, hx102_13, hl102_2, hi102_2⟩ := at_T47 HR0_2.out x7_1 p102 q102
         cases e102
         replace hx102_0 := (HB.out.cell (blt_ hx102_0)).trans hx102_0
         replace hx102_1 := (HB.out.cell (blt_ hx102_1)).trans hx102_1
         replace hx102_2 := (HB.out.cell (blt_ hx102_2)).trans hx102_2
         replace hx102_3 := (HB.out.cell (blt_ hx102_3)).trans hx102_3
         replace hx102_4 := (HB.out.cell (blt_ hx102_4)).trans hx102_4
         replace hx102_5 := (HB.out.cell (blt_ hx102_5)).trans hx102_5
         replace hx102_6 := (HB.out.cell (blt_ hx102_6)).trans hx102_6
         replace hx102_7 := (HB.out.cell (blt_ hx102_7)).trans hx102_7
         replace hx102_8 := (HB.out.cell (blt_ hx102_8)).trans hx102_8
         replace hx102_9 := (HB.out.cell (blt_ hx102_9)).trans hx102_9
         replace hx102_10 := (HB.out.cell (blt_ hx102_10)).trans hx102_10
         replace hx102_11 := (HB.out.cell (blt_ hx102_11)).trans hx102_11
         replace hx102_12 := (HB.out.cell (blt_ hx102_12)).trans hx102_12
         replace hx102_13 := (HB.out.cell (blt_ hx102_13)).trans hx102_13
         have HR102_2 := Aside0.mk hi102_2
         have HC102_2 := Aside0.mk hl102_2
         clear hi102_2 hl102_2
         replace p102 := eq_true p102
         replace q102 := eq_true q102
         have p103 : 0 ≤ (x7_1 : Int) := of_decide_eq_true (by first | (with_reducible assumption) | assumption)
         have q103 : x7_1 < (l0_2.length : Int) := of_decide_eq_true (by first | (with_reducible assumption) | assumption)
         obtain ⟨ad103, A103_2, c103_2, e103, hx103_0, hx103_1, hx103_2, hx103_3, hx103_4, hx103_5, hx103_6, hx103_7, hx103_8, hx103_9, hx103_10, hx103_11, hx103_12, hx103_13, hl103_2, hi103_2⟩ := at_T47 HR0_2.out x7_1 p103 q103
         obtain rfl : ad102 = ad103 := (by injection e103)
         replace hx103_0 := (HB.out.cell (blt_ hx103_0)).trans hx103_0
         replace hx103_1 := (HB.out.cell (blt_ hx103_1)).trans hx103_1
         replace hx103_2 := (HB.out.cell (blt_ hx103_2)).trans hx103_2
         replace hx103_3 := (HB.out.cell (blt_ hx103_3)).trans hx103_3
         replace hx103_4 := (HB.out.cell (blt_ hx103_4)).trans hx103_4
         replace hx103_5 := (HB.out.cell (blt_ hx103_5)).trans hx103_5
         replace hx103_6 := (HB.out.cell (blt_ hx103_6)).trans hx103_6
         replace hx103_7 := (HB.out.cell (blt_ hx103_7)).trans hx103_7
         replace hx103_8 := (HB.out.cell (blt_ hx103_8)).trans hx103_8
         replace hx103_9 := (HB.out.cell (blt_ hx103_9)).trans hx103_9
         replace hx103_10 := (HB.out.cell (blt_ hx103_10)).trans hx103_10
         replace hx103_11 := (HB.out.cell (blt_ hx103_11)).trans hx103_11
         replace hx103_12 := (HB.out.cell (blt_ hx103_12)).trans hx103_12
         replace hx103_13 := (HB.out.cell (blt_ hx103_13)).trans hx103_13
         have HR103_2 := Aside0.mk hi103_2
         have HC103_2 := Aside0.mk hl103_2
         clear hi103_2 hl103_2
         replace p103 := eq_true p103
         replace q103 := eq_true q103
         have ea_ := Option.some.inj (hx102_2.symm.trans hx103_2)
         injection ea_ with ea_ en_ ec_
         subst ea_
         subst ec_
         clear en_
         have p104 : 0 ≤ (x7_1 : Int) := of_decide_eq_true (by first | (with_reducible assumption) | assumption)
         have q104 : x7_1 < (l0_2.length : Int) := of_decide_eq_true (by first | (with_reducible assumption) | assumption)
         obtain ⟨ad104, A104_2, c104_2, e104, hx104_0, hx104_1, hx104_2, hx104_3, hx104_4, hx104_5, hx104_6, hx104_7, hx104_8, hx104_9, hx104_10, hx104_11, hx104_12, hx104_13, hl104_2, hi104_2⟩ := at_T47 HR0_2.out x7_1 p104 q104
         obtain rfl : ad102 = ad104 := (by injection e104)
         replace hx104_0 := (HB.out.cell (blt_ hx104_0)).trans hx104_0
         replace hx104_1 := (HB.out.cell (blt_ hx104_1)).trans hx104_1
         replace hx104_2 := (HB.out.cell (blt_ hx104_2)).trans hx104_2
         replace hx104_3 := (HB.out.cell (blt_ hx104_3)).trans hx104_3
         replace hx104_4 := (HB.out.cell (blt_ hx104_4)).trans hx104_4
         replace hx104_5 := (HB.out.cell (blt_ hx104_5)).trans hx104_5
         replace hx104_6 := (HB.out.cell (blt_ hx104_6)).trans hx104_6
         replace hx104_7 := (HB.out.cell (blt_ hx104_7)).trans hx104_7
         replace hx104_8 := (HB.out.cell (blt_ hx104_8)).trans hx104_8
         replace hx104_9 := (HB.out.cell (blt_ hx104_9)).trans hx104_9
         replace hx104_10 := (HB.out.cell (blt_ hx104_10)).trans hx104_10
         replace hx104_11 := (HB.out.cell (blt_ hx104_11)).trans hx104_11
         replace hx104_12 := (HB.out.cell (blt_ hx104_12)).trans hx104_12
         replace hx104_13 := (HB.out.cell (blt_ hx104_13)).trans hx104_13
         have HR104_2 := Aside0.mk hi104_2
         have HC104_2 := Aside0.mk hl104_2
         clear hi104_2 hl104_2
         replace p104 := eq_true p104
         replace q104 := eq_true q104
         have ea_ := Option.some.inj (hx102_2.symm.trans hx104_2)
         injection ea_ with ea_ en_ ec_
         subst ea_
         subst ec_
         clear en_
         go_wp2
         go_ret2
         exact ⟨_, by first | rfl | (simp [errW_none, errW_some] <;> rfl) | (simp [*, errW_none, errW_some] <;> rfl), by first | exact Kd.R_nil _ _ _ _ _ | exact Kd.N_nil _ _ _ _ _ | exact Kd.V_nil _ _ _ _ _ | exact Kd.Q_nil _ _ _ _ _ | exact Kd.S_nil _ _ _ _ _, by repeat (first | (with_reducible first | exact HB.out | apply below_alloc | apply pw_below_drewN | apply below_drew1 | refine below_set ?_ GE101.out) | exact HB.out)⟩
     ·rw [if_neg c7] at H
      exact absurd H (by simp)
    ·rw [if_neg c6] at H
     exact absurd H (by simp)
   ·rw [if_neg c5] at H
    have c5b0 : decide (x7_1 < (l0_2.length : Int)) = false := decide_eq_false c5
    clear c5
    have HC15 := Aside0.mk H
    clear H
    go_upto_region 7 with (fail)
    go_cut [64] (fun v64 wc => ∃ (kq : Nat) (x64_14 : Bool), v64 = .bool x64_14 ∧ Aside0 (lambrequinref13_Order.j1 kq a1 (l0_2.length : Int) x64_14 a0_0 l0_1 l0_2 = some (r1, r2)) ∧ Aside0 (kq ≤ k1) ∧ Aside0 (wc.heap[gb101]? = some (.cells #[.string a0_0, (.slice A0_1 l0_1.length c0_1), (.slice A0_2 l0_2.length c0_2)] 27 (0, 0))) ∧ Aside0 (Below w.heap.size w wc))
    case first =>
     have H := HC15.out
     clear HC15
     by_cases c16 : a1 = (-1)
     ·rw [if_pos c16] at H
      have c16b0 : (a1 == (-1)) = true := beq_iff_eq.mpr c16
      have c16b1 : (a1 != (-1)) = false := bne_eq_false_iff_eq.mpr c16
      clear c16
      (first | rw [c16b0] | (simp only [i64_w, i32_w]; rw [c16b0]) | skip)
      have H' := Aside0.mk H
      clear H
      go_wp2
      go_meet
      case rel => exact ⟨_, (false), (by first | rfl | (simp; done) | (simp [*]; done)), H', ⟨by have := HK1.out; first | omega | exact Nat.le_refl _⟩, ⟨by (with_reducible repeat (first | refine blk_drewN ?_ _ | refine blk_drew ?_ | refine blk_alloc ?_ _)); exact BK101.out⟩, ⟨by repeat (first | (with_reducible first | exact HB.out | apply below_alloc | apply pw_below_drewN | apply below_drew1 | refine below_set ?_ GE101.out) | exact HB.out)⟩⟩
     ·rw [if_neg c16] at H
      have c16b0 : (a1 == (-1)) = false := beq_eq_false_iff_ne.mpr c16
      have c16b1 : (a1 != (-1)) = true := bne_iff_ne.mpr c16
      (first | rw [c16b0] | (simp only [i64_w, i32_w]; rw [c16b0]) | skip)
      by_cases c17 : a1 < 0
      ·rw [if_pos c17] at H
       have c17b0 : decide (a1 < 0) = true := decide_eq_true c17
       clear c17
       have H' := Aside0.mk H
       clear H
       go_wp2
       go_meet
       case rel => exact ⟨_, (true), (by first | rfl | (simp; done) | (simp [*]; done)), H', ⟨by have := HK1.out; first | omega | exact Nat.le_refl _⟩, ⟨by (with_reducible repeat (first | refine blk_drewN ?_ _ | refine blk_drew ?_ | refine blk_alloc ?_ _)); exact BK101.out⟩, ⟨by repeat (first | (with_reducible first | exact HB.out | apply below_alloc | apply pw_below_drewN | apply below_drew1 | refine below_set ?_ GE101.out) | exact HB.out)⟩⟩
      ·rw [if_neg c17] at H
       have c17b0 : decide (a1 < 0) = false := decide_eq_false c17
       clear c17
       by_cases c18 : a1 ≥ (l0_2.length : Int)
       ·rw [if_pos c18] at H
        have c18b0 : decide ((l0_2.length : Int) ≤ a1) = true := decide_eq_true c18
        clear c18
        have H' := Aside0.mk H
        clear H
        go_wp2
        go_meet
        case rel => exact ⟨_, (true), (by first | rfl | (simp; done) | (simp [*]; done)), H', ⟨by have := HK1.out; first | omega | exact Nat.le_refl _⟩, ⟨by (with_reducible repeat (first | refine blk_drewN ?_ _ | refine blk_drew ?_ | refine blk_alloc ?_ _)); exact BK101.out⟩, ⟨by repeat (first | (with_reducible first | exact HB.out | apply below_alloc | apply pw_below_drewN | apply below_drew1 | refine below_set ?_ GE101.out) | exact HB.out)⟩⟩
       ·rw [if_neg c18] at H
        have c18b0 : decide ((l0_2.length : Int) ≤ a1) = false := decide_eq_false c18
        clear c18
        by_cases c19 : 0 ≤ a1
        ·rw [if_pos c19] at H
         have c19b0 : decide (0 ≤ a1) = true := decide_eq_true c19
         clear c19
         by_cases c20 : a1 < (l0_2.length : Int)
         ·rw [if_pos c20] at H
          have c20b0 : decide (a1 < (l0_2.length : Int)) = true := decide_eq_true c20
          clear c20
          have H' := Aside0.mk H
          clear H
          have hcz21_0 : wr.cell? ⟨gb101, 0, none⟩ = some (.string a0_0) := (blk_cell BK101.out 0).trans rfl
          have hcz21_1 : wr.cell? ⟨gb101, 1, none⟩ = some (.slice A0_1 l0_1.length c0_1) := (blk_cell BK101.out 1).trans rfl
          have hcz21_2 : wr.cell? ⟨gb101, 2, none⟩ = some (.slice A0_2 l0_2.length c0_2) := (blk_cell BK101.out 2).trans rfl
          have hfz21_0 := blk_frozen BK101.out 0
          have hfz21_1 := blk_frozen BK101.out 1
          have hfz21_2 := blk_frozen BK101.out 2
          have p105 : 0 ≤ (a1 : Int) := of_decide_eq_true (by first | (with_reducible assumption) | assumption)
          have q105 : a1 < (l0_2.length : Int) := of_decide_eq_true (by first | (with_reducible assumption) | assumption)
          obtain ⟨ad105, A105_2, c105_2, e105, hx105_0, hx105_1, hx105_2, hx105_3, hx105_4, hx105_5, hx105_6, hx105_7, hx105_8, hx105_9, hx105_10, hx105_11, hx105_12, hx105_13, hl105_2, hi105_2⟩ := at_T47 HR0_2.out a1 p105 q105
          cases e105
          replace hx105_0 := (HB.out.cell (blt_ hx105_0)).trans hx105_0
          replace hx105_1 := (HB.out.cell (blt_ hx105_1)).trans hx105_1
          replace hx105_2 := (HB.out.cell (blt_ hx105_2)).trans hx105_2
          replace hx105_3 := (HB.out.cell (blt_ hx105_3)).trans hx105_3
          replace hx105_4 := (HB.out.cell (blt_ hx105_4)).trans hx105_4
          replace hx105_5 := (HB.out.cell (blt_ hx105_5)).trans hx105_5
          replace hx105_6 := (HB.out.cell (blt_ hx105_6)).trans hx105_6
          replace hx105_7 := (HB.out.cell (blt_ hx105_7)).trans hx105_7
          replace hx105_8 := (HB.out.cell (blt_ hx105_8)).trans hx105_8
          replace hx105_9 := (HB.out.cell (blt_ hx105_9)).trans hx105_9
          replace hx105_10 := (HB.out.cell (blt_ hx105_10)).trans hx105_10
          replace hx105_11 := (HB.out.cell (blt_ hx105_11)).trans hx105_11
          replace hx105_12 := (HB.out.cell (blt_ hx105_12)).trans hx105_12
          replace hx105_13 := (HB.out.cell (blt_ hx105_13)).trans hx105_13
          have HR105_2 := Aside0.mk hi105_2
          have HC105_2 := Aside0.mk hl105_2
          clear hi105_2 hl105_2
          replace p105 := eq_true p105
          replace q105 := eq_true q105
          go_wp2
          go_meet
          case rel => exact ⟨_, ((((rd_T47 l0_2 a1).kind) != 1)), (by first | rfl | (simp; done) | (simp [*]; done)), H', ⟨by have := HK1.out; first | omega | exact Nat.le_refl _⟩, ⟨by (with_reducible repeat (first | refine blk_drewN ?_ _ | refine blk_drew ?_ | refine blk_alloc ?_ _)); exact BK101.out⟩, ⟨by repeat (first | (with_reducible first | exact HB.out | apply below_alloc | apply pw_below_drewN | apply below_drew1 | refine below_set ?_ GE101.out) | exact HB.out)⟩⟩
         ·rw [if_neg c20] at H
          exact absurd H (by simp)
        ·rw [if_neg c19] at H
         exact absurd H (by simp)
    case rest =>
     clear HC15
     try clear c1
     try clear p1
     try clear q1
     try clear hx1
     try clear c2
     try clear p2
     try clear c5
     try clear c5b0
     try clear c6
     try clear c6b0
     try clear p6
     try clear c7
     try clear c7b0
     try clear c8
     try clear c8b0
     try clear c8b1
     try clear c10
     try clear c10b0
     try clear c10b1
     try clear p10
     try clear q10
     try clear hx10
     try clear c12
     try clear c12b0
     try clear c12b1
     try clear c16
     try clear c16b0
     try clear c16b1
     try clear c17
     try clear c17b0
     try clear c18
     try clear c18b0
     try clear c19
     try clear c19b0
     try clear c20
     try clear c20b0
     try clear hcz11_0
     try clear hcz11_1
     try clear hcz11_2
     try clear hcz13_0
     try clear hcz13_1
     try clear hcz13_2
     try clear hcz14_0
     try clear hcz14_1
     try clear hcz14_2
     try clear hcz21_0
     try clear hcz21_1
     try clear hcz21_2
     try clear hcz4_0
     try clear hcz4_1
     try clear hcz4_2
     try clear hcz9_0
     try clear hcz9_1
     try clear hcz9_2
     try clear hfz11_0
     try clear hfz11_1
     try clear hfz11_2
     try clear hfz13_0
     try clear hfz13_1
     try clear hfz13_2
     try clear hfz14_0
     try clear hfz14_1
     try clear hfz14_2
     try clear hfz21_0
     try clear hfz21_1
     try clear hfz21_2
     try clear hfz4_0
     try clear hfz4_1
     try clear hfz4_2
     try clear hfz9_0
     try clear hfz9_1
     try clear hfz9_2
     try clear hx102_0
     try clear hx102_1
     try clear hx102_10
     try clear hx102_11
     try clear hx102_12
     try clear hx102_13
     try clear hx102_2
     try clear hx102_3
     try clear hx102_4
     try clear hx102_5
     try clear hx102_6
     try clear hx102_7
     try clear hx102_8
     try clear hx102_9
     try clear hx103_0
     try clear hx103_1
     try clear hx103_10
     try clear hx103_11
     try clear hx103_12
     try clear hx103_13
     try clear hx103_2
     try clear hx103_3
     try clear hx103_4
     try clear hx103_5
     try clear hx103_6
     try clear hx103_7
     try clear hx103_8
     try clear hx103_9
     try clear hx104_0
     try clear hx104_1
     try clear hx104_10
     try clear hx104_11
     try clear hx104_12
     try clear hx104_13
     try clear hx104_2
     try clear hx104_3
     try clear hx104_4
     try clear hx104_5
     try clear hx104_6
     try clear hx104_7
     try clear hx104_8
     try clear hx104_9
     try clear hx105_0
     try clear hx105_1
     try clear hx105_10
     try clear hx105_11
     try clear hx105_12
     try clear hx105_13
     try clear hx105_2
     try clear hx105_3
     try clear hx105_4
     try clear hx105_5
     try clear hx105_6
     try clear hx105_7
     try clear hx105_8
     try clear hx105_9
     try clear p102
     try clear p103
     try clear p104
     try clear p105
     try clear p2
     try clear q102
     try clear q103
     try clear q104
     try clear q105
     obtain ⟨kq, x64_14, rfl, HA, HJ14, BK101, HB⟩ := hcut
     cases kq with
     | zero => exact absurd HA.out (by simp [lambrequinref13_Order.j1])
     | succ kj14 =>
      have H := HA.out
      clear HA
      simp only [lambrequinref13_Order.j1] at H
      by_cases c22 : x64_14 = true
      ·subst c22
       have H1 : (some (([] : List Int), 1)) = some (r1, r2) := by rw [if_pos rfl] at H; exact H
       clear H
       have H := H1
       clear H1
       simp only [Option.some.injEq, Prod.mk.injEq] at H
       obtain ⟨rfl, rfl⟩ := H
       go_wp2
       go_ret2
       exact ⟨_, by first | rfl | (simp [errW_none, errW_some] <;> rfl) | (simp [*, errW_none, errW_some] <;> rfl), by first | exact Kd.R_nil _ _ _ _ _ | exact Kd.N_nil _ _ _ _ _ | exact Kd.V_nil _ _ _ _ _ | exact Kd.Q_nil _ _ _ _ _ | exact Kd.S_nil _ _ _ _ _, by repeat (first | (with_reducible first | exact HB.out | apply below_alloc | apply pw_below_drewN | apply below_drew1 | refine below_set ?_ GE101.out) | exact HB.out)⟩
      ·replace c22 := Bool.eq_false_iff.mpr c22
       subst c22
       have H1 : (if 0 ≤ (l0_2.length : Int) then (if ((l0_2.length : Int) : Int).toNat ≤ 281474976710656 then (lambrequinref13_Order.l1 kj14 a1 (l0_2.length : Int) (List.replicate ((l0_2.length : Int) : Int).toNat false) ([] : List ByteArray) ([] : List Int) a0_0 l0_1 l0_2) else (none)) else (none)) = some (r1, r2) := by rw [if_neg (show ¬ (false = true) by decide)] at H; exact H
       clear H
       have H := H1
       clear H1
       by_cases c23 : 0 ≤ (l0_2.length : Int)
       ·rw [if_pos c23] at H
        have c23b0 := eq_true c23
        have c23b1 : decide (0 ≤ (l0_2.length : Int)) = true := decide_eq_true c23
        clear c23
        by_cases c24 : ((l0_2.length : Int) : Int).toNat ≤ 281474976710656
        ·rw [if_pos c24] at H
         have c24b0 := eq_true c24
         have c24b1 : decide (((l0_2.length : Int) : Int).toNat ≤ 281474976710656) = true := decide_eq_true c24
         clear c24
         obtain ⟨y106, hy106⟩ : ∃ y_ : List Bool, y_ = (List.replicate ((l0_2.length : Int) : Int).toNat false) := ⟨_, rfl⟩
         replace H : (lambrequinref13_Order.l1 kj14 a1 (l0_2.length : Int) y106 ([] : List ByteArray) ([] : List Int) a0_0 l0_1 l0_2) = some (r1, r2) := by first | (rw [hy106]; with_reducible exact H) | (have H2_ := (Option.bind_some _ _).symm.trans H; rw [hy106]; with_reducible exact H2_) | (have H2_ := (Option.bind_some _ _).symm.trans H; with_reducible exact H2_) | with_reducible exact H | (rw [hy106]; exact H) | exact H
         have Ny106 := Aside0.mk hy106
         clear hy106
         have H' := Aside0.mk H
         clear H
         go_wp2_with (first | ((with_reducible refine gate_dst (N := 66) rfl ?_); refine Kd.R_make Kd.bool _ 4 rfl (N := 66) rfl 41 _ _ rfl (l0_2.length : Int) rfl rfl Try.underlying41 (.bool false) 1 info4 rfl (by decide) (by omega) false (ok := fun _ => True) (okp := fun _ => True) rfl (fun _ hk => hk) trivial (of_decide_eq_true (by first | (with_reducible assumption) | assumption)) (Nat.le_trans (Nat.mul_le_mul_right _ (of_decide_eq_true (by first | (with_reducible assumption) | assumption) : (l0_2.length : Int).toNat ≤ 281474976710656)) (by omega)) (Below.refl _ _) (Nat.le_refl _) ?_; intro v107 w25 ho26 hb hg_ hnew_; clear hg_ hnew_; (first | rw [← Ny106.out] at ho26 | (simp only [Int.reduceToNat] at ho26; rw [← Ny106.out] at ho26)); have n0_ := Aside0.mk (Kd.R_lower ho26 (below_size (by repeat (first | (with_reducible first | exact HB.out | apply below_alloc | apply pw_below_drewN | apply below_drew1 | refine below_set ?_ GE101.out) | exact HB.out)))); have n1_ := Aside0.mk (blk_below (g := gb101) (o := .cells #[.string a0_0, .slice A0_1 l0_1.length c0_1, .slice A0_2 l0_2.length c0_2] 27 (0, 0)) (by (with_reducible repeat (first | refine blk_drewN ?_ _ | refine blk_drew ?_ | refine blk_alloc ?_ _)); exact BK101.out) hb); have n2_ := Aside0.mk (below_step (by repeat (first | (with_reducible first | exact HB.out | apply below_alloc | apply pw_below_drewN | apply below_drew1 | refine below_set ?_ GE101.out) | exact HB.out)) hb); clear BK101; clear HB; have HO108 := n0_; have BK101 := n1_; have HB := n2_; clear n0_ n1_ n2_; clear hb ho26))
         go_loopg [9, 10] kj14 (fun kq v9 v10 w' => ∃ (x8_3 : List Bool) (x9_3 : List ByteArray) (x10_3 : List Int), Aside0 (lambrequinref13_Order.l1 kq a1 (l0_2.length : Int) x8_3 x9_3 x10_3 a0_0 l0_1 l0_2 = some (r1, r2)) ∧ Aside0 (kq ≤ kj14) ∧ Aside0 (Kd.R Kd.bool 4 w' w.heap.size (fun _ => True) v107 x8_3) ∧ Aside0 (Kd.R Kd.string 9 w' w.heap.size (fun _ => True) v9 x9_3) ∧ Aside0 (Kd.R (Kd.int .i64) 3 w' w.heap.size (fun _ => True) v10 x10_3) ∧ Aside0 (w'.heap[gb101]? = some (.cells #[.string a0_0, (.slice A0_1 l0_1.length c0_1), (.slice A0_2 l0_2.length c0_2)] 27 (0, 0))) ∧ Aside0 (Below w.heap.size w w'))
         case atStart => exact ⟨(y106), (([] : List ByteArray)), (([] : List Int)), H', ⟨Nat.le_refl _⟩, ⟨by (with_reducible repeat (first | apply Kd.R_alloc | apply Kd.R_drewN | apply Kd.R_drew)); exact HO108.out⟩, ⟨by first | exact Kd.R_nil _ _ _ _ _ | exact Kd.N_nil _ _ _ _ _ | exact Kd.V_nil _ _ _ _ _ | exact Kd.Q_nil _ _ _ _ _ | exact Kd.S_nil _ _ _ _ _⟩, ⟨by first | exact Kd.R_nil _ _ _ _ _ | exact Kd.N_nil _ _ _ _ _ | exact Kd.V_nil _ _ _ _ _ | exact Kd.Q_nil _ _ _ _ _ | exact Kd.S_nil _ _ _ _ _⟩, ⟨by (with_reducible repeat (first | refine blk_drewN ?_ _ | refine blk_drew ?_ | refine blk_alloc ?_ _)); exact BK101.out⟩, ⟨by repeat (first | (with_reducible first | exact HB.out | apply below_alloc | apply pw_below_drewN | apply below_drew1 | refine below_set ?_ GE101.out) | exact HB.out)⟩⟩
         case round =>
          clear H'
          try clear c1
          try clear p1
          try clear q1
          try clear hx1
          try clear c2
          try clear p2
          try clear c5
          try clear c5b0
          try clear c6
          try clear c6b0
          try clear p6
          try clear c7
          try clear c7b0
          try clear c8
          try clear c8b0
          try clear c8b1
          try clear c10
          try clear c10b0
          try clear c10b1
          try clear p10
          try clear q10
          try clear hx10
          try clear c12
          try clear c12b0
          try clear c12b1
          try clear c16
          try clear c16b0
          try clear c16b1
          try clear c17
          try clear c17b0
          try clear c18
          try clear c18b0
          try clear c19
          try clear c19b0
          try clear c20
          try clear c20b0
          try clear c22
          try clear c23
          try clear c23b0
          try clear c23b1
          try clear c24
          try clear c24b0
          try clear c24b1
          try clear hcz11_0
          try clear hcz11_1
          try clear hcz11_2
          try clear hcz13_0
          try clear hcz13_1
          try clear hcz13_2
          try clear hcz14_0
          try clear hcz14_1
          try clear hcz14_2
          try clear hcz21_0
          try clear hcz21_1
          try clear hcz21_2
          try clear hcz4_0
          try clear hcz4_1
          try clear hcz4_2
          try clear hcz9_0
          try clear hcz9_1
          try clear hcz9_2
          try clear hfz11_0
          try clear hfz11_1
          try clear hfz11_2
          try clear hfz13_0
          try clear hfz13_1
          try clear hfz13_2
          try clear hfz14_0
          try clear hfz14_1
          try clear hfz14_2
          try clear hfz21_0
          try clear hfz21_1
          try clear hfz21_2
          try clear hfz4_0
          try clear hfz4_1
          try clear hfz4_2
          try clear hfz9_0
          try clear hfz9_1
          try clear hfz9_2
          try clear hx102_0
          try clear hx102_1
          try clear hx102_10
          try clear hx102_11
          try clear hx102_12
          try clear hx102_13
          try clear hx102_2
          try clear hx102_3
          try clear hx102_4
          try clear hx102_5
          try clear hx102_6
          try clear hx102_7
          try clear hx102_8
          try clear hx102_9
          try clear hx103_0
          try clear hx103_1
          try clear hx103_10
          try clear hx103_11
          try clear hx103_12
          try clear hx103_13
          try clear hx103_2
          try clear hx103_3
          try clear hx103_4
          try clear hx103_5
          try clear hx103_6
          try clear hx103_7
          try clear hx103_8
          try clear hx103_9
          try clear hx104_0
          try clear hx104_1
          try clear hx104_10
          try clear hx104_11
          try clear hx104_12
          try clear hx104_13
          try clear hx104_2
          try clear hx104_3
          try clear hx104_4
          try clear hx104_5
          try clear hx104_6
          try clear hx104_7
          try clear hx104_8
          try clear hx104_9
          try clear hx105_0
          try clear hx105_1
          try clear hx105_10
          try clear hx105_11
          try clear hx105_12
          try clear hx105_13
          try clear hx105_2
          try clear hx105_3
          try clear hx105_4
          try clear hx105_5
          try clear hx105_6
          try clear hx105_7
          try clear hx105_8
          try clear hx105_9
          try clear p1
          try clear p10
          try clear p102
          try clear p103
          try clear p104
          try clear p105
          try clear p2
          try clear p6
          try clear q1
          try clear q10
          try clear q102
          try clear q103
          try clear q104
          try clear q105
          obtain ⟨x8_3, x9_3, x10_3, HA, HK3, HO_8, HO_9, HO_10, BK101, HB⟩ := hrel
          cases gk with
          | zero => exact absurd HA.out (by simp [lambrequinref13_Order.l1])
          | succ k3 =>
           have H := HA.out
           clear HA
           simp only [lambrequinref13_Order.l1] at H
           by_cases c27 : (x10_3.length : Int) < (l0_2.length : Int)
           ·rw [if_pos c27] at H
            have c27b0 : decide ((x10_3.length : Int) < (l0_2.length : Int)) = true := decide_eq_true c27
            have c27b1 : decide (x10_3.length < l0_2.length) = true := decide_eq_true (Int.ofNat_lt.mp c27)
            clear c27
            replace H := Option.bind_eq_some_iff.mp H
            obtain ⟨t109, A280, H⟩ := H
            replace H : (if (x10_3.length : Int) = 0 then (lambrequinref13_Order.j3 k3 a1 (l0_2.length : Int) x8_3 x9_3 x10_3 t109 (a1 != (-1)) a0_0 l0_1 l0_2) else (lambrequinref13_Order.j3 k3 a1 (l0_2.length : Int) x8_3 x9_3 x10_3 t109 false a0_0 l0_1 l0_2)) = some (r1, r2) := H
            have A28 := Aside0.mk A280
            clear A280
            have HC29 := Aside0.mk H
            clear H
            obtain ⟨Ao30, co30, eo30⟩ := Kd.R_slice HO_10.out
            subst eo30
            have hcz31_0 : wr.cell? ⟨gb101, 0, none⟩ = some (.string a0_0) := (blk_cell BK101.out 0).trans rfl
            have hcz31_1 : wr.cell? ⟨gb101, 1, none⟩ = some (.slice A0_1 l0_1.length c0_1) := (blk_cell BK101.out 1).trans rfl
            have hcz31_2 : wr.cell? ⟨gb101, 2, none⟩ = some (.slice A0_2 l0_2.length c0_2) := (blk_cell BK101.out 2).trans rfl
            have hfz31_0 := blk_frozen BK101.out 0
            have hfz31_1 := blk_frozen BK101.out 1
            have hfz31_2 := blk_frozen BK101.out 2
            obtain ⟨Ao32, co32, eo32⟩ := Kd.R_slice HO_8.out
            subst eo32
            obtain ⟨Ao33, co33, eo33⟩ := Kd.R_slice HO_9.out
            subst eo33
            go_upto_region 14 with (first | ((with_reducible refine gate_callee (f := 44) rfl ?_); refine goesL_ (some 74) rfl rfl Try.func44 (by kernel_rfl) rfl #[.agg #[.string a0_0, .slice A0_1 l0_1.length c0_1, .slice A0_2 l0_2.length c0_2], .slice Ao32 x8_3.length co32, .slice Ao33 x9_3.length co33] rfl (by (try simp only [List.map_toArray, List.map_cons, List.map_nil]); first | done | rfl | (simp only [List.length_drop, List.length_take]; rfl)) ?_; (with_reducible refine (lambrequinref13_next.calls k3 a0_0 _ _ l0_1 _ _ l0_2 _ _ x8_3 _ _ x9_3 t109 _ ?side1 ?side2 ?side3 ?side4 ?side5 ?side6 ?side7 ?side8 A28.out).mono ?_); (case side1 => repeat (first | exact (Kd.C_below HR0_1.out HB.out) | (with_reducible refine Kd.C_alloc ?_ _) | (with_reducible refine Kd.C_drewN ?_ _) | (with_reducible refine Kd.C_drew ?_))); (case side2 => exact HC0_1.out); (case side3 => repeat (first | exact (Kd.C_below HR0_2.out HB.out) | (with_reducible refine Kd.C_alloc ?_ _) | (with_reducible refine Kd.C_drewN ?_ _) | (with_reducible refine Kd.C_drew ?_))); (case side4 => exact HC0_2.out); (case side5 => repeat (first | exact (Kd.R_reads' HO_8.out).2.2 | (with_reducible refine Kd.C_alloc ?_ _) | (with_reducible refine Kd.C_drewN ?_ _) | (with_reducible refine Kd.C_drew ?_))); (case side6 => exact (Kd.R_reads' HO_8.out).2.1); (case side7 => repeat (first | exact (Kd.R_reads' HO_9.out).2.2 | (with_reducible refine Kd.C_alloc ?_ _) | (with_reducible refine Kd.C_drewN ?_ _) | (with_reducible refine Kd.C_drew ?_))); (case side8 => exact (Kd.R_reads' HO_9.out).2.1); rintro e w34 ⟨rfl, hb⟩; refine ⟨_, rfl, ?_⟩; have n0_ := Aside0.mk (Kd.R_below (by (with_reducible repeat (first | apply Kd.R_alloc | apply Kd.R_drewN | apply Kd.R_drew)); exact HO_8.out) hb); have n1_ := Aside0.mk (Kd.R_below (by (with_reducible repeat (first | apply Kd.R_alloc | apply Kd.R_drewN | apply Kd.R_drew)); exact HO_9.out) hb); have n2_ := Aside0.mk (Kd.R_below (by (with_reducible repeat (first | apply Kd.R_alloc | apply Kd.R_drewN | apply Kd.R_drew)); exact HO_10.out) hb); have n3_ := Aside0.mk (blk_below (g := gb101) (o := .cells #[.string a0_0, .slice A0_1 l0_1.length c0_1, .slice A0_2 l0_2.length c0_2] 27 (0, 0)) (by (with_reducible repeat (first | refine blk_drewN ?_ _ | refine blk_drew ?_ | refine blk_alloc ?_ _)); exact BK101.out) hb); have n4_ := Aside0.mk (below_step (by repeat (first | (with_reducible first | exact HB.out | apply below_alloc | apply pw_below_drewN | apply below_drew1 | refine below_set ?_ GE101.out) | exact HB.out)) hb); clear HO_8; clear HO_9; clear HO_10; clear BK101; clear HB; have HO_8 := n0_; have HO_9 := n1_; have HO_10 := n2_; have BK101 := n3_; have HB := n4_; clear n0_ n1_ n2_ n3_ n4_; (try clear hb); (try clear hb2); (try clear hk); (try clear hi)))
            (try simp only [Act.put, List.setIfInBounds_toArray, List.set_cons_zero, List.set_cons_succ])
            go_cut [81] (fun v81 wc => ∃ (kq : Nat) (x81_28 : Bool), v81 = .bool x81_28 ∧ Aside0 (lambrequinref13_Order.j3 kq a1 (l0_2.length : Int) x8_3 x9_3 x10_3 t109 x81_28 a0_0 l0_1 l0_2 = some (r1, r2)) ∧ Aside0 (kq ≤ k3) ∧ Aside0 (Kd.R Kd.bool 4 wc w.heap.size (fun _ => True) (.slice Ao32 x8_3.length co32) x8_3) ∧ Aside0 (Kd.R Kd.string 9 wc w.heap.size (fun _ => True) (.slice Ao33 x9_3.length co33) x9_3) ∧ Aside0 (Kd.R (Kd.int .i64) 3 wc w.heap.size (fun _ => True) (.slice Ao30 x10_3.length co30) x10_3) ∧ Aside0 (wc.heap[gb101]? = some (.cells #[.string a0_0, (.slice A0_1 l0_1.length c0_1), (.slice A0_2 l0_2.length c0_2)] 27 (0, 0))) ∧ Aside0 (Below w.heap.size w wc))
            case first =>
             have H := HC29.out
             clear HC29
             by_cases c35 : (x10_3.length : Int) = 0
             ·rw [if_pos c35] at H
              have c35b0 : ((x10_3.length : Int) == 0) = true := beq_iff_eq.mpr c35
              have c35b1 : ((x10_3.length : Int) != 0) = false := bne_eq_false_iff_eq.mpr c35
              clear c35
              (first | rw [c35b0] | (simp only [i64_w, i32_w]; rw [c35b0]) | skip)
              have H' := Aside0.mk H
              clear H
              go_wp2
              go_meet
              case rel => exact ⟨_, ((a1 != (-1))), (by first | rfl | (simp; done) | (simp [*]; done)), H', ⟨by have := HK1.out; have := HJ14.out; have := HK3.out; first | omega | exact Nat.le_refl _⟩, ⟨by (with_reducible repeat (first | apply Kd.R_alloc | apply Kd.R_drewN | apply Kd.R_drew)); exact HO_8.out⟩, ⟨by (with_reducible repeat (first | apply Kd.R_alloc | apply Kd.R_drewN | apply Kd.R_drew)); exact HO_9.out⟩, ⟨by (with_reducible repeat (first | apply Kd.R_alloc | apply Kd.R_drewN | apply Kd.R_drew)); exact HO_10.out⟩, ⟨by (with_reducible repeat (first | refine blk_drewN ?_ _ | refine blk_drew ?_ | refine blk_alloc ?_ _)); exact BK101.out⟩, ⟨by repeat (first | (with_reducible first | exact HB.out | apply below_alloc | apply pw_below_drewN | apply below_drew1 | refine below_set ?_ GE101.out) | exact HB.out)⟩⟩
             ·rw [if_neg c35] at H
              have c35b0 : ((x10_3.length : Int) == 0) = false := beq_eq_false_iff_ne.mpr c35
              have c35b1 : ((x10_3.length : Int) != 0) = true := bne_iff_ne.mpr c35
              have c35b2 : ¬ (x10_3 = []) := fun h_ => c35 (by rw [h_]; rfl)
              (first | rw [c35b0] | (simp only [i64_w, i32_w]; rw [c35b0]) | skip)
              have H' := Aside0.mk H
              clear H
              go_wp2
              go_meet
              case rel => exact ⟨_, (false), (by first | rfl | (simp; done) | (simp [*]; done)), H', ⟨by have := HK1.out; have := HJ14.out; have := HK3.out; first | omega | exact Nat.le_refl _⟩, ⟨by (with_reducible repeat (first | apply Kd.R_alloc | apply Kd.R_drewN | apply Kd.R_drew)); exact HO_8.out⟩, ⟨by (with_reducible repeat (first | apply Kd.R_alloc | apply Kd.R_drewN | apply Kd.R_drew)); exact HO_9.out⟩, ⟨by (with_reducible repeat (first | apply Kd.R_alloc | apply Kd.R_drewN | apply Kd.R_drew)); exact HO_10.out⟩, ⟨by (with_reducible repeat (first | refine blk_drewN ?_ _ | refine blk_drew ?_ | refine blk_alloc ?_ _)); exact BK101.out⟩, ⟨by repeat (first | (with_reducible first | exact HB.out | apply below_alloc | apply pw_below_drewN | apply below_drew1 | refine below_set ?_ GE101.out) | exact HB.out)⟩⟩
            case rest =>
             clear HC29
             try clear c1
             try clear p1
             try clear q1
             try clear hx1
             try clear c2
             try clear p2
             try clear c3
             try clear c4
             try clear c5
             try clear c5b0
             try clear c6
             try clear c6b0
             try clear p6
             try clear c7
             try clear c7b0
             try clear c8
             try clear c8b0
             try clear c8b1
             try clear c10
             try clear c10b0
             try clear c10b1
             try clear p10
             try clear q10
             try clear hx10
             try clear c12
             try clear c12b0
             try clear c12b1
             try clear c16
             try clear c16b0
             try clear c16b1
             try clear c17
             try clear c17b0
             try clear c18
             try clear c18b0
             try clear c19
             try clear c19b0
             try clear c20
             try clear c20b0
             try clear c22
             try clear c23
             try clear c23b0
             try clear c23b1
             try clear c24
             try clear c24b0
             try clear c24b1
             try clear c27
             try clear c27b0
             try clear c27b1
             try clear c35
             try clear c35b0
             try clear c35b1
             try clear c35b2
             try clear hcz11_0
             try clear hcz11_1
             try clear hcz11_2
             try clear hcz13_0
             try clear hcz13_1
             try clear hcz13_2
             try clear hcz14_0
             try clear hcz14_1
             try clear hcz14_2
             try clear hcz21_0
             try clear hcz21_1
             try clear hcz21_2
             try clear hcz31_0
             try clear hcz31_1
             try clear hcz31_2
             try clear hcz4_0
             try clear hcz4_1
             try clear hcz4_2
             try clear hcz9_0
             try clear hcz9_1
             try clear hcz9_2
             try clear hfz11_0
             try clear hfz11_1
             try clear hfz11_2
             try clear hfz13_0
             try clear hfz13_1
             try clear hfz13_2
             try clear hfz14_0
             try clear hfz14_1
             try clear hfz14_2
             try clear hfz21_0
             try clear hfz21_1
             try clear hfz21_2
             try clear hfz31_0
             try clear hfz31_1
             try clear hfz31_2
             try clear hfz4_0
             try clear hfz4_1
             try clear hfz4_2
             try clear hfz9_0
             try clear hfz9_1
             try clear hfz9_2
             try clear hx102_0
             try clear hx102_1
             try clear hx102_10
             try clear hx102_11
             try clear hx102_12
             try clear hx102_13
             try clear hx102_2
             try clear hx102_3
             try clear hx102_4
             try clear hx102_5
             try clear hx102_6
             try clear hx102_7
             try clear hx102_8
             try clear hx102_9
             try clear hx103_0
             try clear hx103_1
             try clear hx103_10
             try clear hx103_11
             try clear hx103_12
             try clear hx103_13
             try clear hx103_2
             try clear hx103_3
             try clear hx103_4
             try clear hx103_5
             try clear hx103_6
             try clear hx103_7
             try clear hx103_8
             try clear hx103_9
             try clear hx104_0
             try clear hx104_1
             try clear hx104_10
             try clear hx104_11
             try clear hx104_12
             try clear hx104_13
             try clear hx104_2
             try clear hx104_3
             try clear hx104_4
             try clear hx104_5
             try clear hx104_6
             try clear hx104_7
             try clear hx104_8
             try clear hx104_9
             try clear hx105_0
             try clear hx105_1
             try clear hx105_10
             try clear hx105_11
             try clear hx105_12
             try clear hx105_13
             try clear hx105_2
             try clear hx105_3
             try clear hx105_4
             try clear hx105_5
             try clear hx105_6
             try clear hx105_7
             try clear hx105_8
             try clear hx105_9
             try clear p1
             try clear p10
             try clear p102
             try clear p103
             try clear p104
             try clear p105
             try clear p2
             try clear p6
             try clear q1
             try clear q10
             try clear q102
             try clear q103
             try clear q104
             try clear q105
             obtain ⟨kq, x81_28, rfl, HA, HJ28, HO_8, HO_9, HO_10, BK101, HB⟩ := hcut
             cases kq with
             | zero => exact absurd HA.out (by simp [lambrequinref13_Order.j3])
             | succ kj28 =>
              have H := HA.out
              clear HA
              simp only [lambrequinref13_Order.j3] at H
              have HC36 := Aside0.mk H
              clear H
              go_upto_if 81 with (fail)
              go_cut [11] (fun v11 wc => ∃ (kq : Nat) (x11_35 : Int), v11 = .int .i64 x11_35 ∧ Aside0 (lambrequinref13_Order.j4 kq a1 (l0_2.length : Int) x8_3 x9_3 x10_3 x11_35 a0_0 l0_1 l0_2 = some (r1, r2)) ∧ Aside0 (kq ≤ kj28) ∧ Aside0 (Kd.R Kd.bool 4 wc w.heap.size (fun _ => True) (.slice Ao32 x8_3.length co32) x8_3) ∧ Aside0 (Kd.R Kd.string 9 wc w.heap.size (fun _ => True) (.slice Ao33 x9_3.length co33) x9_3) ∧ Aside0 (Kd.R (Kd.int .i64) 3 wc w.heap.size (fun _ => True) (.slice Ao30 x10_3.length co30) x10_3) ∧ Aside0 (wc.heap[gb101]? = some (.cells #[.string a0_0, (.slice A0_1 l0_1.length c0_1), (.slice A0_2 l0_2.length c0_2)] 27 (0, 0))) ∧ Aside0 (Below w.heap.size w wc))
              case first =>
               have H := HC36.out
               clear HC36
               by_cases c37 : x81_28 = true
               ·subst c37
                have H1 : (lambrequinref13_Order.j4 kj28 a1 (l0_2.length : Int) x8_3 x9_3 x10_3 a1 a0_0 l0_1 l0_2) = some (r1, r2) := by rw [if_pos rfl] at H; exact H
                clear H
                have H := H1
                clear H1
                have H' := Aside0.mk H
                clear H
                go_wp2
                go_meet
                case rel => exact ⟨_, (a1), (by first | rfl | (simp; done) | (simp [*]; done)), H', ⟨by have := HK1.out; have := HJ14.out; have := HK3.out; have := HJ28.out; first | omega | exact Nat.le_refl _⟩, ⟨by (with_reducible repeat (first | apply Kd.R_alloc | apply Kd.R_drewN | apply Kd.R_drew)); exact HO_8.out⟩, ⟨by (with_reducible repeat (first | apply Kd.R_alloc | apply Kd.R_drewN | apply Kd.R_drew)); exact HO_9.out⟩, ⟨by (with_reducible repeat (first | apply Kd.R_alloc | apply Kd.R_drewN | apply Kd.R_drew)); exact HO_10.out⟩, ⟨by (with_reducible repeat (first | refine blk_drewN ?_ _ | refine blk_drew ?_ | refine blk_alloc ?_ _)); exact BK101.out⟩, ⟨by repeat (first | (with_reducible first | exact HB.out | apply below_alloc | apply pw_below_drewN | apply below_drew1 | refine below_set ?_ GE101.out) | exact HB.out)⟩⟩
               ·replace c37 := Bool.eq_false_iff.mpr c37
                subst c37
                have H1 : (lambrequinref13_Order.j4 kj28 a1 (l0_2.length : Int) x8_3 x9_3 x10_3 t109 a0_0 l0_1 l0_2) = some (r1, r2) := by rw [if_neg (show ¬ (false = true) by decide)] at H; exact H
                clear H
                have H := H1
                clear H1
                have H' := Aside0.mk H
                clear H
                go_wp2
                go_meet
                case rel => exact ⟨_, (t109), (by first | rfl | (simp; done) | (simp [*]; done)), H', ⟨by have := HK1.out; have := HJ14.out; have := HK3.out; have := HJ28.out; first | omega | exact Nat.le_refl _⟩, ⟨by (with_reducible repeat (first | apply Kd.R_alloc | apply Kd.R_drewN | apply Kd.R_drew)); exact HO_8.out⟩, ⟨by (with_reducible repeat (first | apply Kd.R_alloc | apply Kd.R_drewN | apply Kd.R_drew)); exact HO_9.out⟩, ⟨by (with_reducible repeat (first | apply Kd.R_alloc | apply Kd.R_drewN | apply Kd.R_drew)); exact HO_10.out⟩, ⟨by (with_reducible repeat (first | refine blk_drewN ?_ _ | refine blk_drew ?_ | refine blk_alloc ?_ _)); exact BK101.out⟩, ⟨by repeat (first | (with_reducible first | exact HB.out | apply below_alloc | apply pw_below_drewN | apply below_drew1 | refine below_set ?_ GE101.out) | exact HB.out)⟩⟩
              case rest =>
               clear HC36
               try clear c1
               try clear p1
               try clear q1
               try clear hx1
               try clear c2
               try clear p2
               try clear c3
               try clear c4
               try clear c5
               try clear c5b0
               try clear c6
               try clear c6b0
               try clear p6
               try clear c7
               try clear c7b0
               try clear c8
               try clear c8b0
               try clear c8b1
               try clear c10
               try clear c10b0
               try clear c10b1
               try clear p10
               try clear q10
               try clear hx10
               try clear c12
               try clear c12b0
               try clear c12b1
               try clear c16
               try clear c16b0
               try clear c16b1
               try clear c17
               try clear c17b0
               try clear c18
               try clear c18b0
               try clear c19
               try clear c19b0
               try clear c20
               try clear c20b0
               try clear c22
               try clear c23
               try clear c23b0
               try clear c23b1
               try clear c24
               try clear c24b0
               try clear c24b1
               try clear c27
               try clear c27b0
               try clear c27b1
               try clear c35
               try clear c35b0
               try clear c35b1
               try clear c35b2
               try clear c37
               try clear hcz11_0
               try clear hcz11_1
               try clear hcz11_2
               try clear hcz13_0
               try clear hcz13_1
               try clear hcz13_2
               try clear hcz14_0
               try clear hcz14_1
               try clear hcz14_2
               try clear hcz21_0
               try clear hcz21_1
               try clear hcz21_2
               try clear hcz31_0
               try clear hcz31_1
               try clear hcz31_2
               try clear hcz4_0
               try clear hcz4_1
               try clear hcz4_2
               try clear hcz9_0
               try clear hcz9_1
               try clear hcz9_2
               try clear hfz11_0
               try clear hfz11_1
               try clear hfz11_2
               try clear hfz13_0
               try clear hfz13_1
               try clear hfz13_2
               try clear hfz14_0
               try clear hfz14_1
               try clear hfz14_2
               try clear hfz21_0
               try clear hfz21_1
               try clear hfz21_2
               try clear hfz31_0
               try clear hfz31_1
               try clear hfz31_2
               try clear hfz4_0
               try clear hfz4_1
               try clear hfz4_2
               try clear hfz9_0
               try clear hfz9_1
               try clear hfz9_2
               try clear hx102_0
               try clear hx102_1
               try clear hx102_10
               try clear hx102_11
               try clear hx102_12
               try clear hx102_13
               try clear hx102_2
               try clear hx102_3
               try clear hx102_4
               try clear hx102_5
               try clear hx102_6
               try clear hx102_7
               try clear hx102_8
               try clear hx102_9
               try clear hx103_0
               try clear hx103_1
               try clear hx103_10
               try clear hx103_11
               try clear hx103_12
               try clear hx103_13
               try clear hx103_2
               try clear hx103_3
               try clear hx103_4
               try clear hx103_5
               try clear hx103_6
               try clear hx103_7
               try clear hx103_8
               try clear hx103_9
               try clear hx104_0
               try clear hx104_1
               try clear hx104_10
               try clear hx104_11
               try clear hx104_12
               try clear hx104_13
               try clear hx104_2
               try clear hx104_3
               try clear hx104_4
               try clear hx104_5
               try clear hx104_6
               try clear hx104_7
               try clear hx104_8
               try clear hx104_9
               try clear hx105_0
               try clear hx105_1
               try clear hx105_10
               try clear hx105_11
               try clear hx105_12
               try clear hx105_13
               try clear hx105_2
               try clear hx105_3
               try clear hx105_4
               try clear hx105_5
               try clear hx105_6
               try clear hx105_7
               try clear hx105_8
               try clear hx105_9
               try clear p1
               try clear p10
               try clear p102
               try clear p103
               try clear p104
               try clear p105
               try clear p2
               try clear p6
               try clear q1
               try clear q10
               try clear q102
               try clear q103
               try clear q104
               try clear q105
               obtain ⟨kq, x11_35, rfl, HA, HJ35, HO_8, HO_9, HO_10, BK101, HB⟩ := hcut
               cases kq with
               | zero => exact absurd HA.out (by simp [lambrequinref13_Order.j4])
               | succ kj35 =>
                have H := HA.out
                clear HA
                simp only [lambrequinref13_Order.j4] at H
                by_cases c38 : x11_35 < 0
                ·rw [if_pos c38] at H
                 have c38b0 : decide (x11_35 < 0) = true := decide_eq_true c38
                 clear c38
                 simp only [Option.some.injEq, Prod.mk.injEq] at H
                 obtain ⟨rfl, rfl⟩ := H
                 go_wp2
                 go_ret2
                 exact ⟨_, by first | rfl | (simp [errW_none, errW_some] <;> rfl) | (simp [*, errW_none, errW_some] <;> rfl), by first | exact Kd.R_nil _ _ _ _ _ | exact Kd.N_nil _ _ _ _ _ | exact Kd.V_nil _ _ _ _ _ | exact Kd.Q_nil _ _ _ _ _ | exact Kd.S_nil _ _ _ _ _, by repeat (first | (with_reducible first | exact HB.out | apply below_alloc | apply pw_below_drewN | apply below_drew1 | refine below_set ?_ GE101.out) | exact HB.out)⟩
                ·rw [if_neg c38] at H
                 have c38b0 : decide (x11_35 < 0) = false := decide_eq_false c38
                 clear c38
                 by_cases c39 : 0 ≤ x11_35
                 ·rw [if_pos c39] at H
                  have c39b0 : decide (0 ≤ x11_35) = true := decide_eq_true c39
                  clear c39
                  by_cases c40 : x11_35 < (x8_3.length : Int)
                  ·rw [if_pos c40] at H
                   have c40b0 : decide (x11_35 < (x8_3.length : Int)) = true := decide_eq_true c40
                   clear c40
                   obtain ⟨y110, hy110⟩ : ∃ y_ : List Bool, y_ = (x8_3.set (x11_35 : Int).toNat true) := ⟨_, rfl⟩
                   replace H : (if x10_3.length < 17592186044416 then ((some (x10_3 ++ [x11_35] : List Int)).bind fun y111 => (if x11_35 < (l0_2.length : Int) then (if ((rd_T47 l0_2 x11_35).kind) = 1 then ((lambrequinref09_Vars.f kj35 ((rd_T47 l0_2 x11_35).atom.pred) ((rd_T47 l0_2 x11_35).atom.args)).bind fun t116 => (if x9_3.length + t116.length < 8796093022208 then (lambrequinref13_Order.l1 kj35 a1 (l0_2.length : Int) y110 (x9_3 ++ t116) y111 a0_0 l0_1 l0_2) else (none))) else (lambrequinref13_Order.l1 kj35 a1 (l0_2.length : Int) y110 x9_3 y111 a0_0 l0_1 l0_2)) else (none))) else (none)) = some (r1, r2) := by first | (rw [hy110]; with_reducible exact H) | (have H2_ := (Option.bind_some _ _).symm.trans H; rw [hy110]; with_reducible exact H2_) | (have H2_ := (Option.bind_some _ _).symm.trans H; with_reducible exact H2_) | with_reducible exact H | (rw [hy110]; exact H) | exact H
                   have Ny110 := Aside0.mk hy110
                   clear hy110
                   by_cases c42 : x10_3.length < 17592186044416
                   ·rw [if_pos c42] at H
                    have LMc42 := Aside0.mk c42
                    clear c42
                    obtain ⟨y111, hy111⟩ : ∃ y_ : List Int, y_ = (x10_3 ++ [x11_35]) := ⟨_, rfl⟩
                    replace H : (if x11_35 < (l0_2.length : Int) then (if ((rd_T47 l0_2 x11_35).kind) = 1 then ((lambrequinref09_Vars.f kj35 ((rd_T47 l0_2 x11_35).atom.pred) ((rd_T47 l0_2 x11_35).atom.args)).bind fun t116 => (if x9_3.length + t116.length < 8796093022208 then (lambrequinref13_Order.l1 kj35 a1 (l0_2.length : Int) y110 (x9_3 ++ t116) y111 a0_0 l0_1 l0_2) else (none))) else (lambrequinref13_Order.l1 kj35 a1 (l0_2.length : Int) y110 x9_3 y111 a0_0 l0_1 l0_2)) else (none)) = some (r1, r2) := by first | (rw [hy111]; with_reducible exact H) | (have H2_ := (Option.bind_some _ _).symm.trans H; rw [hy111]; with_reducible exact H2_) | (have H2_ := (Option.bind_some _ _).symm.trans H; with_reducible exact H2_) | with_reducible exact H | (rw [hy111]; exact H) | exact H
                    have Ny111 := Aside0.mk hy111
                    clear hy111
                    by_cases c43 : x11_35 < (l0_2.length : Int)
                    ·rw [if_pos c43] at H
                     have c43b0 : decide (x11_35 < (l0_2.length : Int)) = true := decide_eq_true c43
                     clear c43
                     by_cases c44 : ((rd_T47 l0_2 x11_35).kind) = 1
                     ·rw [if_pos c44] at H
                      have c44b0 : (((rd_T47 l0_2 x11_35).kind) == 1) = true := beq_iff_eq.mpr c44
                      have c44b1 : (((rd_T47 l0_2 x11_35).kind) != 1) = false := bne_eq_false_iff_eq.mpr c44
                      clear c44
                      replace H := Option.bind_eq_some_iff.mp H
                      obtain ⟨t116, A450, H⟩ := H
                      replace H : (if x9_3.length + t116.length < 8796093022208 then (lambrequinref13_Order.l1 kj35 a1 (l0_2.length : Int) y110 (x9_3 ++ t116) y111 a0_0 l0_1 l0_2) else (none)) = some (r1, r2) := H
                      have A45 := Aside0.mk A450
                      clear A450
                      by_cases c46 : x9_3.length + t116.length < 8796093022208
                      ·rw [if_pos c46] at H
                       have LMc46 := Aside0.mk c46
                       clear c46
                       obtain ⟨y119, hy119⟩ : ∃ y_ : List ByteArray, y_ = (x9_3 ++ t116) := ⟨_, rfl⟩
                       replace H : (lambrequinref13_Order.l1 kj35 a1 (l0_2.length : Int) y110 y119 y111 a0_0 l0_1 l0_2) = some (r1, r2) := by first | (rw [hy119]; with_reducible exact H) | (have H2_ := (Option.bind_some _ _).symm.trans H; rw [hy119]; with_reducible exact H2_) | (have H2_ := (Option.bind_some _ _).symm.trans H; with_reducible exact H2_) | with_reducible exact H | (rw [hy119]; exact H) | exact H
                       have Ny119 := Aside0.mk hy119
                       clear hy119
                       have H' := Aside0.mk H
                       clear H
                       have p41 : 0 ≤ (x11_35 : Int) := of_decide_eq_true (by first | (with_reducible assumption) | assumption)
                       have q41 : (x11_35 : Int) < ((x8_3.length : Int) : Int) := of_decide_eq_true (by first | (with_reducible assumption) | assumption)
                       obtain ⟨go41, co41, eo41, gb41, gl41, cl41, HG41⟩ := Kd.R_form HO_8.out (by omega)
                       (first | cases eo41 | (injection eo41 with ea_ en_ ec_; (first | subst ea_ | (injection ea_ with ea_; subst ea_)); subst ec_; clear en_))
                       have GB41 := Aside0.mk gb41
                       have GG41 := Aside0.mk HG41
                       clear gb41 gl41 HG41
                       obtain ⟨hx41_0, hf41_0⟩ := Kd.R_celln false HO_8.out (x11_35 : Int) p41 q41
                       replace p41 := eq_true p41
                       replace q41 := eq_true q41
                       have HP47 := Kd.R_putg HO_8.out (x11_35 : Int) true
                       go_wp2_with (first | ((with_reducible refine gate_store (t := 4) (p := 87) rfl ?_); refine store_event (t := 4) (p := 87) (v := ?vo_w48) (w1 := (wc.setCell ⟨go41, (x11_35 : Int).toNat, none⟩ (.bool true))) ?hg ?ho ?hn ?hr ?_; (case ho => rfl); (case hg => rfl); (case hn => rfl); (case hr => first | (go_simp; done) | (go_simp; rfl)); intro w48 hw; have hg : wc.grownBy w48 (some go41) := (by rw [hw]; exact HP47.2); have hp_ : Kd.R Kd.bool 4 w48 w.heap.size (fun _ => True) (.slice (some ⟨go41, 0, none⟩) x8_3.length co32) y110 := (by rw [hw, Ny110.out]; exact HP47.1); clear HP47; have n0_ := Aside0.mk (hp_); have n1_ := Aside0.mk (Kd.R_over' (v := (.slice (some ⟨go41, 0, none⟩) x8_3.length co32)) (by (with_reducible repeat (first | apply Kd.R_alloc | apply Kd.R_drewN | apply Kd.R_drew)); exact HO_9.out) (Kd.R_typed HO_8.out) (by decide) hg); have n2_ := Aside0.mk (Kd.R_over' (v := (.slice (some ⟨go41, 0, none⟩) x8_3.length co32)) (by (with_reducible repeat (first | apply Kd.R_alloc | apply Kd.R_drewN | apply Kd.R_drew)); exact HO_10.out) (Kd.R_typed HO_8.out) (by decide) hg); have n3_ := Aside0.mk (blk_grown (g := gb101) (o := .cells #[.string a0_0, .slice A0_1 l0_1.length c0_1, .slice A0_2 l0_2.length c0_2] 27 (0, 0)) (by (with_reducible repeat (first | refine blk_drewN ?_ _ | refine blk_drew ?_ | refine blk_alloc ?_ _)); exact BK101.out) hg (Kd.R_ne HO_8.out BK101.out (by decide))); have n4_ := Aside0.mk ((by rw [hw]; exact below_set (HB.out) GB41.out : Below w.heap.size w w48)); clear HO_8; clear HO_9; clear HO_10; clear BK101; clear HB; have HO_8 := n0_; have HO_9 := n1_; have HO_10 := n2_; have BK101 := n3_; have HB := n4_; clear n0_ n1_ n2_ n3_ n4_; clear hg hw hp_) | ((with_reducible refine gate_builtin (b := .append) (xs := #[.tmp 88, .tmp 90]) rfl ?_); at_builtin; refine Kd.R_append (Kd.int .i64) (w0 := w) w.heap.size rfl (.tmp 88) (.tmp 90) 31 3 (.int .i64 0) 8 rfl Try.underlying31 info3 rfl (by decide) (by omega) (.slice Ao30 x10_3.length co30) x10_3 x11_35 [.int .i64 x11_35] (fun _ => True) (fun _ => False) rfl rfl ?aP (fun _ hk => hk.elim) ?aF ?aO ?aB ?aS ?aL ?_; (case aP => exact rfl); (case aB => exact (by repeat (first | (with_reducible first | exact HB.out | apply below_alloc | apply pw_below_drewN | apply below_drew1 | refine below_set ?_ GE101.out) | exact HB.out))); (case aF => exact (fun _ _ => trivial)); (case aO => exact (by (with_reducible repeat (first | apply Kd.R_alloc | apply Kd.R_drewN | apply Kd.R_drew)); exact HO_10.out)); (case aS => exact (below_size (by repeat (first | (with_reducible first | exact HB.out | apply below_alloc | apply pw_below_drewN | apply below_drew1 | refine below_set ?_ GE101.out) | exact HB.out)))); (case aL => have := LMc42.out; omega); intro v112 w49 ho hb hg hat; rw [← Ny111.out] at ho; have n0_ := Aside0.mk (Kd.R_over' (by (with_reducible repeat (first | apply Kd.R_alloc | apply Kd.R_drewN | apply Kd.R_drew)); exact HO_8.out) (Kd.R_typed (by (with_reducible repeat (first | apply Kd.R_alloc | apply Kd.R_drewN | apply Kd.R_drew)); exact HO_10.out)) (by decide) hg); have n1_ := Aside0.mk (Kd.R_over' (by (with_reducible repeat (first | apply Kd.R_alloc | apply Kd.R_drewN | apply Kd.R_drew)); exact HO_9.out) (Kd.R_typed (by (with_reducible repeat (first | apply Kd.R_alloc | apply Kd.R_drewN | apply Kd.R_drew)); exact HO_10.out)) (by decide) hg); have n2_ := Aside0.mk (blk_grown (g := gb101) (o := .cells #[.string a0_0, .slice A0_1 l0_1.length c0_1, .slice A0_2 l0_2.length c0_2] 27 (0, 0)) (by (with_reducible repeat (first | refine blk_drewN ?_ _ | refine blk_drew ?_ | refine blk_alloc ?_ _)); exact BK101.out) hg (Kd.R_ne HO_10.out BK101.out (by decide))); have n3_ := Aside0.mk (hb); have n4_ := Aside0.mk (ho); clear HO_8; clear HO_9; clear BK101; clear HB; clear HO_10; have HO_8 := n0_; have HO_9 := n1_; have BK101 := n2_; have HB := n3_; have HO113 := n4_; clear n0_ n1_ n2_ n3_ n4_; clear ho hb hg hat; have hcz50_0 : w49.cell? ⟨gb101, 0, none⟩ = some (.string a0_0) := (blk_cell BK101.out 0).trans rfl; have hcz50_1 : w49.cell? ⟨gb101, 1, none⟩ = some (.slice A0_1 l0_1.length c0_1) := (blk_cell BK101.out 1).trans rfl; have hcz50_2 : w49.cell? ⟨gb101, 2, none⟩ = some (.slice A0_2 l0_2.length c0_2) := (blk_cell BK101.out 2).trans rfl; have hfz50_0 := blk_frozen BK101.out 0; have hfz50_1 := blk_frozen BK101.out 1; have hfz50_2 := blk_frozen BK101.out 2; have p114 : 0 ≤ (x11_35 : Int) := of_decide_eq_true (by first | (with_reducible assumption) | assumption); have q114 : x11_35 < (l0_2.length : Int) := of_decide_eq_true (by first | (with_reducible assumption) | assumption); obtain ⟨ad114, A114_2, c114_2, e114, hx114_0, hx114_1, hx114_2, hx114_3, hx114_4, hx114_5, hx114_6, hx114_7, hx114_8, hx114_9, hx114_10, hx114_11, hx114_12, hx114_13, hl114_2, hi114_2⟩ := at_T47 HR0_2.out x11_35 p114 q114; cases e114; replace hx114_0 := (HB.out.cell (blt_ hx114_0)).trans hx114_0; replace hx114_1 := (HB.out.cell (blt_ hx114_1)).trans hx114_1; replace hx114_2 := (HB.out.cell (blt_ hx114_2)).trans hx114_2; replace hx114_3 := (HB.out.cell (blt_ hx114_3)).trans hx114_3; replace hx114_4 := (HB.out.cell (blt_ hx114_4)).trans hx114_4; replace hx114_5 := (HB.out.cell (blt_ hx114_5)).trans hx114_5; replace hx114_6 := (HB.out.cell (blt_ hx114_6)).trans hx114_6; replace hx114_7 := (HB.out.cell (blt_ hx114_7)).trans hx114_7; replace hx114_8 := (HB.out.cell (blt_ hx114_8)).trans hx114_8; replace hx114_9 := (HB.out.cell (blt_ hx114_9)).trans hx114_9; replace hx114_10 := (HB.out.cell (blt_ hx114_10)).trans hx114_10; replace hx114_11 := (HB.out.cell (blt_ hx114_11)).trans hx114_11; replace hx114_12 := (HB.out.cell (blt_ hx114_12)).trans hx114_12; replace hx114_13 := (HB.out.cell (blt_ hx114_13)).trans hx114_13; have HR114_2 := Aside0.mk hi114_2; have HC114_2 := Aside0.mk hl114_2; clear hi114_2 hl114_2; replace p114 := eq_true p114; replace q114 := eq_true q114; have p115 : 0 ≤ (x11_35 : Int) := of_decide_eq_true (by first | (with_reducible assumption) | assumption); have q115 : x11_35 < (l0_2.length : Int) := of_decide_eq_true (by first | (with_reducible assumption) | assumption); obtain ⟨ad115, A115_2, c115_2, e115, hx115_0, hx115_1, hx115_2, hx115_3, hx115_4, hx115_5, hx115_6, hx115_7, hx115_8, hx115_9, hx115_10, hx115_11, hx115_12, hx115_13, hl115_2, hi115_2⟩ := at_T47 HR0_2.out x11_35 p115 q115; obtain rfl : ad114 = ad115 := (by injection e115); replace hx115_0 := (HB.out.cell (blt_ hx115_0)).trans hx115_0; replace hx115_1 := (HB.out.cell (blt_ hx115_1)).trans hx115_1; replace hx115_2 := (HB.out.cell (blt_ hx115_2)).trans hx115_2; replace hx115_3 := (HB.out.cell (blt_ hx115_3)).trans hx115_3; replace hx115_4 := (HB.out.cell (blt_ hx115_4)).trans hx115_4; replace hx115_5 := (HB.out.cell (blt_ hx115_5)).trans hx115_5; replace hx115_6 := (HB.out.cell (blt_ hx115_6)).trans hx115_6; replace hx115_7 := (HB.out.cell (blt_ hx115_7)).trans hx115_7; replace hx115_8 := (HB.out.cell (blt_ hx115_8)).trans hx115_8; replace hx115_9 := (HB.out.cell (blt_ hx115_9)).trans hx115_9; replace hx115_10 := (HB.out.cell (blt_ hx115_10)).trans hx115_10; replace hx115_11 := (HB.out.cell (blt_ hx115_11)).trans hx115_11; replace hx115_12 := (HB.out.cell (blt_ hx115_12)).trans hx115_12; replace hx115_13 := (HB.out.cell (blt_ hx115_13)).trans hx115_13; have HR115_2 := Aside0.mk hi115_2; have HC115_2 := Aside0.mk hl115_2; clear hi115_2 hl115_2; replace p115 := eq_true p115; replace q115 := eq_true q115; have ea_ := Option.some.inj (hx114_2.symm.trans hx115_2); injection ea_ with ea_ en_ ec_; subst ea_; subst ec_; clear en_) | ((with_reducible refine gate_callee (f := 22) rfl ?_); refine goesL_ (some 106) rfl rfl Try.func22 (by kernel_rfl) rfl #[.agg #[.string ((rd_T47 l0_2 x11_35).atom.pred), .slice A114_2 ((rd_T47 l0_2 x11_35).atom.args).length c114_2]] rfl (by (try simp only [List.map_toArray, List.map_cons, List.map_nil]); first | done | rfl | (simp only [List.length_drop, List.length_take]; rfl)) ?_; (with_reducible refine (lambrequinref09_Vars.calls kj35 ((rd_T47 l0_2 x11_35).atom.pred) _ _ ((rd_T47 l0_2 x11_35).atom.args) t116 _ ?side1 ?side2 A45.out).mono ?_); (case side1 => repeat (first | exact (Kd.C_below HR115_2.out HB.out) | (with_reducible refine Kd.C_alloc ?_ _) | (with_reducible refine Kd.C_drewN ?_ _) | (with_reducible refine Kd.C_drew ?_))); (case side2 => exact HC115_2.out); rintro e w51 ⟨v117, rfl, ho0, hb⟩; refine ⟨_, rfl, ?_⟩; have n0_ := Aside0.mk (Kd.R_below (by (with_reducible repeat (first | apply Kd.R_alloc | apply Kd.R_drewN | apply Kd.R_drew)); exact HO_8.out) hb); have n1_ := Aside0.mk (Kd.R_elder' (by (with_reducible repeat (first | apply Kd.R_alloc | apply Kd.R_drewN | apply Kd.R_drew)); exact HO_9.out) (Kd.R_base ho0) hb); have n2_ := Aside0.mk (Kd.R_below (by (with_reducible repeat (first | apply Kd.R_alloc | apply Kd.R_drewN | apply Kd.R_drew)); exact HO113.out) hb); have n3_ := Aside0.mk (Kd.R_lower (Kd.R_new' ho0 (Kd.R_lt (by (with_reducible repeat (first | apply Kd.R_alloc | apply Kd.R_drewN | apply Kd.R_drew)); exact HO_9.out))) (below_size (by repeat (first | (with_reducible first | exact HB.out | apply below_alloc | apply pw_below_drewN | apply below_drew1 | refine below_set ?_ GE101.out) | exact HB.out)))); have n4_ := Aside0.mk (blk_below (g := gb101) (o := .cells #[.string a0_0, .slice A0_1 l0_1.length c0_1, .slice (some ad114) l0_2.length c0_2] 27 (0, 0)) (by (with_reducible repeat (first | refine blk_drewN ?_ _ | refine blk_drew ?_ | refine blk_alloc ?_ _)); exact BK101.out) hb); have n5_ := Aside0.mk (below_step (by repeat (first | (with_reducible first | exact HB.out | apply below_alloc | apply pw_below_drewN | apply below_drew1 | refine below_set ?_ GE101.out) | exact HB.out)) hb); clear HO_8; clear HO_9; clear HO113; clear BK101; clear HB; have HO_8 := n0_; have HO_9 := n1_; have HO113 := n2_; have HO118 := n3_; have BK101 := n4_; have HB := n5_; clear n0_ n1_ n2_ n3_ n4_ n5_; (try clear hb); (try clear hb2); (try clear hk); (try clear hi); (try clear ho0); obtain ⟨Ao53, co53, eo53⟩ := Kd.R_slice HO118.out; subst eo53) | ((with_reducible refine gate_builtin (b := .append) (xs := #[.tmp 99, .tmp 106]) rfl ?_); at_builtin; refine Kd.R_append_rows Kd.string (w0 := w) w.heap.size rfl (.tmp 99) (.tmp 106) 28 9 (.string ⟨#[]⟩) 16 rfl Try.underlying28 info9 rfl (by decide) (by omega) (.slice Ao33 x9_3.length co33) x9_3 t116 _ _ _ (fun k_ => some k_ ≠ (.slice Ao53 t116.length co53 : Value).ownBlock) (fun _ => False) rfl rfl ?aO ?aR (fun _ _ h => h) (fun _ h => h.elim) ?aF ?aB ?aS ?aL ?_; (case aR => repeat (first | exact (Kd.R_reads' HO118.out).2.2 | (with_reducible refine Kd.C_alloc ?_ _) | (with_reducible refine Kd.C_drewN ?_ _) | (with_reducible refine Kd.C_drew ?_))); (case aB => exact (by repeat (first | (with_reducible first | exact HB.out | apply below_alloc | apply pw_below_drewN | apply below_drew1 | refine below_set ?_ GE101.out) | exact HB.out))); (case aF => exact (fun k_ hk => Kd.fresh' (Kd.R_lt (by (with_reducible repeat (first | apply Kd.R_alloc | apply Kd.R_drewN | apply Kd.R_drew)); exact HO118.out)) k_ hk)); (case aO => exact (by (with_reducible repeat (first | apply Kd.R_alloc | apply Kd.R_drewN | apply Kd.R_drew)); exact Kd.R_mono HO_9.out (fun _ hk => hk.2))); (case aS => exact (below_size (by repeat (first | (with_reducible first | exact HB.out | apply below_alloc | apply pw_below_drewN | apply below_drew1 | refine below_set ?_ GE101.out) | exact HB.out)))); (case aL => have := LMc46.out; omega); intro v120 w52 ho hb hg hat; rw [← Ny119.out] at ho; have n0_ := Aside0.mk (Kd.R_over' (by (with_reducible repeat (first | apply Kd.R_alloc | apply Kd.R_drewN | apply Kd.R_drew)); exact HO_8.out) (Kd.R_typed (by (with_reducible repeat (first | apply Kd.R_alloc | apply Kd.R_drewN | apply Kd.R_drew)); exact HO_9.out)) (by decide) hg); have n1_ := Aside0.mk (blk_grown (g := gb101) (o := .cells #[.string a0_0, .slice A0_1 l0_1.length c0_1, .slice (some ad114) l0_2.length c0_2] 27 (0, 0)) (by (with_reducible repeat (first | refine blk_drewN ?_ _ | refine blk_drew ?_ | refine blk_alloc ?_ _)); exact BK101.out) hg (Kd.R_ne HO_9.out BK101.out (by decide))); have n2_ := Aside0.mk (Kd.R_over' (by (with_reducible repeat (first | apply Kd.R_alloc | apply Kd.R_drewN | apply Kd.R_drew)); exact HO113.out) (Kd.R_typed (by (with_reducible repeat (first | apply Kd.R_alloc | apply Kd.R_drewN | apply Kd.R_drew)); exact HO_9.out)) (by decide) hg); have n3_ := Aside0.mk (Kd.R_after (ok := (fun _ => True)) (by (with_reducible repeat (first | apply Kd.R_alloc | apply Kd.R_drewN | apply Kd.R_drew)); exact HO118.out) hg hat); have n4_ := Aside0.mk (hb); have n5_ := Aside0.mk (ho); clear HO_8; clear BK101; clear HO113; clear HO118; clear HB; clear HO_9; have HO_8 := n0_; have BK101 := n1_; have HO113 := n2_; have HO118 := n3_; have HB := n4_; have HO121 := n5_; clear n0_ n1_ n2_ n3_ n4_ n5_; clear ho hb hg hat))
                       go_roundg kj35
                       case measure => have := HK1.out; have := HJ14.out; have := HK3.out; have := HJ28.out; have := HJ35.out; omega
                       case rel => exact ⟨(y110), (y119), (y111), H', ⟨by have := HK1.out; have := HJ14.out; have := HK3.out; have := HJ28.out; have := HJ35.out; omega⟩, ⟨by (with_reducible repeat (first | apply Kd.R_alloc | apply Kd.R_drewN | apply Kd.R_drew)); exact HO_8.out⟩, ⟨by (with_reducible repeat (first | apply Kd.R_alloc | apply Kd.R_drewN | apply Kd.R_drew)); exact Kd.R_mono HO121.out (fun _ hk => trivial)⟩, ⟨by (with_reducible repeat (first | apply Kd.R_alloc | apply Kd.R_drewN | apply Kd.R_drew)); exact HO113.out⟩, ⟨by (with_reducible repeat (first | refine blk_drewN ?_ _ | refine blk_drew ?_ | refine blk_alloc ?_ _)); exact BK101.out⟩, ⟨by repeat (first | (with_reducible first | exact HB.out | apply below_alloc | apply pw_below_drewN | apply below_drew1 | refine below_set ?_ GE101.out) | exact HB.out)⟩⟩
                      ·rw [if_neg c46] at H
                       exact absurd H (by simp)
                     ·rw [if_neg c44] at H
                      have c44b0 : (((rd_T47 l0_2 x11_35).kind) == 1) = false := beq_eq_false_iff_ne.mpr c44
                      have c44b1 : (((rd_T47 l0_2 x11_35).kind) != 1) = true := bne_iff_ne.mpr c44
                      have H' := Aside0.mk H
                      clear H
                      have p41 : 0 ≤ (x11_35 : Int) := of_decide_eq_true (by first | (with_reducible assumption) | assumption)
                      have q41 : (x11_35 : Int) < ((x8_3.length : Int) : Int) := of_decide_eq_true (by first | (with_reducible assumption) | assumption)
                      obtain ⟨go41, co41, eo41, gb41, gl41, cl41, HG41⟩ := Kd.R_form HO_8.out (by omega)
                      (first | cases eo41 | (injection eo41 with ea_ en_ ec_; (first | subst ea_ | (injection ea_ with ea_; subst ea_)); subst ec_; clear en_))
                      have GB41 := Aside0.mk gb41
                      have GG41 := Aside0.mk HG41
                      clear gb41 gl41 HG41
                      obtain ⟨hx41_0, hf41_0⟩ := Kd.R_celln false HO_8.out (x11_35 : Int) p41 q41
                      replace p41 := eq_true p41
                      replace q41 := eq_true q41
                      have HP54 := Kd.R_putg HO_8.out (x11_35 : Int) true
                      go_wp2_with (first | ((with_reducible refine gate_store (t := 4) (p := 87) rfl ?_); refine store_event (t := 4) (p := 87) (v := ?vo_w55) (w1 := (wc.setCell ⟨go41, (x11_35 : Int).toNat, none⟩ (.bool true))) ?hg ?ho ?hn ?hr ?_; (case ho => rfl); (case hg => rfl); (case hn => rfl); (case hr => first | (go_simp; done) | (go_simp; rfl)); intro w55 hw; have hg : wc.grownBy w55 (some go41) := (by rw [hw]; exact HP54.2); have hp_ : Kd.R Kd.bool 4 w55 w.heap.size (fun _ => True) (.slice (some ⟨go41, 0, none⟩) x8_3.length co32) y110 := (by rw [hw, Ny110.out]; exact HP54.1); clear HP54; have n0_ := Aside0.mk (hp_); have n1_ := Aside0.mk (Kd.R_over' (v := (.slice (some ⟨go41, 0, none⟩) x8_3.length co32)) (by (with_reducible repeat (first | apply Kd.R_alloc | apply Kd.R_drewN | apply Kd.R_drew)); exact HO_9.out) (Kd.R_typed HO_8.out) (by decide) hg); have n2_ := Aside0.mk (Kd.R_over' (v := (.slice (some ⟨go41, 0, none⟩) x8_3.length co32)) (by (with_reducible repeat (first | apply Kd.R_alloc | apply Kd.R_drewN | apply Kd.R_drew)); exact HO_10.out) (Kd.R_typed HO_8.out) (by decide) hg); have n3_ := Aside0.mk (blk_grown (g := gb101) (o := .cells #[.string a0_0, .slice A0_1 l0_1.length c0_1, .slice A0_2 l0_2.length c0_2] 27 (0, 0)) (by (with_reducible repeat (first | refine blk_drewN ?_ _ | refine blk_drew ?_ | refine blk_alloc ?_ _)); exact BK101.out) hg (Kd.R_ne HO_8.out BK101.out (by decide))); have n4_ := Aside0.mk ((by rw [hw]; exact below_set (HB.out) GB41.out : Below w.heap.size w w55)); clear HO_8; clear HO_9; clear HO_10; clear BK101; clear HB; have HO_8 := n0_; have HO_9 := n1_; have HO_10 := n2_; have BK101 := n3_; have HB := n4_; clear n0_ n1_ n2_ n3_ n4_; clear hg hw hp_) | ((with_reducible refine gate_builtin (b := .append) (xs := #[.tmp 88, .tmp 90]) rfl ?_); at_builtin; refine Kd.R_append (Kd.int .i64) (w0 := w) w.heap.size rfl (.tmp 88) (.tmp 90) 31 3 (.int .i64 0) 8 rfl Try.underlying31 info3 rfl (by decide) (by omega) (.slice Ao30 x10_3.length co30) x10_3 x11_35 [.int .i64 x11_35] (fun _ => True) (fun _ => False) rfl rfl ?aP (fun _ hk => hk.elim) ?aF ?aO ?aB ?aS ?aL ?_; (case aP => exact rfl); (case aB => exact (by repeat (first | (with_reducible first | exact HB.out | apply below_alloc | apply pw_below_drewN | apply below_drew1 | refine below_set ?_ GE101.out) | exact HB.out))); (case aF => exact (fun _ _ => trivial)); (case aO => exact (by (with_reducible repeat (first | apply Kd.R_alloc | apply Kd.R_drewN | apply Kd.R_drew)); exact HO_10.out)); (case aS => exact (below_size (by repeat (first | (with_reducible first | exact HB.out | apply below_alloc | apply pw_below_drewN | apply below_drew1 | refine below_set ?_ GE101.out) | exact HB.out)))); (case aL => have := LMc42.out; omega); intro v112 w56 ho hb hg hat; rw [← Ny111.out] at ho; have n0_ := Aside0.mk (Kd.R_over' (by (with_reducible repeat (first | apply Kd.R_alloc | apply Kd.R_drewN | apply Kd.R_drew)); exact HO_8.out) (Kd.R_typed (by (with_reducible repeat (first | apply Kd.R_alloc | apply Kd.R_drewN | apply Kd.R_drew)); exact HO_10.out)) (by decide) hg); have n1_ := Aside0.mk (Kd.R_over' (by (with_reducible repeat (first | apply Kd.R_alloc | apply Kd.R_drewN | apply Kd.R_drew)); exact HO_9.out) (Kd.R_typed (by (with_reducible repeat (first | apply Kd.R_alloc | apply Kd.R_drewN | apply Kd.R_drew)); exact HO_10.out)) (by decide) hg); have n2_ := Aside0.mk (blk_grown (g := gb101) (o := .cells #[.string a0_0, .slice A0_1 l0_1.length c0_1, .slice A0_2 l0_2.length c0_2] 27 (0, 0)) (by (with_reducible repeat (first | refine blk_drewN ?_ _ | refine blk_drew ?_ | refine blk_alloc ?_ _)); exact BK101.out) hg (Kd.R_ne HO_10.out BK101.out (by decide))); have n3_ := Aside0.mk (hb); have n4_ := Aside0.mk (ho); clear HO_8; clear HO_9; clear BK101; clear HB; clear HO_10; have HO_8 := n0_; have HO_9 := n1_; have BK101 := n2_; have HB := n3_; have HO113 := n4_; clear n0_ n1_ n2_ n3_ n4_; clear ho hb hg hat; have hcz57_0 : w56.cell? ⟨gb101, 0, none⟩ = some (.string a0_0) := (blk_cell BK101.out 0).trans rfl; have hcz57_1 : w56.cell? ⟨gb101, 1, none⟩ = some (.slice A0_1 l0_1.length c0_1) := (blk_cell BK101.out 1).trans rfl; have hcz57_2 : w56.cell? ⟨gb101, 2, none⟩ = some (.slice A0_2 l0_2.length c0_2) := (blk_cell BK101.out 2).trans rfl; have hfz57_0 := blk_frozen BK101.out 0; have hfz57_1 := blk_frozen BK101.out 1; have hfz57_2 := blk_frozen BK101.out 2; have p114 : 0 ≤ (x11_35 : Int) := of_decide_eq_true (by first | (with_reducible assumption) | assumption); have q114 : x11_35 < (l0_2.length : Int) := of_decide_eq_true (by first | (with_reducible assumption) | assumption); obtain ⟨ad114, A114_2, c114_2, e114, hx114_0, hx114_1, hx114_2, hx114_3, hx114_4, hx114_5, hx114_6, hx114_7, hx114_8, hx114_9, hx114_10, hx114_11, hx114_12, hx114_13, hl114_2, hi114_2⟩ := at_T47 HR0_2.out x11_35 p114 q114; cases e114; replace hx114_0 := (HB.out.cell (blt_ hx114_0)).trans hx114_0; replace hx114_1 := (HB.out.cell (blt_ hx114_1)).trans hx114_1; replace hx114_2 := (HB.out.cell (blt_ hx114_2)).trans hx114_2; replace hx114_3 := (HB.out.cell (blt_ hx114_3)).trans hx114_3; replace hx114_4 := (HB.out.cell (blt_ hx114_4)).trans hx114_4; replace hx114_5 := (HB.out.cell (blt_ hx114_5)).trans hx114_5; replace hx114_6 := (HB.out.cell (blt_ hx114_6)).trans hx114_6; replace hx114_7 := (HB.out.cell (blt_ hx114_7)).trans hx114_7; replace hx114_8 := (HB.out.cell (blt_ hx114_8)).trans hx114_8; replace hx114_9 := (HB.out.cell (blt_ hx114_9)).trans hx114_9; replace hx114_10 := (HB.out.cell (blt_ hx114_10)).trans hx114_10; replace hx114_11 := (HB.out.cell (blt_ hx114_11)).trans hx114_11; replace hx114_12 := (HB.out.cell (blt_ hx114_12)).trans hx114_12; replace hx114_13 := (HB.out.cell (blt_ hx114_13)).trans hx114_13; have HR114_2 := Aside0.mk hi114_2; have HC114_2 := Aside0.mk hl114_2; clear hi114_2 hl114_2; replace p114 := eq_true p114; replace q114 := eq_true q114))
                      go_roundg kj35
                      case measure => have := HK1.out; have := HJ14.out; have := HK3.out; have := HJ28.out; have := HJ35.out; omega
                      case rel => exact ⟨(y110), (x9_3), (y111), H', ⟨by have := HK1.out; have := HJ14.out; have := HK3.out; have := HJ28.out; have := HJ35.out; omega⟩, ⟨by (with_reducible repeat (first | apply Kd.R_alloc | apply Kd.R_drewN | apply Kd.R_drew)); exact HO_8.out⟩, ⟨by (with_reducible repeat (first | apply Kd.R_alloc | apply Kd.R_drewN | apply Kd.R_drew)); exact HO_9.out⟩, ⟨by (with_reducible repeat (first | apply Kd.R_alloc | apply Kd.R_drewN | apply Kd.R_drew)); exact HO113.out⟩, ⟨by (with_reducible repeat (first | refine blk_drewN ?_ _ | refine blk_drew ?_ | refine blk_alloc ?_ _)); exact BK101.out⟩, ⟨by repeat (first | (with_reducible first | exact HB.out | apply below_alloc | apply pw_below_drewN | apply below_drew1 | refine below_set ?_ GE101.out) | exact HB.out)⟩⟩
                    ·rw [if_neg c43] at H
                     exact absurd H (by simp)
                   ·rw [if_neg c42] at H
                    exact absurd H (by simp)
                  ·rw [if_neg c40] at H
                   exact absurd H (by simp)
                 ·rw [if_neg c39] at H
                  exact absurd H (by simp)
           ·rw [if_neg c27] at H
            have c27b0 : decide ((x10_3.length : Int) < (l0_2.length : Int)) = false := decide_eq_false c27
            have c27b1 : decide (x10_3.length < l0_2.length) = false := decide_eq_false (fun h => c27 (Int.ofNat_lt.mpr h))
            clear c27
            simp only [Option.some.injEq, Prod.mk.injEq] at H
            obtain ⟨rfl, rfl⟩ := H
            obtain ⟨Ao58, co58, eo58⟩ := Kd.R_slice HO_10.out
            subst eo58
            go_wp2
            go_ret2
            exact ⟨_, by first | rfl | (simp [errW_none, errW_some] <;> rfl) | (simp [*, errW_none, errW_some] <;> rfl), by (with_reducible repeat (first | apply Kd.R_alloc | apply Kd.R_drewN | apply Kd.R_drew)); exact HO_10.out, by repeat (first | (with_reducible first | exact HB.out | apply below_alloc | apply pw_below_drewN | apply below_drew1 | refine below_set ?_ GE101.out) | exact HB.out)⟩
        ·rw [if_neg c24] at H
         exact absurd H (by simp)
       ·rw [if_neg c23] at H
        exact absurd H (by simp)

end Go.Proofs.Ythpejcnldecmoaa.H
namespace Go.Proofs.Ythpejcnldecmoaa.H
open Go.RowKit Go.Proofs.YthpejcnldecmoaaW.PrintWords
set_option linter.unusedVariables false
set_option linter.unusedSimpArgs false
/-- what is left from a place on -/
def leftFrom (o : List Nat) (n d : Nat) : List Nat := (List.range' n d).filter fun k => !o.contains k
/-- which places are done, as the reference keeps them -/
def doneOf (body : List Liter) (o : List Nat) : List Bool := (List.range body.length).map fun k => o.contains k
theorem doneOf_len (body : List Liter) (o : List Nat) : (doneOf body o).length = body.length := by simp [doneOf]
theorem doneOf_at {body : List Liter} {o : List Nat} {n : Nat} (h : n < body.length) : rdOf false (doneOf body o) (n : Int) = o.contains n := by
  unfold rdOf doneOf
  rw [getD_at (y := o.contains n) (by simp [h])]
theorem doneOf_set {body : List Liter} {o : List Nat} {n : Nat} (h : n < body.length) : (doneOf body o).set n true = doneOf body (o ++ [n]) := by
  apply List.ext_getElem?
  intro i
  by_cases hi : i < body.length
  · by_cases e : n = i
    · subst e; simp [doneOf, h]
    · have e' : ¬ i = n := fun h => e h.symm
      simp [doneOf, List.getElem?_set, hi, e, e', List.contains_eq_mem]
  · simp [doneOf, List.getElem?_set, hi]
/-- the reference's choice -/
def refPick (body : List Liter) (b : List ByteArray) (l : List Nat) (s : Option Nat × Int) : Option Nat := match l.find? (fun k => asks b (lit body k)) with | some k => some k | none => (bestGo body b l s).1
theorem next_l0 (p : ByteArray) (h : List Term) (body : List Liter) (o : List Nat) (b : List ByteArray) (hb : b.length ≤ 9223372036854775807) (hl : body.length ≤ 1000000) (ha : ∀ y ∈ body, y.atom.args.length ≤ 1000000) :
    ∀ (d n : Nat) (s : Option Nat × Int), n + d = body.length → Ev (fun k => lambrequinref13_next.l0 k (doneOf body o) b (optInt s.1) s.2 n p h body) (optInt (refPick body b (leftFrom o n d) s)) := by
  intro d
  induction d with
  | zero =>
    intro n s e
    refine Ev.step (fun k => by rw [lambrequinref13_next.l0]) ?_
    exact Ev.neg (by omega) (Ev.some rfl)
  | succ d ih =>
    intro n s e
    obtain ⟨y, r, hd, hy⟩ := at_more (l := body) (n := n) (by omega)
    obtain ⟨h1, h2, h3, h4, h5⟩ := drop_more hd (by omega)
    have ly := lit_of hy
    have hay := ha y (List.mem_of_getElem? hy)
    refine Ev.step (fun k => by rw [lambrequinref13_next.l0]) ?_
    refine Ev.pos h1 (Ev.pos h2 (Ev.pos (by rw [doneOf_len]; omega) ?_))
    rw [doneOf_at (by omega), show rd_T47 body n = y from h3 _, h5]
    have hlf : leftFrom o n (d + 1) = if o.contains n then leftFrom o (n + 1) d else n :: leftFrom o (n + 1) d := by
      unfold leftFrom
      rw [List.range'_succ, List.filter_cons]
      cases o.contains n <;> simp
    rw [hlf]
    cases hc : o.contains n with
    | true => exact Ev.pos rfl (ih (n + 1) s (by omega))
    | false =>
      refine Ev.neg (by simp) ?_
      by_cases hk : y.kind = 1
      · refine Ev.pos hk (Ev.step (fun k => by rw [lambrequinref13_next.j1]) ?_)
        rw [h5]
        refine Ev.neg (by simp) (Ev.bind (rCols_ev _ _ b hb hay) (Ev.pos hk ?_))
        have hna : asks b y = false := by simp [asks, ly, hk]
        by_cases hm : s.2 < ((cols b y.atom.args).length : Int)
        · refine Ev.pos hm (Ev.iff (ih (n + 1) (some n, ((cols b y.atom.args).length : Int)) (by omega)) ?_)
          simp [refPick, List.find?_cons, hna, bestGo, ly, hk, hm]
        · refine Ev.neg hm (Ev.iff (ih (n + 1) s (by omega)) ?_)
          simp [refPick, List.find?_cons, hna, bestGo, ly, hm]
      · refine Ev.neg hk (Ev.pure (Terms_eq y) (Ev.bind (Known_ev _ b hb (by unfold litTerms; split; simp; omega)) (Ev.step (fun k => by rw [lambrequinref13_next.j1]) ?_)))
        rw [h5]
        cases hkn : allKnown b (litTerms y) with
        | true =>
          have hna : asks b y = true := by simp [asks, ly, hk, known_eq, hkn]
          exact Ev.pos rfl (Ev.some (by simp [refPick, List.find?_cons, ly, hna, optInt]))
        | false =>
          have hna : asks b y = false := by simp [asks, ly, known_eq, hkn]
          refine Ev.neg (by simp) (Ev.bind (rCols_ev _ _ b hb hay) (Ev.neg hk (Ev.iff (ih (n + 1) s (by omega)) ?_)))
          simp [refPick, List.find?_cons, hna, bestGo, ly, hk]
theorem leftFrom_all (body : List Liter) (o : List Nat) : leftFrom o 0 body.length = (stOf body o).left := by
  unfold leftFrom stOf
  rw [List.range_eq_range']
theorem next_ev (p : ByteArray) (h : List Term) (body : List Liter) (o : List Nat) (b : List ByteArray) (hb : b.length ≤ 9223372036854775807) (hl : body.length ≤ 1000000) (ha : ∀ y ∈ body, y.atom.args.length ≤ 1000000) (e : b = boundOf body o) :
    Ev (fun k => lambrequinref13_next.f k p h body (doneOf body o) b) (optInt (nextOf body (stOf body o))) := by
  refine Ev.iff (next_l0 p h body o b hb hl ha body.length 0 (none, -1) (by omega)) ?_
  rw [leftFrom_all, e]
  unfold refPick nextOf testOf bestOf
  rfl
/-! ### the reference's order -/
def endOf (o : Option (List Nat)) : List Int × Int := match o with | some l => (ints l, 0) | none => ([], 6)
def stepEnd (body : List Liter) (o : List Nat) : Option Nat → List Int × Int
  | some k => endOf (runOf body body.length (stOf body (o ++ [k])))
  | none => ([], 6)
section
variable (p : ByteArray) (h : List Term) (body : List Liter) (first : Int) (hl : body.length ≤ 1000) (ha : ∀ y ∈ body, y.atom.args.length ≤ 1000)
include hl ha
/-- a step of the reference -/
theorem order_j4 (o : List Nat) (i : Int) (ho : ∀ k ∈ o, k < body.length) (hn : o.Nodup) (on : Option Nat) (hi : i = optInt on) (hon : ∀ k, on = some k → k < body.length ∧ k ∉ o)
    (hrest : ∀ k, on = some k → Ev (fun n => lambrequinref13_Order.l1 n first (body.length : Int) (doneOf body (o ++ [k])) (boundOf body (o ++ [k])) (ints (o ++ [k])) p h body) (endOf (runOf body body.length (stOf body (o ++ [k]))))) :
    Ev (fun n => lambrequinref13_Order.j4 n first (body.length : Int) (doneOf body o) (boundOf body o) (ints o) i p h body) (stepEnd body o on) := by
  subst hi
  refine Ev.step (fun k => by rw [lambrequinref13_Order.j4]) ?_
  cases on with
  | none => exact Ev.pos (by simp [optInt]) (Ev.now _)
  | some k =>
    obtain ⟨hk, hko⟩ := hon k rfl
    have hle := left_len body o hn ho
    have hbl := boundOf_len body ha o ho
    obtain ⟨y, r, hd, hy⟩ := at_more (l := body) (n := k) hk
    have ly := lit_of hy
    have hr := hrest k rfl
    have e1 : ints (o ++ [k]) = ints o ++ [(k : Int)] := by simp [ints]
    rw [e1, ← doneOf_set hk, boundOf_snoc, ly] at hr
    rw [show optInt (some k) = (k : Int) from rfl]
    refine Ev.neg (by omega) (Ev.pos (by omega) (Ev.pos (by rw [doneOf_len]; omega) (Ev.pure rfl (Ev.pos (by rw [ints_len']; omega) (Ev.pure rfl (Ev.pos (by omega) ?_))))))
    rw [show rd_T47 body (k : Int) = y from getD_at hy _, Int.toNat_natCast]
    by_cases hk1 : y.kind = 1
    · rw [if_pos hk1] at hr
      have hay := ha y (List.mem_of_getElem? hy)
      have := names_len y.atom.args
      exact Ev.pos hk1 (Ev.bind (Vars_ev _ _ (by omega)) (Ev.pos (by omega) hr))
    · rw [if_neg hk1] at hr
      exact Ev.neg hk1 hr
theorem order_l1 : ∀ (d : Nat) (o : List Nat), o.length + d = body.length → (∀ k ∈ o, k < body.length) → o.Nodup → (o = [] → first = -1) →
    Ev (fun n => lambrequinref13_Order.l1 n first (body.length : Int) (doneOf body o) (boundOf body o) (ints o) p h body) (endOf (runOf body body.length (stOf body o))) := by
  intro d
  induction d with
  | zero =>
    intro o e ho hn hf
    have hle := left_len body o hn ho
    refine Ev.step (fun k => by rw [lambrequinref13_Order.l1]) ?_
    refine Ev.neg (by rw [ints_len']; omega) (Ev.some ?_)
    rw [runOf_step (by omega), if_pos (List.length_eq_zero_iff.1 (by omega))]
    rfl
  | succ d ih =>
    intro o e ho hn hf
    have hle := left_len body o hn ho
    have hbl := boundOf_len body ha o ho
    refine Ev.step (fun k => by rw [lambrequinref13_Order.l1]) ?_
    refine Ev.pos (by rw [ints_len']; omega) (Ev.bind (next_ev p h body o _ (by omega) (by omega) (fun y hy => by have := ha y hy; omega) rfl) ?_)
    have hj4 : Ev (fun n => lambrequinref13_Order.j4 n first (body.length : Int) (doneOf body o) (boundOf body o) (ints o) (optInt (nextOf body (stOf body o))) p h body) (endOf (runOf body body.length (stOf body o))) := by
      refine Ev.iff (order_j4 p h body first hl ha o _ ho hn (nextOf body (stOf body o)) rfl (fun k hk => stOf_left.1 (nextOf_mem hk)) fun k hk => ?_) ?_
      · obtain ⟨h1, h2⟩ := stOf_left.1 (nextOf_mem hk)
        exact ih (o ++ [k]) (by simp; omega) (fun j hj => by rcases List.mem_append.1 hj with hj | hj; exact ho j hj; simp at hj; omega) (List.nodup_append.2 ⟨hn, by simp, by simp; intro a ha' e; exact h2 (e ▸ ha')⟩) (by simp)
      · rw [runOf_step (n := body.length) (s := stOf body o) (by omega), if_neg (by intro h0; rw [h0] at hle; simp at hle; omega)]
        cases hx : nextOf body (stOf body o) with
        | none => rfl
        | some k =>
          obtain ⟨h1, h2⟩ := stOf_left.1 (nextOf_mem hx)
          show endOf _ = endOf (runOf body (body.length - 1) (takeOf body (stOf body o) k))
          rw [stOf_take]
          have hle' := left_len body (o ++ [k]) (List.nodup_append.2 ⟨hn, by simp, by simp; intro a ha' e; exact h2 (e ▸ ha')⟩) (fun j hj => by rcases List.mem_append.1 hj with hj | hj; exact ho j hj; simp at hj; omega)
          simp at hle'
          rw [runOf_any (n := body.length) (m := body.length - 1) (by omega) (by omega)]
    have hj3 : ∀ c : Bool, (c = true → False) → Ev (fun n => lambrequinref13_Order.j3 n first (body.length : Int) (doneOf body o) (boundOf body o) (ints o) (optInt (nextOf body (stOf body o))) c p h body) (endOf (runOf body body.length (stOf body o))) := by
      intro c hc
      refine Ev.step (fun k => by rw [lambrequinref13_Order.j3]) ?_
      exact Ev.neg hc hj4
    by_cases h0 : o.length = 0
    · have hf' := hf (List.length_eq_zero_iff.1 h0)
      refine Ev.pos (by rw [ints_len']; omega) (hj3 _ (by subst hf'; decide))
    · exact Ev.neg (by rw [ints_len']; omega) (hj3 _ (by simp))
theorem order_start (hg : badFirst body first = false) :
    Ev (fun n => lambrequinref13_Order.l1 n first (body.length : Int) (doneOf body []) (boundOf body []) (ints []) p h body) (ints (orderOf body first).1, (orderOf body first).2) := by
  have e0 : (ints (orderOf body first).1, (orderOf body first).2) = endOf (runOf body body.length (if 0 ≤ first then takeOf body (planStart body) first.toNat else planStart body)) := by
    unfold orderOf; rw [hg]
    simp only [Bool.false_eq_true, if_false]
    generalize runOf body body.length (if 0 ≤ first then takeOf body (planStart body) first.toNat else planStart body) = z
    cases z <;> rfl
  rw [e0, stOf_start]
  have hb : (body.any odd = false) ∧ ¬ first < -1 ∧ ¬ (body.length : Int) ≤ first ∧ (0 ≤ first → (lit body first.toNat).kind = 1) := by
    simp only [badFirst, Bool.or_eq_false_iff, Bool.and_eq_false_iff, decide_eq_false_iff_not] at hg
    refine ⟨hg.1.1.1, hg.1.1.2, hg.1.2, fun h => ?_⟩
    rcases hg.2 with h1 | h1
    · exact absurd h h1
    · simpa using h1
  by_cases hf : 0 ≤ first
  · rw [if_pos hf, stOf_take]
    obtain ⟨k, rfl⟩ : ∃ k : Nat, first = k := ⟨first.toNat, by omega⟩
    refine Ev.step (fun k => by rw [lambrequinref13_Order.l1]) ?_
    refine Ev.pos (by rw [ints_len']; simp; omega) (Ev.bind (next_ev p h body [] _ (by simp [boundOf]) (by omega) (fun y hy => by have := ha y hy; omega) rfl) ?_)
    refine Ev.pos (by simp [ints]) (Ev.step (fun k => by rw [lambrequinref13_Order.j3]) ?_)
    refine Ev.pos (by simp) ?_
    refine Ev.iff (order_j4 p h body k hl ha [] (k : Int) (by simp) (by simp) (some k) rfl (fun j hj => by cases hj; exact ⟨by omega, by simp⟩) fun j hj => ?_) ?_
    · cases hj
      exact order_l1 p h body k hl ha (body.length - 1) [k] (by simp; omega) (by simp; omega) (by simp) (by simp)
    · rfl
  · rw [if_neg hf]
    exact order_l1 p h body first hl ha body.length [] (by simp) (by simp) (by simp) (fun _ => by omega)
end
section
variable (p : ByteArray) (h : List Term) (body : List Liter) (first : Int) (hl : body.length ≤ 1000) (ha : ∀ y ∈ body, y.atom.args.length ≤ 1000)
include hl ha
theorem order_j1 (c : Bool) (hc : c = badHead body first) (ho : body.any odd = false) :
    Ev (fun n => lambrequinref13_Order.j1 n first (body.length : Int) c p h body) (ints (orderOf body first).1, (orderOf body first).2) := by
  subst hc
  refine Ev.step (fun k => by rw [lambrequinref13_Order.j1]) ?_
  cases hb : badHead body first with
  | true =>
    have : badFirst body first = true := by rw [badFirst_eq, ho, hb]; rfl
    exact Ev.pos rfl (Ev.some (by simp [orderOf, this, ints]))
  | false =>
    refine Ev.neg (by simp) (Ev.pos (by omega) (Ev.pos (by simp; omega) ?_))
    have := order_start p h body first hl ha (by rw [badFirst_eq, ho, hb]; rfl)
    have e : List.replicate (((body.length : Nat) : Int).toNat) false = doneOf body [] := by
      apply List.ext_getElem?
      intro i
      simp [doneOf, List.getElem?_replicate]
      by_cases hi : i < body.length <;> simp [hi]
    rw [e]
    exact this
theorem order_l0 : ∀ (d n : Nat), n + d = body.length → (∀ y ∈ body.take n, odd y = false) → Ev (fun k => lambrequinref13_Order.l0 k first (body.length : Int) n p h body) (ints (orderOf body first).1, (orderOf body first).2) := by
  intro d
  induction d with
  | zero =>
    intro n e hn
    rw [List.take_of_length_le (by omega)] at hn
    have ho : body.any odd = false := by simpa using hn
    refine Ev.step (fun k => by rw [lambrequinref13_Order.l0]) ?_
    refine Ev.neg (by omega) ?_
    have J := fun c hc => order_j1 p h body first hl ha c hc ho
    by_cases c1 : first = -1
    · refine Ev.pos c1 (J _ ?_)
      subst c1
      simp [badHead]; omega
    · refine Ev.neg c1 ?_
      by_cases c2 : first < 0
      · refine Ev.pos c2 (J _ ?_)
        have : first < -1 := by omega
        simp [badHead, this]
      · refine Ev.neg c2 ?_
        by_cases c3 : first ≥ (body.length : Int)
        · exact Ev.pos c3 (J _ (by have : (body.length : Int) ≤ first := c3; simp [badHead, this]))
        · refine Ev.neg c3 (Ev.pos (by omega) (Ev.pos (by omega) ?_))
          obtain ⟨k, rfl⟩ : ∃ k : Nat, first = k := ⟨first.toNat, by omega⟩
          obtain ⟨y, r, hd, hy⟩ := at_more (l := body) (n := k) (by omega)
          rw [show rd_T47 body (k : Int) = y from getD_at hy _]
          refine J _ ?_
          have e1 : ¬ (k : Int) < -1 := by omega
          have e2 : ¬ (body.length : Int) ≤ (k : Int) := by omega
          have e3 : ¬ body.length ≤ k := by omega
          simp [badHead, e1, e2, e3, lit_of hy]
          rw [Bool.eq_iff_iff]; simp
  | succ d ih =>
    intro n e hn
    obtain ⟨y, r, hd, hy⟩ := at_more (l := body) (n := n) (by omega)
    obtain ⟨h1, h2, h3, h4, h5⟩ := drop_more hd (by omega)
    refine Ev.step (fun k => by rw [lambrequinref13_Order.l0]) ?_
    refine Ev.pos h1 (Ev.pos h2 (Ev.pos h1 ?_))
    rw [show rd_T47 body n = y from h3 _, h5]
    have go : odd y = false → Ev (fun k => lambrequinref13_Order.l0 k first (body.length : Int) ((n + 1 : Nat) : Int) p h body) (ints (orderOf body first).1, (orderOf body first).2) := by
      intro hy0
      refine ih (n + 1) (by omega) fun z hz => ?_
      rw [List.take_add_one, hy] at hz
      rcases List.mem_append.1 hz with hz | hz
      · exact hn z hz
      · simp at hz; exact hz ▸ hy0
    by_cases c1 : y.kind = 1
    · exact Ev.pos c1 (go (odd_iff.2 (.inl c1)))
    · refine Ev.neg c1 ?_
      by_cases c2 : y.kind = 2
      · exact Ev.pos c2 (go (odd_iff.2 (.inr (.inl c2))))
      · refine Ev.neg c2 ?_
        by_cases c3 : y.kind = 3
        · exact Ev.pos c3 (go (odd_iff.2 (.inr (.inr c3))))
        · have ho : odd y = true := by
            cases h0 : odd y with
            | true => rfl
            | false => rcases odd_iff.1 h0 with h0 | h0 | h0 <;> contradiction
          have : badFirst body first = true := by rw [badFirst_eq, List.any_eq_true.2 ⟨y, List.mem_of_getElem? hy, ho⟩]; rfl
          exact Ev.neg c3 (Ev.some (by simp [orderOf, this, ints]))
theorem rOrder_ev : Ev (fun k => lambrequinref13_Order.f k p h body first) (ints (orderOf body first).1, (orderOf body first).2) := order_l0 p h body first hl ha body.length 0 (by omega) (by simp)
end
end Go.Proofs.Ythpejcnldecmoaa.H

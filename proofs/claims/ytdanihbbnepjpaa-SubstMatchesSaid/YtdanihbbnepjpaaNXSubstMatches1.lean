/- RowSubstMatches of the seat's law SubstMatches: the law holds, under the statement's own conditions. -/
import Derived.Test.YtdanihbbnepjpaaNXSubstMatches
import Derived.Test.YtdanihbbnepjpaaNW
import Derived.Lib.SliceRun
import Derived.Deep.DeepMust
import Derived.Maps.AppendAt
import Derived.Lib.AppendZerosOnto
import Derived.Lib.AppendZeros
import Derived.Lib.Overlaps
import Derived.Laws.Externs
import Derived.Laws.NewBlocks
import Derived.Deep.RegionLaw
namespace Go.Proofs.Ytdanihbbnepjpaa.H
open Go.RowKit Go.Proofs.YtdanihbbnepjpaaW.PrintWords Go.Proofs.YtdanihbbnepjpaaW.PrintLast Go.Proofs.YtdanihbbnepjpaaW.PrintMore
attribute [local go_sem] max2_int min2_int max_two min_two max_three min_three max_four min_four
set_option linter.unusedVariables false
set_option linter.unusedSimpArgs false
def lambrequinref12_With.l0 : Nat → List (RPair) → ByteArray → List (RPair) → Bool → Int → ByteArray → Bool → ByteArray → Int → Option ((List (RPair)))
 | 0, _, _, _, _, _, _, _, _, _ => none
 | k + 1, x0, x1, x7, x8, x10, x106000, x106001, x106002, x106003 => if x10 < (x0.length : Int) then (if 0 ≤ x10 then (if ((rd_T69 x0 x10).name).toList = x1.toList then (lambrequinref12_With.l0 k x0 x1 x7 x8 (wrap64 (x10 + 1)) x106000 x106001 x106002 x106003) else (if (Op.bytesLess x1.toList (((rd_T69 x0 x10).name).toList)) = true then (if x8 = true then (if x7.length < 2932031007402 then (lambrequinref12_With.l0 k x0 x1 (x7 ++ [(⟨(rd_T69 x0 x10).name, (⟨(rd_T69 x0 x10).val.isSym, (rd_T69 x0 x10).val.sym, (rd_T69 x0 x10).val.n⟩ : Val)⟩ : RPair)]) x8 (wrap64 (x10 + 1)) x106000 x106001 x106002 x106003) else (none)) else (if x7.length < 2932031007402 then ((some (x7 ++ [(⟨x106000, (⟨x106001, x106002, x106003⟩ : Val)⟩ : RPair)] : List (RPair))).bind fun y115 => (if y115.length < 2932031007402 then (lambrequinref12_With.l0 k x0 x1 (y115 ++ [(⟨(rd_T69 x0 x10).name, (⟨(rd_T69 x0 x10).val.isSym, (rd_T69 x0 x10).val.sym, (rd_T69 x0 x10).val.n⟩ : Val)⟩ : RPair)]) true (wrap64 (x10 + 1)) x106000 x106001 x106002 x106003) else (none))) else (none))) else (if x7.length < 2932031007402 then (lambrequinref12_With.l0 k x0 x1 (x7 ++ [(⟨(rd_T69 x0 x10).name, (⟨(rd_T69 x0 x10).val.isSym, (rd_T69 x0 x10).val.sym, (rd_T69 x0 x10).val.n⟩ : Val)⟩ : RPair)]) x8 (wrap64 (x10 + 1)) x106000 x106001 x106002 x106003) else (none)))) else (none)) else (if x8 = true then (some x7) else (if x7.length < 2932031007402 then (some (x7 ++ [(⟨x106000, (⟨x106001, x106002, x106003⟩ : Val)⟩ : RPair)])) else (none)))
def lambrequinref12_With.f (k : Nat) (l0 : List (RPair)) (a1 : ByteArray) (a2_0 : Bool) (a2_1 : ByteArray) (a2_2 : Int) : Option ((List (RPair))) := (lambrequinref03_Bare.f a2_0 a2_1 a2_2).bind fun bt102 => (lambrequinref12_With.l0 k l0 a1 ([] : List (RPair)) false 0 a1 bt102.1 bt102.2.1 bt102.2.2)
theorem lambrequinref12_With.mono_l : ∀ k, (∀ y0 y1 y2 y3 y4 y5 y6 y7 y8, LeO (lambrequinref12_With.l0 k y0 y1 y2 y3 y4 y5 y6 y7 y8) (lambrequinref12_With.l0 (k + 1) y0 y1 y2 y3 y4 y5 y6 y7 y8))
 | 0 => fun _ _ _ _ _ _ _ _ _ r h => by simp [lambrequinref12_With.l0] at h
 | k + 1 => by
  have ih0 := lambrequinref12_With.mono_l k
  ·intro y0 y1 y2 y3 y4 y5 y6 y7 y8
   unfold lambrequinref12_With.l0
   repeat' first
   | (with_reducible exact ih0 _ _ _ _ _ _ _ _ _)
   | (with_reducible exact LeO.refl _)
   | (with_reducible exact LeO.none _)
   | (with_reducible refine LeO.ite ?_ ?_)
   | (with_reducible refine LeO.bind ?_ (fun _ => ?_))
   | exact ih0 _ _ _ _ _ _ _ _ _
   | exact LeO.none _
   | refine LeO.ite ?_ ?_
   | refine LeO.bind ?_ (fun _ => ?_)
theorem lambrequinref12_With.mono : ∀ a0 a1 a2 a3 a4 k, LeO (lambrequinref12_With.f k a0 a1 a2 a3 a4) (lambrequinref12_With.f (k + 1) a0 a1 a2 a3 a4) := by
 intro a0 a1 a2 a3 a4 k
 have ih0 := lambrequinref12_With.mono_l k
 unfold lambrequinref12_With.f
 repeat' first
   | (with_reducible exact ih0 _ _ _ _ _ _ _ _ _)
   | (with_reducible exact LeO.refl _)
   | (with_reducible exact LeO.none _)
   | (with_reducible refine LeO.ite ?_ ?_)
   | (with_reducible refine LeO.bind ?_ (fun _ => ?_))
   | exact ih0 _ _ _ _ _ _ _ _ _
   | exact LeO.none _
   | refine LeO.ite ?_ ?_
   | refine LeO.bind ?_ (fun _ => ?_)
set_option maxHeartbeats 8000000 in
set_option maxRecDepth 100000 in
theorem lambrequinref12_With.calls (k : Nat) (A0 : Option Addr) (c0 : Nat) (l0 : List (RPair)) (a1 : ByteArray) (a2_0 : Bool) (a2_1 : ByteArray) (a2_2 : Int) (r : List (RPair)) (w : World) (hr0 : Kd.C k69 w A0 l0.length l0) (hc0 : l0.length ≤ c0) (h : lambrequinref12_With.f k l0 a1 a2_0 a2_1 a2_2 = some r) :
  Calls Try.prog 19 #[.slice A0 l0.length c0, .string a1, .agg #[.bool a2_0, .string a2_1, .int .i64 a2_2]] w fun e w' => ∃ v0_ : Value, e = .returned (v0_) ∧ Kd.R k69 69 w' w.heap.size (fun _ => True) v0_ r ∧ Below w.heap.size w w' := by
 have hu24 := Try.underlying24
 have hu69 := Try.underlying69
 have HR0 := am hr0
 have HC0 := am hc0
 clear hr0 hc0
 have HB := am (Below.refl w.heap.size w)
 have H : ((lambrequinref03_Bare.f a2_0 a2_1 a2_2).bind fun bt102 => (lambrequinref12_With.l0 k l0 a1 ([] : List (RPair)) false 0 a1 bt102.1 bt102.2.1 bt102.2.2)) = some r := h
 clear h
 replace H := Option.bind_eq_some_iff.mp H
 obtain ⟨⟨t102, t103, t104⟩, A40, H⟩ := H
 replace H : (lambrequinref12_With.l0 k l0 a1 ([] : List (RPair)) false 0 a1 t102 t103 t104) = some r := H
 have A4 := am A40
 clear A40
 have H' := am H
 clear H
 go_enter Try.func19, Try.ntmps19
 go_wp2_with (first | ((with_reducible refine gate_dst (N := 5) rfl ?_); refine box_event ?hg (N := 5) ?hd (cs := #[.bool a2_0, .string a2_1, .int .i64 a2_2]) (t := 24) ?hr ?_; (case hd => rfl); (case hg => rfl); (case hr => first | (go_simp; done) | (go_simp; rfl)); intro gb101 hg w5 hbox hb; have BK101 := am (hbox); have GW101 := am ((by rw [hg]; exact (below_size (by repeat (first | (with_reducible first | exact HB.out | apply lA | apply lN | apply lD) | exact HB.out))) : w.heap.size ≤ gb101)); have GE101 := am ((by rw [hg]; exact (below_size (by repeat (first | (with_reducible first | exact HB.out | apply lA | apply lN | apply lD) | exact HB.out))) : w.heap.size ≤ gb101)); replace HB := am (below_step (by repeat (first | (with_reducible first | exact HB.out | apply lA | apply lN | apply lD) | exact HB.out)) hb); clear hb hbox hg; have hcz6_0 : w5.cell? ⟨gb101, 0, none⟩ = some (.bool a2_0) := (blk_cell BK101.out 0).trans rfl; have hcz6_1 : w5.cell? ⟨gb101, 1, none⟩ = some (.string a2_1) := (blk_cell BK101.out 1).trans rfl; have hcz6_2 : w5.cell? ⟨gb101, 2, none⟩ = some (.int .i64 a2_2) := (blk_cell BK101.out 2).trans rfl; have hfz6_0 := blk_frozen BK101.out 0; have hfz6_1 := blk_frozen BK101.out 1; have hfz6_2 := blk_frozen BK101.out 2) | ((with_reducible refine gate_callee (f := 39) rfl ?_); refine goesL_ (some 13) rfl rfl Try.func39 (by kernel_rfl) rfl #[.agg #[.bool a2_0, .string a2_1, .int .i64 a2_2]] rfl (by (try simp only [List.map_toArray, List.map_cons, List.map_nil]); first | done | rfl | (simp only [List.length_drop, List.length_take]; rfl)) ?_; (with_reducible refine (lambrequinref03_Bare.calls a2_0 a2_1 a2_2 t102 t103 t104 _ A4.out).mono ?_); rintro e w7 ⟨rfl, hb⟩; refine ⟨_, rfl, ?_⟩; replace BK101 := am (blk_below (g := gb101) (o := .cells #[.bool a2_0, .string a2_1, .int .i64 a2_2] 24 (0, 0)) (by (with_reducible repeat (first | refine bN ?_ _ | refine bD ?_ | refine bA ?_ _)); exact BK101.out) hb); replace HB := am (below_step (by repeat (first | (with_reducible first | exact HB.out | apply lA | apply lN | apply lD | refine lS ?_ GE101.out) | exact HB.out)) hb); (try clear hb); (try clear hb2); (try clear hk); (try clear hi)) | ((with_reducible refine gate_dst (N := 9) rfl ?_); refine box_event ?hg (N := 9) ?hd (cs := #[.string (⟨#[]⟩ : ByteArray), .bool false, .string (⟨#[]⟩ : ByteArray), .int .i64 0]) (t := 69) ?hr ?_; (case hd => rfl); (case hg => rfl); (case hr => first | (go_simp; done) | (go_simp; rfl)); intro gb105 hg w8 hbox hb; have BK105 := am (hbox); have GW105 := am ((by rw [hg]; exact (below_size (by repeat (first | (with_reducible first | exact HB.out | apply lA | apply lN | apply lD | refine lS ?_ GE101.out) | exact HB.out))) : w.heap.size ≤ gb105)); have GE105 := am ((by rw [hg]; exact (below_size (by repeat (first | (with_reducible first | exact HB.out | apply lA | apply lN | apply lD | refine lS ?_ GE101.out) | exact HB.out))) : w.heap.size ≤ gb105)); replace HB := am (below_step (by repeat (first | (with_reducible first | exact HB.out | apply lA | apply lN | apply lD | refine lS ?_ GE101.out) | exact HB.out)) hb); have NB101_105 := am ((by rw [hg]; exact Nat.ne_of_lt (blk_lt (g := gb101) (o := .cells #[.bool a2_0, .string a2_1, .int .i64 a2_2] 24 (0, 0)) (by (with_reducible repeat (first | refine bN ?_ _ | refine bD ?_ | refine bA ?_ _)); exact BK101.out)) : gb101 ≠ gb105)); have NB105_101 := am ((by rw [hg]; exact Nat.ne_of_gt (blk_lt (g := gb101) (o := .cells #[.bool a2_0, .string a2_1, .int .i64 a2_2] 24 (0, 0)) (by (with_reducible repeat (first | refine bN ?_ _ | refine bD ?_ | refine bA ?_ _)); exact BK101.out)) : gb105 ≠ gb101)); replace BK101 := am (blk_below (g := gb101) (o := .cells #[.bool a2_0, .string a2_1, .int .i64 a2_2] 24 (0, 0)) (by (with_reducible repeat (first | refine bN ?_ _ | refine bD ?_ | refine bA ?_ _)); exact BK101.out) hb); clear hb hbox hg; have hnb9 := NB105_101.out; have hnc9 := NB101_105.out; have hcz10_0 : w8.cell? ⟨gb105, 0, none⟩ = some (.string (⟨#[]⟩ : ByteArray)) := (blk_cell BK105.out 0).trans rfl; have hcz10_1 : w8.cell? ⟨gb105, 1, none⟩ = some (.bool false) := (blk_cell BK105.out 1).trans rfl; have hcz10_2 : w8.cell? ⟨gb105, 2, none⟩ = some (.string (⟨#[]⟩ : ByteArray)) := (blk_cell BK105.out 2).trans rfl; have hcz10_3 : w8.cell? ⟨gb105, 3, none⟩ = some (.int .i64 0) := (blk_cell BK105.out 3).trans rfl; have hfz10_0 := blk_frozen BK105.out 0; have hfz10_1 := blk_frozen BK105.out 1; have hfz10_2 := blk_frozen BK105.out 2; have hfz10_3 := blk_frozen BK105.out 3))
 go_loopg [7, 8, 10] k (fun kq v7 v8 v10 w' => ∃ (x7_1 : List (RPair)) (x8_1 : Bool) (x10_1 : Int), v8 = .bool x8_1 ∧ v10 = .int .i64 x10_1 ∧ Aside0 (lambrequinref12_With.l0 kq l0 a1 x7_1 x8_1 x10_1 a1 t102 t103 t104 = some r) ∧ Aside0 (kq ≤ k) ∧ Aside0 (Kd.R k69 69 w' w.heap.size (fun k_ => k_ ≠ gb105) v7 x7_1) ∧ Aside0 (w'.heap[gb101]? = some (.cells #[.bool a2_0, .string a2_1, .int .i64 a2_2] 24 (0, 0))) ∧ Aside0 (w'.heap[gb105]? = some (.cells #[.string a1, .bool t102, .string t103, .int .i64 t104] 69 (0, 0))) ∧ Aside0 (Below w.heap.size w w'))
 case atStart => exact ⟨(([] : List (RPair))), (false), (0), (by first | rfl | (simp; done) | (simp [*]; done)), (by first | rfl | (simp; done) | (simp [*]; done)), H', ⟨Nat.le_refl _⟩, ⟨by first | exact Kd.R_nil _ _ _ _ _ | exact Kd.N_nil _ _ _ _ _ | exact Kd.V_nil _ _ _ _ _ | exact Kd.Q_nil _ _ _ _ _ | exact Kd.S_nil _ _ _ _ _⟩, ⟨by repeat (first | (with_reducible first | exact BK101.out | refine bN ?_ _ | refine bD ?_ | refine bA ?_ _) | refine blk_far ?_ NB101_105.out _ | exact BK101.out)⟩, ⟨by (with_reducible repeat (first | refine bN ?_ _ | refine bD ?_ | refine bA ?_ _)); refine blk_put (cs := #[.string a1, .bool t102, .string t103, .int .i64 0]) ?_ 3 _ rfl; (with_reducible repeat (first | refine bN ?_ _ | refine bD ?_ | refine bA ?_ _)); refine blk_put (cs := #[.string a1, .bool t102, .string (⟨#[]⟩ : ByteArray), .int .i64 0]) ?_ 2 _ rfl; (with_reducible repeat (first | refine bN ?_ _ | refine bD ?_ | refine bA ?_ _)); refine blk_put (cs := #[.string a1, .bool false, .string (⟨#[]⟩ : ByteArray), .int .i64 0]) ?_ 1 _ rfl; (with_reducible repeat (first | refine bN ?_ _ | refine bD ?_ | refine bA ?_ _)); refine blk_put (cs := #[.string (⟨#[]⟩ : ByteArray), .bool false, .string (⟨#[]⟩ : ByteArray), .int .i64 0]) ?_ 0 _ rfl; (with_reducible repeat (first | refine bN ?_ _ | refine bD ?_ | refine bA ?_ _)); exact BK105.out⟩, ⟨by repeat (first | (with_reducible first | exact HB.out | apply lA | apply lN | apply lD | refine lS ?_ GE101.out | refine lS ?_ GE105.out) | exact HB.out)⟩⟩
 case round =>
  clear H'
  try clear c1
  try clear p2
  try clear c3
  try clear c9
  try clear hcz10_0
  try clear hcz10_1
  try clear hcz10_2
  try clear hcz10_3
  try clear hcz6_0
  try clear hcz6_1
  try clear hcz6_2
  try clear hfz10_0
  try clear hfz10_1
  try clear hfz10_2
  try clear hfz10_3
  try clear hfz6_0
  try clear hfz6_1
  try clear hfz6_2
  obtain ⟨x7_1, x8_1, x10_1, rfl, rfl, HA, HK1, HO_7, BK101, BK105, HB⟩ := hrel
  cases gk with
  | zero => exact absurd HA.out (by simp [lambrequinref12_With.l0])
  | succ k1 =>
   have H := HA.out
   clear HA
   simp only [lambrequinref12_With.l0] at H
   by_cases c11 : x10_1 < (l0.length : Int)
   ·rw [if_pos c11] at H
    have c11b0 : decide (x10_1 < (l0.length : Int)) = true := decide_eq_true c11
    clear c11
    by_cases c12 : 0 ≤ x10_1
    ·rw [if_pos c12] at H
     have c12b0 : decide (0 ≤ x10_1) = true := decide_eq_true c12
     clear c12
     by_cases c13 : ((rd_T69 l0 x10_1).name).toList = a1.toList
     ·rw [if_pos c13] at H
      have c13b0 : (((rd_T69 l0 x10_1).name).toList == a1.toList) = true := beq_iff_eq.mpr c13
      have c13b1 : (((rd_T69 l0 x10_1).name).toList != a1.toList) = false := bne_eq_false_iff_eq.mpr c13
      clear c13
      have H' := am H
      clear H
      have p109 : 0 ≤ (x10_1 : Int) := of_decide_eq_true (by first | (with_reducible assumption) | assumption)
      have q109 : x10_1 < (l0.length : Int) := of_decide_eq_true (by first | (with_reducible assumption) | assumption)
      obtain ⟨ad109, e109, hx109_0, hx109_1, hx109_2, hx109_3⟩ := at_T69 HR0.out x10_1 p109 q109
      cases e109
      replace hx109_0 := (HB.out.cell (blt_ hx109_0)).trans hx109_0
      replace hx109_1 := (HB.out.cell (blt_ hx109_1)).trans hx109_1
      replace hx109_2 := (HB.out.cell (blt_ hx109_2)).trans hx109_2
      replace hx109_3 := (HB.out.cell (blt_ hx109_3)).trans hx109_3
      replace p109 := eq_true p109
      replace q109 := eq_true q109
      go_wp2
      go_roundg k1
      case measure => have := HK1.out; omega
      case rel => exact ⟨(x7_1), (x8_1), (wrap64 (x10_1 + 1)), (by first | rfl | (simp; done) | (simp [*]; done)), (by first | rfl | (simp; done) | (simp [*]; done)), H', ⟨by have := HK1.out; omega⟩, ⟨by (with_reducible repeat (first | apply Ra | apply Rn | apply Rd)); exact HO_7.out⟩, ⟨by (with_reducible repeat (first | refine bN ?_ _ | refine bD ?_ | refine bA ?_ _)); exact BK101.out⟩, ⟨by (with_reducible repeat (first | refine bN ?_ _ | refine bD ?_ | refine bA ?_ _)); exact BK105.out⟩, ⟨by repeat (first | (with_reducible first | exact HB.out | apply lA | apply lN | apply lD | refine lS ?_ GE101.out | refine lS ?_ GE105.out) | exact HB.out)⟩⟩
     ·rw [if_neg c13] at H
      have c13b0 : (((rd_T69 l0 x10_1).name).toList == a1.toList) = false := beq_eq_false_iff_ne.mpr c13
      have c13b1 : (((rd_T69 l0 x10_1).name).toList != a1.toList) = true := bne_iff_ne.mpr c13
      by_cases c14 : (Op.bytesLess a1.toList (((rd_T69 l0 x10_1).name).toList)) = true
      ·rw [if_pos c14] at H
       have c14b0 : (Op.bytesLess a1.toList (((rd_T69 l0 x10_1).name).toList)) = true := c14
       clear c14
       by_cases c15 : x8_1 = true
       ·subst c15
        have H1 : (if x7_1.length < 2932031007402 then (lambrequinref12_With.l0 k1 l0 a1 (x7_1 ++ [(⟨(rd_T69 l0 x10_1).name, (⟨(rd_T69 l0 x10_1).val.isSym, (rd_T69 l0 x10_1).val.sym, (rd_T69 l0 x10_1).val.n⟩ : Val)⟩ : RPair)]) true (wrap64 (x10_1 + 1)) a1 t102 t103 t104) else (none)) = some r := by rw [if_pos rfl] at H; exact H
        clear H
        have H := H1
        clear H1
        by_cases c16 : x7_1.length < 2932031007402
        ·rw [if_pos c16] at H
         have LMc16 := am c16
         clear c16
         obtain ⟨y112, hy112⟩ : ∃ y_ : List (RPair), y_ = (x7_1 ++ [(⟨(rd_T69 l0 x10_1).name, (⟨(rd_T69 l0 x10_1).val.isSym, (rd_T69 l0 x10_1).val.sym, (rd_T69 l0 x10_1).val.n⟩ : Val)⟩ : RPair)]) := ⟨_, rfl⟩
         replace H : (lambrequinref12_With.l0 k1 l0 a1 y112 true (wrap64 (x10_1 + 1)) a1 t102 t103 t104) = some r := by first | (rw [hy112]; with_reducible exact H) | (have H2_ := (Option.bind_some _ _).symm.trans H; rw [hy112]; with_reducible exact H2_) | (have H2_ := (Option.bind_some _ _).symm.trans H; with_reducible exact H2_) | with_reducible exact H | (rw [hy112]; exact H) | exact H
         have Ny112 := am hy112
         clear hy112
         have H' := am H
         clear H
         have p109 : 0 ≤ (x10_1 : Int) := of_decide_eq_true (by first | (with_reducible assumption) | assumption)
         have q109 : x10_1 < (l0.length : Int) := of_decide_eq_true (by first | (with_reducible assumption) | assumption)
         obtain ⟨ad109, e109, hx109_0, hx109_1, hx109_2, hx109_3⟩ := at_T69 HR0.out x10_1 p109 q109
         cases e109
         replace hx109_0 := (HB.out.cell (blt_ hx109_0)).trans hx109_0
         replace hx109_1 := (HB.out.cell (blt_ hx109_1)).trans hx109_1
         replace hx109_2 := (HB.out.cell (blt_ hx109_2)).trans hx109_2
         replace hx109_3 := (HB.out.cell (blt_ hx109_3)).trans hx109_3
         replace p109 := eq_true p109
         replace q109 := eq_true q109
         have p110 : 0 ≤ (x10_1 : Int) := of_decide_eq_true (by first | (with_reducible assumption) | assumption)
         have q110 : x10_1 < (l0.length : Int) := of_decide_eq_true (by first | (with_reducible assumption) | assumption)
         obtain ⟨ad110, e110, hx110_0, hx110_1, hx110_2, hx110_3⟩ := at_T69 HR0.out x10_1 p110 q110
         obtain rfl : ad109 = ad110 := (by injection e110)
         replace hx110_0 := (HB.out.cell (blt_ hx110_0)).trans hx110_0
         replace hx110_1 := (HB.out.cell (blt_ hx110_1)).trans hx110_1
         replace hx110_2 := (HB.out.cell (blt_ hx110_2)).trans hx110_2
         replace hx110_3 := (HB.out.cell (blt_ hx110_3)).trans hx110_3
         replace p110 := eq_true p110
         replace q110 := eq_true q110
         have p111 : 0 ≤ (x10_1 : Int) := of_decide_eq_true (by first | (with_reducible assumption) | assumption)
         have q111 : x10_1 < (l0.length : Int) := of_decide_eq_true (by first | (with_reducible assumption) | assumption)
         obtain ⟨ad111, e111, hx111_0, hx111_1, hx111_2, hx111_3⟩ := at_T69 HR0.out x10_1 p111 q111
         obtain rfl : ad109 = ad111 := (by injection e111)
         replace hx111_0 := (HB.out.cell (blt_ hx111_0)).trans hx111_0
         replace hx111_1 := (HB.out.cell (blt_ hx111_1)).trans hx111_1
         replace hx111_2 := (HB.out.cell (blt_ hx111_2)).trans hx111_2
         replace hx111_3 := (HB.out.cell (blt_ hx111_3)).trans hx111_3
         replace p111 := eq_true p111
         replace q111 := eq_true q111
         go_wp2_with (first | ((with_reducible refine gate_builtin (b := .append) (xs := #[.tmp 43, .tmp 48]) rfl ?_); at_builtin; refine Kd.R_append k69 (w0 := w) w.heap.size rfl (.tmp 43) (.tmp 48) 22 69 (.agg #[(.string ⟨#[]⟩), (.bool false), (.string ⟨#[]⟩), (.int .i64 0)]) 48 rfl Try.underlying22 info69 rfl (by decide) (by omega) u7 x7_1 (⟨(rd_T69 l0 x10_1).name, (⟨(rd_T69 l0 x10_1).val.isSym, (rd_T69 l0 x10_1).val.sym, (rd_T69 l0 x10_1).val.n⟩ : Val)⟩ : RPair) [.string ((rd_T69 l0 x10_1).name), .bool ((rd_T69 l0 x10_1).val.isSym), .string ((rd_T69 l0 x10_1).val.sym), .int .i64 ((rd_T69 l0 x10_1).val.n)] (fun k_ => k_ ≠ gb105) (fun _ => False) rfl rfl ?aP (fun _ hk => hk.elim) ?aF ?aO ?aB ?aS ?aL ?_; (case aP => exact k69_mkM _ _ _ (⟨(rd_T69 l0 x10_1).name, (⟨(rd_T69 l0 x10_1).val.isSym, (rd_T69 l0 x10_1).val.sym, (rd_T69 l0 x10_1).val.n⟩ : Val)⟩ : RPair)); (case aB => exact (by repeat (first | (with_reducible first | exact HB.out | apply lA | apply lN | apply lD | refine lS ?_ GE101.out | refine lS ?_ GE105.out) | exact HB.out))); (case aF => exact (fun k_ hk => Kd.freshB (g := gb105) (o := .cells #[.string a1, .bool t102, .string t103, .int .i64 t104] 69 (0, 0)) (by (with_reducible repeat (first | refine bN ?_ _ | refine bD ?_ | refine bA ?_ _)); exact BK105.out) k_ hk)); (case aO => exact (by (with_reducible repeat (first | apply Ra | apply Rn | apply Rd)); exact HO_7.out)); (case aS => exact (below_size (by repeat (first | (with_reducible first | exact HB.out | apply lA | apply lN | apply lD | refine lS ?_ GE101.out | refine lS ?_ GE105.out) | exact HB.out)))); (case aL => have := LMc16.out; omega); intro v113 w17 ho hb hg hat; rw [← Ny112.out] at ho; replace BK101 := am (blk_grown (g := gb101) (o := .cells #[.bool a2_0, .string a2_1, .int .i64 a2_2] 24 (0, 0)) (by (with_reducible repeat (first | refine bN ?_ _ | refine bD ?_ | refine bA ?_ _)); exact BK101.out) hg (Kd.R_ne HO_7.out BK101.out (by decide))); replace BK105 := am (blk_grown (g := gb105) (o := .cells #[.string a1, .bool t102, .string t103, .int .i64 t104] 69 (0, 0)) (by (with_reducible repeat (first | refine bN ?_ _ | refine bD ?_ | refine bA ?_ _)); exact BK105.out) hg (Kd.R_away HO_7.out (fun _ hk => hk))); replace HB := am (hb); have HO114 := am (ho); clear HO_7; clear ho hb hg hat))
         go_roundg k1
         case measure => have := HK1.out; omega
         case rel => exact ⟨(y112), (true), (wrap64 (x10_1 + 1)), (by first | rfl | (simp; done) | (simp [*]; done)), (by first | rfl | (simp; done) | (simp [*]; done)), H', ⟨by have := HK1.out; omega⟩, ⟨by (with_reducible repeat (first | apply Ra | apply Rn | apply Rd)); exact HO114.out⟩, ⟨by (with_reducible repeat (first | refine bN ?_ _ | refine bD ?_ | refine bA ?_ _)); exact BK101.out⟩, ⟨by (with_reducible repeat (first | refine bN ?_ _ | refine bD ?_ | refine bA ?_ _)); exact BK105.out⟩, ⟨by repeat (first | (with_reducible first | exact HB.out | apply lA | apply lN | apply lD | refine lS ?_ GE101.out | refine lS ?_ GE105.out) | exact HB.out)⟩⟩
        ·rw [if_neg c16] at H
         exact absurd H (by simp)
       ·replace c15 := Bool.eq_false_iff.mpr c15
        subst c15
        have H1 : (if x7_1.length < 2932031007402 then ((some (x7_1 ++ [(⟨a1, (⟨t102, t103, t104⟩ : Val)⟩ : RPair)] : List (RPair))).bind fun y115 => (if y115.length < 2932031007402 then (lambrequinref12_With.l0 k1 l0 a1 (y115 ++ [(⟨(rd_T69 l0 x10_1).name, (⟨(rd_T69 l0 x10_1).val.isSym, (rd_T69 l0 x10_1).val.sym, (rd_T69 l0 x10_1).val.n⟩ : Val)⟩ : RPair)]) true (wrap64 (x10_1 + 1)) a1 t102 t103 t104) else (none))) else (none)) = some r := by rw [if_neg (show ¬ (false = true) by decide)] at H; exact H
        clear H
        have H := H1
        clear H1
        by_cases c18 : x7_1.length < 2932031007402
        ·rw [if_pos c18] at H
         have LMc18 := am c18
         clear c18
         obtain ⟨y115, hy115⟩ : ∃ y_ : List (RPair), y_ = (x7_1 ++ [(⟨a1, (⟨t102, t103, t104⟩ : Val)⟩ : RPair)]) := ⟨_, rfl⟩
         replace H : (if y115.length < 2932031007402 then (lambrequinref12_With.l0 k1 l0 a1 (y115 ++ [(⟨(rd_T69 l0 x10_1).name, (⟨(rd_T69 l0 x10_1).val.isSym, (rd_T69 l0 x10_1).val.sym, (rd_T69 l0 x10_1).val.n⟩ : Val)⟩ : RPair)]) true (wrap64 (x10_1 + 1)) a1 t102 t103 t104) else (none)) = some r := by first | (rw [hy115]; with_reducible exact H) | (have H2_ := (Option.bind_some _ _).symm.trans H; rw [hy115]; with_reducible exact H2_) | (have H2_ := (Option.bind_some _ _).symm.trans H; with_reducible exact H2_) | with_reducible exact H | (rw [hy115]; exact H) | exact H
         have Ny115 := am hy115
         clear hy115
         by_cases c19 : y115.length < 2932031007402
         ·rw [if_pos c19] at H
          have LMc19 := am c19
          clear c19
          obtain ⟨y119, hy119⟩ : ∃ y_ : List (RPair), y_ = (y115 ++ [(⟨(rd_T69 l0 x10_1).name, (⟨(rd_T69 l0 x10_1).val.isSym, (rd_T69 l0 x10_1).val.sym, (rd_T69 l0 x10_1).val.n⟩ : Val)⟩ : RPair)]) := ⟨_, rfl⟩
          replace H : (lambrequinref12_With.l0 k1 l0 a1 y119 true (wrap64 (x10_1 + 1)) a1 t102 t103 t104) = some r := by first | (rw [hy119]; with_reducible exact H) | (have H2_ := (Option.bind_some _ _).symm.trans H; rw [hy119]; with_reducible exact H2_) | (have H2_ := (Option.bind_some _ _).symm.trans H; with_reducible exact H2_) | with_reducible exact H | (rw [hy119]; exact H) | exact H
          have Ny119 := am hy119
          clear hy119
          have H' := am H
          clear H
          have p109 : 0 ≤ (x10_1 : Int) := of_decide_eq_true (by first | (with_reducible assumption) | assumption)
          have q109 : x10_1 < (l0.length : Int) := of_decide_eq_true (by first | (with_reducible assumption) | assumption)
          obtain ⟨ad109, e109, hx109_0, hx109_1, hx109_2, hx109_3⟩ := at_T69 HR0.out x10_1 p109 q109
          cases e109
          replace hx109_0 := (HB.out.cell (blt_ hx109_0)).trans hx109_0
          replace hx109_1 := (HB.out.cell (blt_ hx109_1)).trans hx109_1
          replace hx109_2 := (HB.out.cell (blt_ hx109_2)).trans hx109_2
          replace hx109_3 := (HB.out.cell (blt_ hx109_3)).trans hx109_3
          replace p109 := eq_true p109
          replace q109 := eq_true q109
          have p110 : 0 ≤ (x10_1 : Int) := of_decide_eq_true (by first | (with_reducible assumption) | assumption)
          have q110 : x10_1 < (l0.length : Int) := of_decide_eq_true (by first | (with_reducible assumption) | assumption)
          obtain ⟨ad110, e110, hx110_0, hx110_1, hx110_2, hx110_3⟩ := at_T69 HR0.out x10_1 p110 q110
          obtain rfl : ad109 = ad110 := (by injection e110)
          replace hx110_0 := (HB.out.cell (blt_ hx110_0)).trans hx110_0
          replace hx110_1 := (HB.out.cell (blt_ hx110_1)).trans hx110_1
          replace hx110_2 := (HB.out.cell (blt_ hx110_2)).trans hx110_2
          replace hx110_3 := (HB.out.cell (blt_ hx110_3)).trans hx110_3
          replace p110 := eq_true p110
          replace q110 := eq_true q110
          have hnb20 := NB105_101.out
          have hnc20 := NB101_105.out
          have hcz21_0 : wr.cell? ⟨gb105, 0, none⟩ = some (.string a1) := (blk_cell BK105.out 0).trans rfl
          have hcz21_1 : wr.cell? ⟨gb105, 1, none⟩ = some (.bool t102) := (blk_cell BK105.out 1).trans rfl
          have hcz21_2 : wr.cell? ⟨gb105, 2, none⟩ = some (.string t103) := (blk_cell BK105.out 2).trans rfl
          have hcz21_3 : wr.cell? ⟨gb105, 3, none⟩ = some (.int .i64 t104) := (blk_cell BK105.out 3).trans rfl
          have hfz21_0 := blk_frozen BK105.out 0
          have hfz21_1 := blk_frozen BK105.out 1
          have hfz21_2 := blk_frozen BK105.out 2
          have hfz21_3 := blk_frozen BK105.out 3
          go_wp2_with (first | ((with_reducible refine gate_builtin (b := .append) (xs := #[.tmp 39, .tmp 41]) rfl ?_); at_builtin; refine Kd.R_append k69 (w0 := w) w.heap.size rfl (.tmp 39) (.tmp 41) 22 69 (.agg #[(.string ⟨#[]⟩), (.bool false), (.string ⟨#[]⟩), (.int .i64 0)]) 48 rfl Try.underlying22 info69 rfl (by decide) (by omega) u7 x7_1 (⟨a1, (⟨t102, t103, t104⟩ : Val)⟩ : RPair) [.string a1, .bool t102, .string t103, .int .i64 t104] (fun k_ => k_ ≠ gb105) (fun _ => False) rfl rfl ?aP (fun _ hk => hk.elim) ?aF ?aO ?aB ?aS ?aL ?_; (case aP => exact k69_mkM _ _ _ (⟨a1, (⟨t102, t103, t104⟩ : Val)⟩ : RPair)); (case aB => exact (by repeat (first | (with_reducible first | exact HB.out | apply lA | apply lN | apply lD | refine lS ?_ GE101.out | refine lS ?_ GE105.out) | exact HB.out))); (case aF => exact (fun k_ hk => Kd.freshB (g := gb105) (o := .cells #[.string a1, .bool t102, .string t103, .int .i64 t104] 69 (0, 0)) (by (with_reducible repeat (first | refine bN ?_ _ | refine bD ?_ | refine bA ?_ _)); exact BK105.out) k_ hk)); (case aO => exact (by (with_reducible repeat (first | apply Ra | apply Rn | apply Rd)); exact HO_7.out)); (case aS => exact (below_size (by repeat (first | (with_reducible first | exact HB.out | apply lA | apply lN | apply lD | refine lS ?_ GE101.out | refine lS ?_ GE105.out) | exact HB.out)))); (case aL => have := LMc18.out; omega); intro v116 w22 ho hb hg hat; rw [← Ny115.out] at ho; replace BK101 := am (blk_grown (g := gb101) (o := .cells #[.bool a2_0, .string a2_1, .int .i64 a2_2] 24 (0, 0)) (by (with_reducible repeat (first | refine bN ?_ _ | refine bD ?_ | refine bA ?_ _)); exact BK101.out) hg (Kd.R_ne HO_7.out BK101.out (by decide))); replace BK105 := am (blk_grown (g := gb105) (o := .cells #[.string a1, .bool t102, .string t103, .int .i64 t104] 69 (0, 0)) (by (with_reducible repeat (first | refine bN ?_ _ | refine bD ?_ | refine bA ?_ _)); exact BK105.out) hg (Kd.R_away HO_7.out (fun _ hk => hk))); replace HB := am (hb); have HO117 := am (ho); clear HO_7; clear ho hb hg hat; have p118 : 0 ≤ (x10_1 : Int) := of_decide_eq_true (by first | (with_reducible assumption) | assumption); have q118 : x10_1 < (l0.length : Int) := of_decide_eq_true (by first | (with_reducible assumption) | assumption); obtain ⟨ad118, e118, hx118_0, hx118_1, hx118_2, hx118_3⟩ := at_T69 HR0.out x10_1 p118 q118; obtain rfl : ad109 = ad118 := (by injection e118); replace hx118_0 := (HB.out.cell (blt_ hx118_0)).trans hx118_0; replace hx118_1 := (HB.out.cell (blt_ hx118_1)).trans hx118_1; replace hx118_2 := (HB.out.cell (blt_ hx118_2)).trans hx118_2; replace hx118_3 := (HB.out.cell (blt_ hx118_3)).trans hx118_3; replace p118 := eq_true p118; replace q118 := eq_true q118) | ((with_reducible refine gate_builtin (b := .append) (xs := #[.tmp 43, .tmp 48]) rfl ?_); at_builtin; refine Kd.R_append k69 (w0 := w) w.heap.size rfl (.tmp 43) (.tmp 48) 22 69 (.agg #[(.string ⟨#[]⟩), (.bool false), (.string ⟨#[]⟩), (.int .i64 0)]) 48 rfl Try.underlying22 info69 rfl (by decide) (by omega) v116 y115 (⟨(rd_T69 l0 x10_1).name, (⟨(rd_T69 l0 x10_1).val.isSym, (rd_T69 l0 x10_1).val.sym, (rd_T69 l0 x10_1).val.n⟩ : Val)⟩ : RPair) [.string ((rd_T69 l0 x10_1).name), .bool ((rd_T69 l0 x10_1).val.isSym), .string ((rd_T69 l0 x10_1).val.sym), .int .i64 ((rd_T69 l0 x10_1).val.n)] (fun k_ => k_ ≠ gb105) (fun _ => False) rfl rfl ?aP (fun _ hk => hk.elim) ?aF ?aO ?aB ?aS ?aL ?_; (case aP => exact k69_mkM _ _ _ (⟨(rd_T69 l0 x10_1).name, (⟨(rd_T69 l0 x10_1).val.isSym, (rd_T69 l0 x10_1).val.sym, (rd_T69 l0 x10_1).val.n⟩ : Val)⟩ : RPair)); (case aB => exact (by repeat (first | (with_reducible first | exact HB.out | apply lA | apply lN | apply lD | refine lS ?_ GE101.out | refine lS ?_ GE105.out) | exact HB.out))); (case aF => exact (fun k_ hk => Kd.freshB (g := gb105) (o := .cells #[.string a1, .bool t102, .string t103, .int .i64 t104] 69 (0, 0)) (by (with_reducible repeat (first | refine bN ?_ _ | refine bD ?_ | refine bA ?_ _)); exact BK105.out) k_ hk)); (case aO => exact (by (with_reducible repeat (first | apply Ra | apply Rn | apply Rd)); exact HO117.out)); (case aS => exact (below_size (by repeat (first | (with_reducible first | exact HB.out | apply lA | apply lN | apply lD | refine lS ?_ GE101.out | refine lS ?_ GE105.out) | exact HB.out)))); (case aL => have := LMc19.out; omega); intro v120 w23 ho hb hg hat; rw [← Ny119.out] at ho; replace BK101 := am (blk_grown (g := gb101) (o := .cells #[.bool a2_0, .string a2_1, .int .i64 a2_2] 24 (0, 0)) (by (with_reducible repeat (first | refine bN ?_ _ | refine bD ?_ | refine bA ?_ _)); exact BK101.out) hg (Kd.R_ne HO117.out BK101.out (by decide))); replace BK105 := am (blk_grown (g := gb105) (o := .cells #[.string a1, .bool t102, .string t103, .int .i64 t104] 69 (0, 0)) (by (with_reducible repeat (first | refine bN ?_ _ | refine bD ?_ | refine bA ?_ _)); exact BK105.out) hg (Kd.R_away HO117.out (fun _ hk => hk))); replace HB := am (hb); have HO121 := am (ho); clear HO117; clear ho hb hg hat))
          go_roundg k1
          case measure => have := HK1.out; omega
          case rel => exact ⟨(y119), (true), (wrap64 (x10_1 + 1)), (by first | rfl | (simp; done) | (simp [*]; done)), (by first | rfl | (simp; done) | (simp [*]; done)), H', ⟨by have := HK1.out; omega⟩, ⟨by (with_reducible repeat (first | apply Ra | apply Rn | apply Rd)); exact HO121.out⟩, ⟨by (with_reducible repeat (first | refine bN ?_ _ | refine bD ?_ | refine bA ?_ _)); exact BK101.out⟩, ⟨by (with_reducible repeat (first | refine bN ?_ _ | refine bD ?_ | refine bA ?_ _)); exact BK105.out⟩, ⟨by repeat (first | (with_reducible first | exact HB.out | apply lA | apply lN | apply lD | refine lS ?_ GE101.out | refine lS ?_ GE105.out) | exact HB.out)⟩⟩
         ·rw [if_neg c19] at H
          exact absurd H (by simp)
        ·rw [if_neg c18] at H
         exact absurd H (by simp)
      ·rw [if_neg c14] at H
       have c14b0 : (Op.bytesLess a1.toList (((rd_T69 l0 x10_1).name).toList)) = false := by simpa using c14
       clear c14
       by_cases c24 : x7_1.length < 2932031007402
       ·rw [if_pos c24] at H
        have LMc24 := am c24
        clear c24
        obtain ⟨y123, hy123⟩ : ∃ y_ : List (RPair), y_ = (x7_1 ++ [(⟨(rd_T69 l0 x10_1).name, (⟨(rd_T69 l0 x10_1).val.isSym, (rd_T69 l0 x10_1).val.sym, (rd_T69 l0 x10_1).val.n⟩ : Val)⟩ : RPair)]) := ⟨_, rfl⟩
        replace H : (lambrequinref12_With.l0 k1 l0 a1 y123 x8_1 (wrap64 (x10_1 + 1)) a1 t102 t103 t104) = some r := by first | (rw [hy123]; with_reducible exact H) | (have H2_ := (Option.bind_some _ _).symm.trans H; rw [hy123]; with_reducible exact H2_) | (have H2_ := (Option.bind_some _ _).symm.trans H; with_reducible exact H2_) | with_reducible exact H | (rw [hy123]; exact H) | exact H
        have Ny123 := am hy123
        clear hy123
        have H' := am H
        clear H
        have p109 : 0 ≤ (x10_1 : Int) := of_decide_eq_true (by first | (with_reducible assumption) | assumption)
        have q109 : x10_1 < (l0.length : Int) := of_decide_eq_true (by first | (with_reducible assumption) | assumption)
        obtain ⟨ad109, e109, hx109_0, hx109_1, hx109_2, hx109_3⟩ := at_T69 HR0.out x10_1 p109 q109
        cases e109
        replace hx109_0 := (HB.out.cell (blt_ hx109_0)).trans hx109_0
        replace hx109_1 := (HB.out.cell (blt_ hx109_1)).trans hx109_1
        replace hx109_2 := (HB.out.cell (blt_ hx109_2)).trans hx109_2
        replace hx109_3 := (HB.out.cell (blt_ hx109_3)).trans hx109_3
        replace p109 := eq_true p109
        replace q109 := eq_true q109
        have p110 : 0 ≤ (x10_1 : Int) := of_decide_eq_true (by first | (with_reducible assumption) | assumption)
        have q110 : x10_1 < (l0.length : Int) := of_decide_eq_true (by first | (with_reducible assumption) | assumption)
        obtain ⟨ad110, e110, hx110_0, hx110_1, hx110_2, hx110_3⟩ := at_T69 HR0.out x10_1 p110 q110
        obtain rfl : ad109 = ad110 := (by injection e110)
        replace hx110_0 := (HB.out.cell (blt_ hx110_0)).trans hx110_0
        replace hx110_1 := (HB.out.cell (blt_ hx110_1)).trans hx110_1
        replace hx110_2 := (HB.out.cell (blt_ hx110_2)).trans hx110_2
        replace hx110_3 := (HB.out.cell (blt_ hx110_3)).trans hx110_3
        replace p110 := eq_true p110
        replace q110 := eq_true q110
        have p122 : 0 ≤ (x10_1 : Int) := of_decide_eq_true (by first | (with_reducible assumption) | assumption)
        have q122 : x10_1 < (l0.length : Int) := of_decide_eq_true (by first | (with_reducible assumption) | assumption)
        obtain ⟨ad122, e122, hx122_0, hx122_1, hx122_2, hx122_3⟩ := at_T69 HR0.out x10_1 p122 q122
        obtain rfl : ad109 = ad122 := (by injection e122)
        replace hx122_0 := (HB.out.cell (blt_ hx122_0)).trans hx122_0
        replace hx122_1 := (HB.out.cell (blt_ hx122_1)).trans hx122_1
        replace hx122_2 := (HB.out.cell (blt_ hx122_2)).trans hx122_2
        replace hx122_3 := (HB.out.cell (blt_ hx122_3)).trans hx122_3
        replace p122 := eq_true p122
        replace q122 := eq_true q122
        go_wp2_with (first | ((with_reducible refine gate_builtin (b := .append) (xs := #[.tmp 43, .tmp 48]) rfl ?_); at_builtin; refine Kd.R_append k69 (w0 := w) w.heap.size rfl (.tmp 43) (.tmp 48) 22 69 (.agg #[(.string ⟨#[]⟩), (.bool false), (.string ⟨#[]⟩), (.int .i64 0)]) 48 rfl Try.underlying22 info69 rfl (by decide) (by omega) u7 x7_1 (⟨(rd_T69 l0 x10_1).name, (⟨(rd_T69 l0 x10_1).val.isSym, (rd_T69 l0 x10_1).val.sym, (rd_T69 l0 x10_1).val.n⟩ : Val)⟩ : RPair) [.string ((rd_T69 l0 x10_1).name), .bool ((rd_T69 l0 x10_1).val.isSym), .string ((rd_T69 l0 x10_1).val.sym), .int .i64 ((rd_T69 l0 x10_1).val.n)] (fun k_ => k_ ≠ gb105) (fun _ => False) rfl rfl ?aP (fun _ hk => hk.elim) ?aF ?aO ?aB ?aS ?aL ?_; (case aP => exact k69_mkM _ _ _ (⟨(rd_T69 l0 x10_1).name, (⟨(rd_T69 l0 x10_1).val.isSym, (rd_T69 l0 x10_1).val.sym, (rd_T69 l0 x10_1).val.n⟩ : Val)⟩ : RPair)); (case aB => exact (by repeat (first | (with_reducible first | exact HB.out | apply lA | apply lN | apply lD | refine lS ?_ GE101.out | refine lS ?_ GE105.out) | exact HB.out))); (case aF => exact (fun k_ hk => Kd.freshB (g := gb105) (o := .cells #[.string a1, .bool t102, .string t103, .int .i64 t104] 69 (0, 0)) (by (with_reducible repeat (first | refine bN ?_ _ | refine bD ?_ | refine bA ?_ _)); exact BK105.out) k_ hk)); (case aO => exact (by (with_reducible repeat (first | apply Ra | apply Rn | apply Rd)); exact HO_7.out)); (case aS => exact (below_size (by repeat (first | (with_reducible first | exact HB.out | apply lA | apply lN | apply lD | refine lS ?_ GE101.out | refine lS ?_ GE105.out) | exact HB.out)))); (case aL => have := LMc24.out; omega); intro v124 w25 ho hb hg hat; rw [← Ny123.out] at ho; replace BK101 := am (blk_grown (g := gb101) (o := .cells #[.bool a2_0, .string a2_1, .int .i64 a2_2] 24 (0, 0)) (by (with_reducible repeat (first | refine bN ?_ _ | refine bD ?_ | refine bA ?_ _)); exact BK101.out) hg (Kd.R_ne HO_7.out BK101.out (by decide))); replace BK105 := am (blk_grown (g := gb105) (o := .cells #[.string a1, .bool t102, .string t103, .int .i64 t104] 69 (0, 0)) (by (with_reducible repeat (first | refine bN ?_ _ | refine bD ?_ | refine bA ?_ _)); exact BK105.out) hg (Kd.R_away HO_7.out (fun _ hk => hk))); replace HB := am (hb); have HO125 := am (ho); clear HO_7; clear ho hb hg hat))
        go_roundg k1
        case measure => have := HK1.out; omega
        case rel => exact ⟨(y123), (x8_1), (wrap64 (x10_1 + 1)), (by first | rfl | (simp; done) | (simp [*]; done)), (by first | rfl | (simp; done) | (simp [*]; done)), H', ⟨by have := HK1.out; omega⟩, ⟨by (with_reducible repeat (first | apply Ra | apply Rn | apply Rd)); exact HO125.out⟩, ⟨by (with_reducible repeat (first | refine bN ?_ _ | refine bD ?_ | refine bA ?_ _)); exact BK101.out⟩, ⟨by (with_reducible repeat (first | refine bN ?_ _ | refine bD ?_ | refine bA ?_ _)); exact BK105.out⟩, ⟨by repeat (first | (with_reducible first | exact HB.out | apply lA | apply lN | apply lD | refine lS ?_ GE101.out | refine lS ?_ GE105.out) | exact HB.out)⟩⟩
       ·rw [if_neg c24] at H
        exact absurd H (by simp)
    ·rw [if_neg c12] at H
     exact absurd H (by simp)
   ·rw [if_neg c11] at H
    have c11b0 : decide (x10_1 < (l0.length : Int)) = false := decide_eq_false c11
    clear c11
    by_cases c26 : x8_1 = true
    ·subst c26
     have H1 : (some x7_1) = some r := by rw [if_pos rfl] at H; exact H
     clear H
     have H := H1
     clear H1
     obtain rfl := Option.some.inj H
     go_wp2
     go_ret
     exact ⟨_, by first | rfl | (simp [errW_none, errW_some] <;> rfl) | (simp [*, errW_none, errW_some] <;> rfl), by (with_reducible repeat (first | apply Ra | apply Rn | apply Rd)); exact Kd.R_mono HO_7.out (fun _ hk => trivial), by repeat (first | (with_reducible first | exact HB.out | apply lA | apply lN | apply lD | refine lS ?_ GE101.out | refine lS ?_ GE105.out) | exact HB.out)⟩
    ·replace c26 := Bool.eq_false_iff.mpr c26
     subst c26
     have H1 : (if x7_1.length < 2932031007402 then (some (x7_1 ++ [(⟨a1, (⟨t102, t103, t104⟩ : Val)⟩ : RPair)])) else (none)) = some r := by rw [if_neg (show ¬ (false = true) by decide)] at H; exact H
     clear H
     have H := H1
     clear H1
     by_cases c27 : x7_1.length < 2932031007402
     ·rw [if_pos c27] at H
      have LMc27 := am c27
      clear c27
      obtain ⟨y106, hy106⟩ : ∃ y_ : List (RPair), y_ = (x7_1 ++ [(⟨a1, (⟨t102, t103, t104⟩ : Val)⟩ : RPair)]) := ⟨_, rfl⟩
      replace H : (some y106) = some r := by first | (rw [hy106]; with_reducible exact H) | (have H2_ := (Option.bind_some _ _).symm.trans H; rw [hy106]; with_reducible exact H2_) | (have H2_ := (Option.bind_some _ _).symm.trans H; with_reducible exact H2_) | with_reducible exact H | (rw [hy106]; exact H) | exact H
      have Ny106 := am hy106
      clear hy106
      obtain rfl := Option.some.inj H
      have hnb28 := NB105_101.out
      have hnc28 := NB101_105.out
      have hcz29_0 : wr.cell? ⟨gb105, 0, none⟩ = some (.string a1) := (blk_cell BK105.out 0).trans rfl
      have hcz29_1 : wr.cell? ⟨gb105, 1, none⟩ = some (.bool t102) := (blk_cell BK105.out 1).trans rfl
      have hcz29_2 : wr.cell? ⟨gb105, 2, none⟩ = some (.string t103) := (blk_cell BK105.out 2).trans rfl
      have hcz29_3 : wr.cell? ⟨gb105, 3, none⟩ = some (.int .i64 t104) := (blk_cell BK105.out 3).trans rfl
      have hfz29_0 := blk_frozen BK105.out 0
      have hfz29_1 := blk_frozen BK105.out 1
      have hfz29_2 := blk_frozen BK105.out 2
      have hfz29_3 := blk_frozen BK105.out 3
      go_wp2_with (first | ((with_reducible refine gate_builtin (b := .append) (xs := #[.tmp 52, .tmp 54]) rfl ?_); at_builtin; refine Kd.R_append k69 (w0 := w) w.heap.size rfl (.tmp 52) (.tmp 54) 22 69 (.agg #[(.string ⟨#[]⟩), (.bool false), (.string ⟨#[]⟩), (.int .i64 0)]) 48 rfl Try.underlying22 info69 rfl (by decide) (by omega) u7 x7_1 (⟨a1, (⟨t102, t103, t104⟩ : Val)⟩ : RPair) [.string a1, .bool t102, .string t103, .int .i64 t104] (fun k_ => k_ ≠ gb105) (fun _ => False) rfl rfl ?aP (fun _ hk => hk.elim) ?aF ?aO ?aB ?aS ?aL ?_; (case aP => exact k69_mkM _ _ _ (⟨a1, (⟨t102, t103, t104⟩ : Val)⟩ : RPair)); (case aB => exact (by repeat (first | (with_reducible first | exact HB.out | apply lA | apply lN | apply lD | refine lS ?_ GE101.out | refine lS ?_ GE105.out) | exact HB.out))); (case aF => exact (fun k_ hk => Kd.freshB (g := gb105) (o := .cells #[.string a1, .bool t102, .string t103, .int .i64 t104] 69 (0, 0)) (by (with_reducible repeat (first | refine bN ?_ _ | refine bD ?_ | refine bA ?_ _)); exact BK105.out) k_ hk)); (case aO => exact (by (with_reducible repeat (first | apply Ra | apply Rn | apply Rd)); exact HO_7.out)); (case aS => exact (below_size (by repeat (first | (with_reducible first | exact HB.out | apply lA | apply lN | apply lD | refine lS ?_ GE101.out | refine lS ?_ GE105.out) | exact HB.out)))); (case aL => have := LMc27.out; omega); intro v107 w30 ho hb hg hat; rw [← Ny106.out] at ho; replace BK101 := am (blk_grown (g := gb101) (o := .cells #[.bool a2_0, .string a2_1, .int .i64 a2_2] 24 (0, 0)) (by (with_reducible repeat (first | refine bN ?_ _ | refine bD ?_ | refine bA ?_ _)); exact BK101.out) hg (Kd.R_ne HO_7.out BK101.out (by decide))); replace BK105 := am (blk_grown (g := gb105) (o := .cells #[.string a1, .bool t102, .string t103, .int .i64 t104] 69 (0, 0)) (by (with_reducible repeat (first | refine bN ?_ _ | refine bD ?_ | refine bA ?_ _)); exact BK105.out) hg (Kd.R_away HO_7.out (fun _ hk => hk))); replace HB := am (hb); have HO108 := am (ho); clear HO_7; clear ho hb hg hat))
      go_ret
      exact ⟨_, by first | rfl | (simp [errW_none, errW_some] <;> rfl) | (simp [*, errW_none, errW_some] <;> rfl), by (with_reducible repeat (first | apply Ra | apply Rn | apply Rd)); exact Kd.R_mono HO108.out (fun _ hk => trivial), by repeat (first | (with_reducible first | exact HB.out | apply lA | apply lN | apply lD | refine lS ?_ GE101.out | refine lS ?_ GE105.out) | exact HB.out)⟩
     ·rw [if_neg c27] at H
      exact absurd H (by simp)
end Go.Proofs.Ytdanihbbnepjpaa.H
namespace Go.Proofs.Ytdanihbbnepjpaa.H
open Go.RowKit Go.Proofs.YtdanihbbnepjpaaW.PrintWords Go.Proofs.YtdanihbbnepjpaaW.PrintLast Go.Proofs.YtdanihbbnepjpaaW.PrintMore
attribute [local go_sem] max2_int min2_int max_two min_two max_three min_three max_four min_four
set_option linter.unusedVariables false
set_option linter.unusedSimpArgs false
def lambrequinref12_Of.l0 : Nat → List (RPair) → List (RPair) → Int → Option ((List (RPair)))
 | 0, _, _, _ => none
 | k + 1, x0, x3, x4 => if x4 < (x0.length : Int) then (if 0 ≤ x4 then ((lambrequinref12_Get.f k x3 ((rd_T69 x0 x4).name)).bind fun bt102 => (if bt102.2.2.2 = true then (lambrequinref12_Of.l0 k x0 x3 (wrap64 (x4 + 1))) else ((lambrequinref12_With.f k x3 ((rd_T69 x0 x4).name) ((rd_T69 x0 x4).val.isSym) ((rd_T69 x0 x4).val.sym) ((rd_T69 x0 x4).val.n)).bind fun t109 => (lambrequinref12_Of.l0 k x0 t109 (wrap64 (x4 + 1)))))) else (none)) else (some x3)
def lambrequinref12_Of.f (k : Nat) (l0 : List (RPair)) : Option ((List (RPair))) := lambrequinref12_Of.l0 k l0 ([] : List (RPair)) 0
theorem lambrequinref12_Of.mono_l : ∀ k, (∀ y0 y1 y2, LeO (lambrequinref12_Of.l0 k y0 y1 y2) (lambrequinref12_Of.l0 (k + 1) y0 y1 y2))
 | 0 => fun _ _ _ r h => by simp [lambrequinref12_Of.l0] at h
 | k + 1 => by
  have ih0 := lambrequinref12_Of.mono_l k
  ·intro y0 y1 y2
   unfold lambrequinref12_Of.l0
   repeat' first
   | (with_reducible exact ih0 _ _ _)
   | (with_reducible exact lambrequinref12_Get.mono _ _ _)
   | (with_reducible exact lambrequinref12_With.mono _ _ _ _ _ _)
   | (with_reducible exact LeO.refl _)
   | (with_reducible exact LeO.none _)
   | (with_reducible refine LeO.ite ?_ ?_)
   | (with_reducible refine LeO.bind ?_ (fun _ => ?_))
   | exact ih0 _ _ _
   | exact lambrequinref12_Get.mono _ _ _
   | exact lambrequinref12_With.mono _ _ _ _ _ _
   | exact LeO.none _
   | refine LeO.ite ?_ ?_
   | refine LeO.bind ?_ (fun _ => ?_)
theorem lambrequinref12_Of.mono : ∀ a0 k, LeO (lambrequinref12_Of.f k a0) (lambrequinref12_Of.f (k + 1) a0) := by
 intro a0 k
 have ih0 := lambrequinref12_Of.mono_l k
 unfold lambrequinref12_Of.f
 repeat' first
   | (with_reducible exact ih0 _ _ _)
   | (with_reducible exact lambrequinref12_Get.mono _ _ _)
   | (with_reducible exact lambrequinref12_With.mono _ _ _ _ _ _)
   | (with_reducible exact LeO.refl _)
   | (with_reducible exact LeO.none _)
   | (with_reducible refine LeO.ite ?_ ?_)
   | (with_reducible refine LeO.bind ?_ (fun _ => ?_))
   | exact ih0 _ _ _
   | exact lambrequinref12_Get.mono _ _ _
   | exact lambrequinref12_With.mono _ _ _ _ _ _
   | exact LeO.none _
   | refine LeO.ite ?_ ?_
   | refine LeO.bind ?_ (fun _ => ?_)
def lambrequinref12_Of.T7 : Bool × List (List Nat × List Nat) := (true, [([], []), ([], []), ([], []), ([1, 2], [1, 2]), ([3], [3]), ([4], [4]), ([], []), ([], []), ([6, 7], [6, 7]), ([8], [8]), ([9], [9]), ([0, 5, 10], [0, 5, 10]), ([11, 11, 0, 1, 2, 3, 4, 5, 6, 7, 8, 9, 10, 11], [0, 11])])
def lambrequinref12_Of.B7 : List Nat := [0, 0, 0, 6, 14, 30, 0, 0, 192, 448, 960, 2047, 4095]
theorem lambrequinref12_Of.tab7 : rtab .any (opsOf Try.f17 7) = lambrequinref12_Of.T7 := by kernel_rfl
theorem lambrequinref12_Of.bits7 : waitsOk lambrequinref12_Of.T7.2 lambrequinref12_Of.B7 = true := by kernel_rfl
set_option maxHeartbeats 8000000 in
set_option maxRecDepth 100000 in
theorem lambrequinref12_Of.calls (k : Nat) (A0 : Option Addr) (c0 : Nat) (l0 : List (RPair)) (r : List (RPair)) (w : World) (hr0 : Kd.C k69 w A0 l0.length l0) (hc0 : l0.length ≤ c0) (h : lambrequinref12_Of.f k l0 = some r) :
  Calls Try.prog 17 #[.slice A0 l0.length c0] w fun e w' => ∃ v0_ : Value, e = .returned (v0_) ∧ Kd.R k69 69 w' w.heap.size (fun _ => True) v0_ r ∧ Below w.heap.size w w' := by
 have hu24 := Try.underlying24
 have HR0 := am hr0
 have HC0 := am hc0
 clear hr0 hc0
 have HB := am (Below.refl w.heap.size w)
 have H : (lambrequinref12_Of.l0 k l0 ([] : List (RPair)) 0) = some r := h
 clear h
 have H' := am H
 clear H
 go_enter Try.func17, Try.ntmps17
 go_wp2
 go_loopg [3, 4] k (fun kq v3 v4 w' => ∃ (x3_1 : List (RPair)) (x4_1 : Int), v4 = .int .i64 x4_1 ∧ Aside0 (lambrequinref12_Of.l0 kq l0 x3_1 x4_1 = some r) ∧ Aside0 (kq ≤ k) ∧ Aside0 (Kd.R k69 69 w' w.heap.size (fun _ => True) v3 x3_1) ∧ Aside0 (Below w.heap.size w w'))
 case atStart => exact ⟨(([] : List (RPair))), (0), (by first | rfl | (simp; done) | (simp [*]; done)), H', ⟨Nat.le_refl _⟩, ⟨by first | exact Kd.R_nil _ _ _ _ _ | exact Kd.N_nil _ _ _ _ _ | exact Kd.V_nil _ _ _ _ _ | exact Kd.Q_nil _ _ _ _ _ | exact Kd.S_nil _ _ _ _ _⟩, ⟨by repeat (first | (with_reducible first | exact HB.out | apply lA | apply lN | apply lD) | exact HB.out)⟩⟩
 case round =>
  clear H'
  try clear c1
  obtain ⟨x3_1, x4_1, rfl, HA, HK1, HO_3, HB⟩ := hrel
  cases gk with
  | zero => exact absurd HA.out (by simp [lambrequinref12_Of.l0])
  | succ k1 =>
   have H := HA.out
   clear HA
   simp only [lambrequinref12_Of.l0] at H
   by_cases c2 : x4_1 < (l0.length : Int)
   ·rw [if_pos c2] at H
    have c2b0 : decide (x4_1 < (l0.length : Int)) = true := decide_eq_true c2
    clear c2
    by_cases c3 : 0 ≤ x4_1
    ·rw [if_pos c3] at H
     have c3b0 : decide (0 ≤ x4_1) = true := decide_eq_true c3
     clear c3
     replace H := Option.bind_eq_some_iff.mp H
     obtain ⟨⟨t102, t103, t104, t105⟩, A40, H⟩ := H
     replace H : (if t105 = true then (lambrequinref12_Of.l0 k1 l0 x3_1 (wrap64 (x4_1 + 1))) else ((lambrequinref12_With.f k1 x3_1 ((rd_T69 l0 x4_1).name) ((rd_T69 l0 x4_1).val.isSym) ((rd_T69 l0 x4_1).val.sym) ((rd_T69 l0 x4_1).val.n)).bind fun t109 => (lambrequinref12_Of.l0 k1 l0 t109 (wrap64 (x4_1 + 1))))) = some r := H
     have A4 := am A40
     clear A40
     by_cases c5 : t105 = true
     ·subst c5
      have H1 : (lambrequinref12_Of.l0 k1 l0 x3_1 (wrap64 (x4_1 + 1))) = some r := by rw [if_pos rfl] at H; exact H
      clear H
      have H := H1
      clear H1
      have H' := am H
      clear H
      have p101 : 0 ≤ (x4_1 : Int) := of_decide_eq_true (by first | (with_reducible assumption) | assumption)
      have q101 : x4_1 < (l0.length : Int) := of_decide_eq_true (by first | (with_reducible assumption) | assumption)
      obtain ⟨ad101, e101, hx101_0, hx101_1, hx101_2, hx101_3⟩ := at_T69 HR0.out x4_1 p101 q101
      cases e101
      replace hx101_0 := (HB.out.cell (blt_ hx101_0)).trans hx101_0
      replace hx101_1 := (HB.out.cell (blt_ hx101_1)).trans hx101_1
      replace hx101_2 := (HB.out.cell (blt_ hx101_2)).trans hx101_2
      replace hx101_3 := (HB.out.cell (blt_ hx101_3)).trans hx101_3
      replace p101 := eq_true p101
      replace q101 := eq_true q101
      obtain ⟨Ao6, co6, eo6⟩ := Kd.R_slice HO_3.out
      subst eo6
      go_wp2_with (first | ((with_reducible refine gate_callee (f := 13) rfl ?_); refine goesL_ (some 20) rfl rfl Try.func13 (by kernel_rfl) rfl #[.slice Ao6 x3_1.length co6, .string ((rd_T69 l0 x4_1).name)] rfl (by (try simp only [List.map_toArray, List.map_cons, List.map_nil]); first | done | rfl | (simp only [List.length_drop, List.length_take]; rfl)) ?_; (with_reducible refine (lambrequinref12_Get.calls k1 _ _ x3_1 ((rd_T69 l0 x4_1).name) t102 t103 t104 true _ ?side1 ?side2 A4.out).mono ?_); (case side1 => repeat (first | exact (Kd.R_reads' HO_3.out).2.2 | (with_reducible refine Kd.C_alloc ?_ _) | (with_reducible refine Kd.C_drewN ?_ _) | (with_reducible refine Kd.C_drew ?_))); (case side2 => exact (Kd.R_reads' HO_3.out).2.1); rintro e w7 ⟨rfl, hb⟩; refine ⟨_, rfl, ?_⟩; replace HO_3 := am (Kd.R_below (by (with_reducible repeat (first | apply Ra | apply Rn | apply Rd)); exact HO_3.out) hb); replace HB := am (below_step (by repeat (first | (with_reducible first | exact HB.out | apply lA | apply lN | apply lD) | exact HB.out)) hb); (try clear hb); (try clear hb2); (try clear hk); (try clear hi)) | ((with_reducible refine gate_dst (N := 5) rfl ?_); refine box_event ?hg (N := 5) ?hd (cs := #[.bool false, .string (⟨#[]⟩ : ByteArray), .int .i64 0]) (t := 24) ?hr ?_; (case hd => rfl); (case hg => rfl); (case hr => first | (go_simp; done) | (go_simp; rfl)); intro gb106 hg w8 hbox hb; replace HO_3 := am (Kd.R_below (by (with_reducible repeat (first | apply Ra | apply Rn | apply Rd)); exact HO_3.out) hb); have BK106 := am (hbox); have GW106 := am ((by rw [hg]; exact (below_size (by repeat (first | (with_reducible first | exact HB.out | apply lA | apply lN | apply lD) | exact HB.out))) : w.heap.size ≤ gb106)); have GE106 := am ((by rw [hg]; exact (below_size (by repeat (first | (with_reducible first | exact HB.out | apply lA | apply lN | apply lD) | exact HB.out))) : w.heap.size ≤ gb106)); replace HB := am (below_step (by repeat (first | (with_reducible first | exact HB.out | apply lA | apply lN | apply lD) | exact HB.out)) hb); clear hb hbox hg; have hcz9_0 : w8.cell? ⟨gb106, 0, none⟩ = some (.bool false) := (blk_cell BK106.out 0).trans rfl; have hcz9_1 : w8.cell? ⟨gb106, 1, none⟩ = some (.string (⟨#[]⟩ : ByteArray)) := (blk_cell BK106.out 1).trans rfl; have hcz9_2 : w8.cell? ⟨gb106, 2, none⟩ = some (.int .i64 0) := (blk_cell BK106.out 2).trans rfl; have hfz9_0 := blk_frozen BK106.out 0; have hfz9_1 := blk_frozen BK106.out 1; have hfz9_2 := blk_frozen BK106.out 2))
      go_roundg k1
      case measure => have := HK1.out; omega
      case rel => exact ⟨(x3_1), (wrap64 (x4_1 + 1)), (by first | rfl | (simp; done) | (simp [*]; done)), H', ⟨by have := HK1.out; omega⟩, ⟨by (with_reducible repeat (first | apply Ra | apply Rn | apply Rd)); exact Kd.R_mono (Kd.R_far (p := ⟨gb106, 2, none⟩) (Kd.R_far (p := ⟨gb106, 1, none⟩) (Kd.R_far (p := ⟨gb106, 0, none⟩) (Kd.R_types HO_3.out BK106.out (by decide)) (fun _ hk => hk.2) _) (fun _ hk => hk.2) _) (fun _ hk => hk.2) _) (fun _ hk => trivial)⟩, ⟨by repeat (first | (with_reducible first | exact HB.out | apply lA | apply lN | apply lD | refine lS ?_ GE106.out) | exact HB.out)⟩⟩
     ·replace c5 := Bool.eq_false_iff.mpr c5
      subst c5
      have H1 : ((lambrequinref12_With.f k1 x3_1 ((rd_T69 l0 x4_1).name) ((rd_T69 l0 x4_1).val.isSym) ((rd_T69 l0 x4_1).val.sym) ((rd_T69 l0 x4_1).val.n)).bind fun t109 => (lambrequinref12_Of.l0 k1 l0 t109 (wrap64 (x4_1 + 1)))) = some r := by rw [if_neg (show ¬ (false = true) by decide)] at H; exact H
      clear H
      have H := H1
      clear H1
      replace H := Option.bind_eq_some_iff.mp H
      obtain ⟨t109, A100, H⟩ := H
      replace H : (lambrequinref12_Of.l0 k1 l0 t109 (wrap64 (x4_1 + 1))) = some r := H
      have A10 := am A100
      clear A100
      have H' := am H
      clear H
      have p101 : 0 ≤ (x4_1 : Int) := of_decide_eq_true (by first | (with_reducible assumption) | assumption)
      have q101 : x4_1 < (l0.length : Int) := of_decide_eq_true (by first | (with_reducible assumption) | assumption)
      obtain ⟨ad101, e101, hx101_0, hx101_1, hx101_2, hx101_3⟩ := at_T69 HR0.out x4_1 p101 q101
      cases e101
      replace hx101_0 := (HB.out.cell (blt_ hx101_0)).trans hx101_0
      replace hx101_1 := (HB.out.cell (blt_ hx101_1)).trans hx101_1
      replace hx101_2 := (HB.out.cell (blt_ hx101_2)).trans hx101_2
      replace hx101_3 := (HB.out.cell (blt_ hx101_3)).trans hx101_3
      replace p101 := eq_true p101
      replace q101 := eq_true q101
      obtain ⟨Ao11, co11, eo11⟩ := Kd.R_slice HO_3.out
      subst eo11
      try go_wp2_with (first | ((with_reducible refine gate_callee (f := 13) rfl ?_); refine goesL_ (some 20) rfl rfl Try.func13 (by kernel_rfl) rfl #[.slice Ao11 x3_1.length co11, .string ((rd_T69 l0 x4_1).name)] rfl (by (try simp only [List.map_toArray, List.map_cons, List.map_nil]); first | done | rfl | (simp only [List.length_drop, List.length_take]; rfl)) ?_; (with_reducible refine (lambrequinref12_Get.calls k1 _ _ x3_1 ((rd_T69 l0 x4_1).name) t102 t103 t104 false _ ?side1 ?side2 A4.out).mono ?_); (case side1 => repeat (first | exact (Kd.R_reads' HO_3.out).2.2 | (with_reducible refine Kd.C_alloc ?_ _) | (with_reducible refine Kd.C_drewN ?_ _) | (with_reducible refine Kd.C_drew ?_))); (case side2 => exact (Kd.R_reads' HO_3.out).2.1); rintro e w12 ⟨rfl, hb⟩; refine ⟨_, rfl, ?_⟩; replace HO_3 := am (Kd.R_below (by (with_reducible repeat (first | apply Ra | apply Rn | apply Rd)); exact HO_3.out) hb); replace HB := am (below_step (by repeat (first | (with_reducible first | exact HB.out | apply lA | apply lN | apply lD) | exact HB.out)) hb); (try clear hb); (try clear hb2); (try clear hk); (try clear hi)) | ((with_reducible refine gate_dst (N := 5) rfl ?_); refine box_event ?hg (N := 5) ?hd (cs := #[.bool false, .string (⟨#[]⟩ : ByteArray), .int .i64 0]) (t := 24) ?hr ?_; (case hd => rfl); (case hg => rfl); (case hr => first | (go_simp; done) | (go_simp; rfl)); intro gb106 hg w13 hbox hb; replace HO_3 := am (Kd.R_below (by (with_reducible repeat (first | apply Ra | apply Rn | apply Rd)); exact HO_3.out) hb); have BK106 := am (hbox); have GW106 := am ((by rw [hg]; exact (below_size (by repeat (first | (with_reducible first | exact HB.out | apply lA | apply lN | apply lD) | exact HB.out))) : w.heap.size ≤ gb106)); have GE106 := am ((by rw [hg]; exact (below_size (by repeat (first | (with_reducible first | exact HB.out | apply lA | apply lN | apply lD) | exact HB.out))) : w.heap.size ≤ gb106)); replace HB := am (below_step (by repeat (first | (with_reducible first | exact HB.out | apply lA | apply lN | apply lD) | exact HB.out)) hb); clear hb hbox hg; have hcz14_0 : w13.cell? ⟨gb106, 0, none⟩ = some (.bool false) := (blk_cell BK106.out 0).trans rfl; have hcz14_1 : w13.cell? ⟨gb106, 1, none⟩ = some (.string (⟨#[]⟩ : ByteArray)) := (blk_cell BK106.out 1).trans rfl; have hcz14_2 : w13.cell? ⟨gb106, 2, none⟩ = some (.int .i64 0) := (blk_cell BK106.out 2).trans rfl; have hfz14_0 := blk_frozen BK106.out 0; have hfz14_1 := blk_frozen BK106.out 1; have hfz14_2 := blk_frozen BK106.out 2))
      have n0_ : Aside0 (Kd.R k69 69 (((w13.setCell ⟨gb106, 0, none⟩ (.bool t102)).setCell ⟨gb106, 1, none⟩ (.string t103)).setCell ⟨gb106, 2, none⟩ (.int .i64 t104)) w.heap.size (fun _ => True) (.slice Ao11 x3_1.length co11) x3_1) := ⟨by (with_reducible repeat (first | apply Ra | apply Rn | apply Rd)); exact Kd.R_mono (Kd.R_far (p := ⟨gb106, 2, none⟩) (Kd.R_far (p := ⟨gb106, 1, none⟩) (Kd.R_far (p := ⟨gb106, 0, none⟩) (Kd.R_types HO_3.out BK106.out (by decide)) (fun _ hk => hk.2) _) (fun _ hk => hk.2) _) (fun _ hk => hk.2) _) (fun _ hk => trivial)⟩
      have n1_ : Aside0 ((((w13.setCell ⟨gb106, 0, none⟩ (.bool t102)).setCell ⟨gb106, 1, none⟩ (.string t103)).setCell ⟨gb106, 2, none⟩ (.int .i64 t104)).heap[gb106]? = some (.cells #[.bool t102, .string t103, .int .i64 t104] 24 (0, 0))) := ⟨by (with_reducible repeat (first | refine bN ?_ _ | refine bD ?_ | refine bA ?_ _)); refine blk_put (cs := #[.bool t102, .string t103, .int .i64 0]) ?_ 2 _ rfl; (with_reducible repeat (first | refine bN ?_ _ | refine bD ?_ | refine bA ?_ _)); refine blk_put (cs := #[.bool t102, .string (⟨#[]⟩ : ByteArray), .int .i64 0]) ?_ 1 _ rfl; (with_reducible repeat (first | refine bN ?_ _ | refine bD ?_ | refine bA ?_ _)); refine blk_put (cs := #[.bool false, .string (⟨#[]⟩ : ByteArray), .int .i64 0]) ?_ 0 _ rfl; (with_reducible repeat (first | refine bN ?_ _ | refine bD ?_ | refine bA ?_ _)); exact BK106.out⟩
      have n2_ : Aside0 (Below w.heap.size w (((w13.setCell ⟨gb106, 0, none⟩ (.bool t102)).setCell ⟨gb106, 1, none⟩ (.string t103)).setCell ⟨gb106, 2, none⟩ (.int .i64 t104))) := ⟨by repeat (first | (with_reducible first | exact HB.out | apply lA | apply lN | apply lD | refine lS ?_ GE106.out) | exact HB.out)⟩
      (try clear HO_3)
      (try clear BK106)
      (try clear HB)
      generalize (((w13.setCell ⟨gb106, 0, none⟩ (.bool t102)).setCell ⟨gb106, 1, none⟩ (.string t103)).setCell ⟨gb106, 2, none⟩ (.int .i64 t104)) = w15 at n0_ n1_ n2_ ⊢
      have HO_3 := n0_
      have BK106 := n1_
      have HB := n2_
      clear n0_ n1_ n2_
      replace HO_3 := am (Kd.R_drew HO_3.out)
      replace BK106 := am (blk_drew BK106.out)
      replace HB := am (below_drew1 HB.out)
      have p107 : 0 ≤ (x4_1 : Int) := of_decide_eq_true (by first | (with_reducible assumption) | assumption)
      have q107 : x4_1 < (l0.length : Int) := of_decide_eq_true (by first | (with_reducible assumption) | assumption)
      obtain ⟨ad107, e107, hx107_0, hx107_1, hx107_2, hx107_3⟩ := at_T69 HR0.out x4_1 p107 q107
      have hw107_3 := hx107_3
      have hw107_2 := hx107_2
      have hw107_1 := hx107_1
      have hw107_0 := hx107_0
      obtain rfl : ad101 = ad107 := (by injection e107)
      replace hx107_0 := (HB.out.cell (blt_ hx107_0)).trans hx107_0
      replace hx107_1 := (HB.out.cell (blt_ hx107_1)).trans hx107_1
      replace hx107_2 := (HB.out.cell (blt_ hx107_2)).trans hx107_2
      replace hx107_3 := (HB.out.cell (blt_ hx107_3)).trans hx107_3
      replace p107 := eq_true p107
      replace q107 := eq_true q107
      have p108 : 0 ≤ (x4_1 : Int) := of_decide_eq_true (by first | (with_reducible assumption) | assumption)
      have q108 : x4_1 < (l0.length : Int) := of_decide_eq_true (by first | (with_reducible assumption) | assumption)
      obtain ⟨ad108, e108, hx108_0, hx108_1, hx108_2, hx108_3⟩ := at_T69 HR0.out x4_1 p108 q108
      have hw108_3 := hx108_3
      have hw108_2 := hx108_2
      have hw108_1 := hx108_1
      have hw108_0 := hx108_0
      obtain rfl : ad101 = ad108 := (by injection e108)
      replace hx108_0 := (HB.out.cell (blt_ hx108_0)).trans hx108_0
      replace hx108_1 := (HB.out.cell (blt_ hx108_1)).trans hx108_1
      replace hx108_2 := (HB.out.cell (blt_ hx108_2)).trans hx108_2
      replace hx108_3 := (HB.out.cell (blt_ hx108_3)).trans hx108_3
      replace p108 := eq_true p108
      replace q108 := eq_true q108
      refine start_ (n := 13) (S := fun w' => w'.cell? (ad101.add ((x4_1).toNat * 4)) = some (.string ((rd_T69 l0 x4_1).name)) ∧ w'.cell? ⟨(ad101.add ((x4_1).toNat * 4)).block, (ad101.add ((x4_1).toNat * 4)).off + 1, none⟩ = some (.bool ((rd_T69 l0 x4_1).val.isSym)) ∧ w'.cell? ⟨(ad101.add ((x4_1).toNat * 4)).block, (ad101.add ((x4_1).toNat * 4)).off + 2, none⟩ = some (.string ((rd_T69 l0 x4_1).val.sym)) ∧ w'.cell? ⟨(ad101.add ((x4_1).toNat * 4)).block, (ad101.add ((x4_1).toNat * 4)).off + 3, none⟩ = some (.int .i64 ((rd_T69 l0 x4_1).val.n)) ∧ w'.cell? (ad101.add ((x4_1).toNat * 4)) = some (.string ((rd_T69 l0 x4_1).name)) ∧ w'.cell? ⟨(ad101.add ((x4_1).toNat * 4)).block, (ad101.add ((x4_1).toNat * 4)).off + 1, none⟩ = some (.bool ((rd_T69 l0 x4_1).val.isSym)) ∧ w'.cell? ⟨(ad101.add ((x4_1).toNat * 4)).block, (ad101.add ((x4_1).toNat * 4)).off + 2, none⟩ = some (.string ((rd_T69 l0 x4_1).val.sym)) ∧ w'.cell? ⟨(ad101.add ((x4_1).toNat * 4)).block, (ad101.add ((x4_1).toNat * 4)).off + 3, none⟩ = some (.int .i64 ((rd_T69 l0 x4_1).val.n))) (ds := []) (bl 13 0) (by kernel_rfl) rfl rfl ⟨((HB.out.cell (blt_ hw107_0)).trans hw107_0), ((HB.out.cell (blt_ hw107_1)).trans hw107_1), ((HB.out.cell (blt_ hw107_2)).trans hw107_2), ((HB.out.cell (blt_ hw107_3)).trans hw107_3), ((HB.out.cell (blt_ hw108_0)).trans hw108_0), ((HB.out.cell (blt_ hw108_1)).trans hw108_1), ((HB.out.cell (blt_ hw108_2)).trans hw108_2), ((HB.out.cell (blt_ hw108_3)).trans hw108_3)⟩ (fun hHeld => ?_); refine with_tabW lambrequinref12_Of.tab7 lambrequinref12_Of.bits7 (fun HT_ HW_ => ?_)
      generalize w15.drew = w16 at HO_3 BK106 HB hx107_0 hx107_1 hx107_2 hx107_3 hx108_0 hx108_1 hx108_2 hx108_3 hHeld ⊢
      refine pure_ (i := 0) (N := some 25) (v := ?_) (a' := ?_) (bl 13 1) rfl rfl (any_of HT_.out (by kernel_rfl)) (fun _ _ _ h => h) (Or.inl ⟨by rfl, ?_⟩) ?_ ?_
      rotate_left
      ·intro w'
       go_simp
       with_reducible rfl
      rotate_left
      ·simp only [Act.put, sA, sZ, sS, i64_w, i32_w]
       rfl
      refine pure_ (i := 1) (N := some 26) (v := ?_) (a' := ?_) (bl 13 3) rfl rfl (any_of HT_.out (by kernel_rfl)) (fun _ _ _ h => h) (Or.inl ⟨by rfl, ?_⟩) ?_ ?_
      rotate_left
      ·intro w'
       go_simp
       with_reducible rfl
      rotate_left
      ·simp only [Act.put, sA, sZ, sS, i64_w, i32_w]
       rfl
      refine pure_ (i := 2) (N := some 27) (v := ?_) (a' := ?_) (bl 13 7) rfl rfl (any_of HT_.out (by kernel_rfl)) (fun _ _ _ h => h) (Or.inl ⟨by rfl, ?_⟩) ?_ ?_
      rotate_left
      ·intro w'
       go_simp
       with_reducible rfl
      rotate_left
      ·simp only [Act.put, sA, sZ, sS, i64_w, i32_w]
       rfl
      refine pure_ (i := 3) (N := some 28) (v := ?_) (a' := ?_) (bl 13 15) rfl rfl (any_of HT_.out (by kernel_rfl)) (fun _ _ _ h => h) (Or.inl ⟨by rfl, ?_⟩) ?_ ?_
      rotate_left
      ·intro w'
       go_simp
       with_reducible rfl
      rotate_left
      ·simp only [Act.put, sA, sZ, sS, i64_w, i32_w]
       rfl
      refine pure_ (i := 4) (N := some 29) (v := ?_) (a' := ?_) (bl 13 31) rfl rfl (any_of HT_.out (by kernel_rfl)) (fun _ _ _ h => h) (Or.inl ⟨by rfl, ?_⟩) ?_ ?_
      rotate_left
      ·intro w'
       go_simp
       with_reducible rfl
      rotate_left
      ·simp only [Act.put, sA, sZ, sS, i64_w, i32_w]
       rfl
      refine pure_ (i := 6) (N := some 31) (v := ?_) (a' := ?_) (bl 13 95) rfl rfl (any_of HT_.out (by kernel_rfl)) (fun _ _ _ h => h) (Or.inl ⟨by rfl, ?_⟩) ?_ ?_
      rotate_left
      ·intro w'
       go_simp
       with_reducible rfl
      rotate_left
      ·simp only [Act.put, sA, sZ, sS, i64_w, i32_w]
       rfl
      refine pure_ (i := 7) (N := some 32) (v := ?_) (a' := ?_) (bl 13 223) rfl rfl (any_of HT_.out (by kernel_rfl)) (fun _ _ _ h => h) (Or.inl ⟨by rfl, ?_⟩) ?_ ?_
      rotate_left
      ·intro w'
       go_simp
       with_reducible rfl
      rotate_left
      ·simp only [Act.put, sA, sZ, sS, i64_w, i32_w]
       rfl
      refine pure_ (i := 8) (N := some 33) (v := ?_) (a' := ?_) (bl 13 479) rfl rfl (any_of HT_.out (by kernel_rfl)) (fun _ _ _ h => h) (Or.inl ⟨by rfl, ?_⟩) ?_ ?_
      rotate_left
      ·intro w'
       go_simp
       with_reducible rfl
      rotate_left
      ·simp only [Act.put, sA, sZ, sS, i64_w, i32_w]
       rfl
      refine pure_ (i := 9) (N := some 34) (v := ?_) (a' := ?_) (bl 13 991) rfl rfl (any_of HT_.out (by kernel_rfl)) (fun _ _ _ h => h) (Or.inl ⟨by rfl, ?_⟩) ?_ ?_
      rotate_left
      ·intro w'
       go_simp
       with_reducible rfl
      rotate_left
      ·simp only [Act.put, sA, sZ, sS, i64_w, i32_w]
       rfl
      refine take_ (i := 5) (N := some 30) (v := ?_) (a' := ?_) (bl 13 1023) rfl rfl (take_ofW HT_.out HW_.out (by kernel_rfl)) (fun _ _ _ h => h) (Or.inl ⟨by rfl, ?_⟩) hHeld ?_ ?_
      rotate_left
      ·rintro w' ⟨s0, s1, s2, s3, s4, s5, s6, s7⟩
       go_simp
       with_reducible rfl
      rotate_left
      ·simp only [Act.put, sA, sZ, sS, i64_w, i32_w]
       rfl
      refine take_ (i := 10) (N := some 35) (v := ?_) (a' := ?_) (bl 13 2047) rfl rfl (take_ofW HT_.out HW_.out (by kernel_rfl)) (fun _ _ _ h => h) (Or.inl ⟨by rfl, ?_⟩) hHeld ?_ ?_
      rotate_left
      ·rintro w' ⟨s0, s1, s2, s3, s4, s5, s6, s7⟩
       go_simp
       with_reducible rfl
      rotate_left
      ·simp only [Act.put, sA, sZ, sS, i64_w, i32_w]
       rfl
      refine one_ (i := 11) (N := some 36) (bl 13 4095) rfl rfl (one_of HT_.out (by kernel_rfl)) (by decide) (fun K hK => ?_)
      refine goes_ Try.func19 (by kernel_rfl) rfl #[.slice Ao11 x3_1.length co11, .string ((rd_T69 l0 x4_1).name), .agg #[.bool ((rd_T69 l0 x4_1).val.isSym), .string ((rd_T69 l0 x4_1).val.sym), .int .i64 ((rd_T69 l0 x4_1).val.n)]] (by rfl) rfl rfl (by (try simp only [List.map_toArray, List.map_cons, List.map_nil]); first | done | rfl | (simp only [List.length_drop, List.length_take]; rfl)) ?_
      with_reducible refine (lambrequinref12_With.calls k1 _ _ x3_1 ((rd_T69 l0 x4_1).name) ((rd_T69 l0 x4_1).val.isSym) ((rd_T69 l0 x4_1).val.sym) ((rd_T69 l0 x4_1).val.n) t109 _ ?side1 ?side2 A10.out).mono ?_
      (case side1 => repeat (first | exact (Kd.R_reads' HO_3.out).2.2 | (with_reducible refine Kd.C_alloc ?_ _) | (with_reducible refine Kd.C_drewN ?_ _) | (with_reducible refine Kd.C_drew ?_)))
      (case side2 => exact (Kd.R_reads' HO_3.out).2.1)
      rintro e w17 ⟨v110, rfl, ho0, hb⟩
      refine ⟨_, rfl, ?_⟩
      have HO111 := am (Kd.R_lower (Kd.R_new' ho0 (Kd.R_lt (by (with_reducible repeat (first | apply Ra | apply Rn | apply Rd)); exact HO_3.out))) (below_size (by repeat (first | (with_reducible first | exact HB.out | apply lA | apply lN | apply lD | refine lS ?_ GE106.out) | exact HB.out))))
      replace HO_3 := am (Kd.R_elder' (by (with_reducible repeat (first | apply Ra | apply Rn | apply Rd)); exact HO_3.out) (Kd.R_base ho0) hb)
      replace BK106 := am (blk_below (g := gb106) (o := .cells #[.bool t102, .string t103, .int .i64 t104] 24 (0, 0)) (by (with_reducible repeat (first | refine bN ?_ _ | refine bD ?_ | refine bA ?_ _)); exact BK106.out) hb)
      replace HB := am (below_step (by repeat (first | (with_reducible first | exact HB.out | apply lA | apply lN | apply lD | refine lS ?_ GE106.out) | exact HB.out)) hb)
      (try clear hb)
      (try clear hb2)
      (try clear hk)
      (try clear hi)
      (try clear ho0)
      refine hK.out _ _ ⟨((HB.out.cell (blt_ hw107_0)).trans hw107_0), ((HB.out.cell (blt_ hw107_1)).trans hw107_1), ((HB.out.cell (blt_ hw107_2)).trans hw107_2), ((HB.out.cell (blt_ hw107_3)).trans hw107_3), ((HB.out.cell (blt_ hw108_0)).trans hw108_0), ((HB.out.cell (blt_ hw108_1)).trans hw108_1), ((HB.out.cell (blt_ hw108_2)).trans hw108_2), ((HB.out.cell (blt_ hw108_3)).trans hw108_3)⟩ (fun hHeld => ?_)
      clear hK K
      refine norm_ (a' := ?_) ?_ ?_
      rotate_left
      ·show Act.put _ (some 36) _ = _
       simp only [Act.put, sA, sZ, sS, i64_w, i32_w]
       rfl
      refine pure_ (i := 12) (N := some 3) (v := ?_) (a' := ?_) (bl 13 8191) rfl rfl (any_of HT_.out (by kernel_rfl)) (fun _ _ _ h => h) (Or.inl ⟨by rfl, ?_⟩) ?_ ?_
      rotate_left
      ·intro w'
       go_simp
       with_reducible rfl
      rotate_left
      ·simp only [Act.put, sA, sZ, sS, i64_w, i32_w]
       rfl
      refine done_ (done_of HT_.out (by kernel_rfl)) ?_
      try go_wp2
      go_roundg k1
      case measure => have := HK1.out; omega
      case rel => exact ⟨(t109), (wrap64 (x4_1 + 1)), (by first | rfl | (simp; done) | (simp [*]; done)), H', ⟨by have := HK1.out; omega⟩, ⟨by (with_reducible repeat (first | apply Ra | apply Rn | apply Rd)); exact Kd.R_mono HO111.out (fun _ hk => trivial)⟩, ⟨by repeat (first | (with_reducible first | exact HB.out | apply lA | apply lN | apply lD | refine lS ?_ GE106.out) | exact HB.out)⟩⟩
    ·rw [if_neg c3] at H
     exact absurd H (by simp)
   ·rw [if_neg c2] at H
    have c2b0 : decide (x4_1 < (l0.length : Int)) = false := decide_eq_false c2
    clear c2
    obtain rfl := Option.some.inj H
    go_wp2
    go_ret
    exact ⟨_, by first | rfl | (simp [errW_none, errW_some] <;> rfl) | (simp [*, errW_none, errW_some] <;> rfl), by (with_reducible repeat (first | apply Ra | apply Rn | apply Rd)); exact HO_3.out, by repeat (first | (with_reducible first | exact HB.out | apply lA | apply lN | apply lD) | exact HB.out)⟩
end Go.Proofs.Ytdanihbbnepjpaa.H
namespace Go.Proofs.Ytdanihbbnepjpaa.H
open Go.RowKit Go.Proofs.YtdanihbbnepjpaaW.PrintWords Go.Proofs.YtdanihbbnepjpaaW.PrintLast Go.Proofs.YtdanihbbnepjpaaW.PrintMore
attribute [local go_sem] max2_int min2_int max_two min_two max_three min_three max_four min_four
set_option linter.unusedVariables false
set_option linter.unusedSimpArgs false
def value_Int.f (a0 : Int) : Option (Bool × ByteArray × Int) := some (false, (⟨#[]⟩ : ByteArray), a0)
set_option maxHeartbeats 8000000 in
set_option maxRecDepth 100000 in
theorem value_Int.calls (a0 : Int) (r1 : Bool) (r2 : ByteArray) (r3 : Int) (w : World) (h : value_Int.f a0 = some (r1, r2, r3)) :
  Calls Try.prog 47 #[.int .i64 a0] w fun e w' => e = .returned (.agg #[.bool r1, .string r2, .int .i64 r3]) ∧ Below w.heap.size w w' := by
 have hu24 := Try.underlying24
 have HB := Aside0.mk (Below.refl w.heap.size w)
 have H : (some (false, (⟨#[]⟩ : ByteArray), a0)) = some (r1, r2, r3) := h
 clear h
 simp only [Option.some.injEq, Prod.mk.injEq] at H
 obtain ⟨rfl, rfl, rfl⟩ := H
 go_enter Try.func47, Try.ntmps47
 go_wp2_with (first | ((with_reducible refine gate_dst (N := 2) rfl ?_); refine box_event ?hg (N := 2) ?hd (cs := #[.bool false, .string (⟨#[]⟩ : ByteArray), .int .i64 0]) (t := 24) ?hr ?_; (case hd => rfl); (case hg => rfl); (case hr => first | (go_simp; done) | (go_simp; rfl)); intro gb101 hg w2 hbox hb; have n0_ := Aside0.mk (below_step (by repeat (first | (with_reducible first | exact HB.out | apply below_alloc | apply pw_below_drewN | apply below_drew1) | exact HB.out)) hb); have n1_ := Aside0.mk (hbox); have n2_ := Aside0.mk ((by rw [hg]; exact (below_size (by repeat (first | (with_reducible first | exact HB.out | apply below_alloc | apply pw_below_drewN | apply below_drew1) | exact HB.out))) : w.heap.size ≤ gb101)); have n3_ := Aside0.mk ((by rw [hg]; exact (below_size (by repeat (first | (with_reducible first | exact HB.out | apply below_alloc | apply pw_below_drewN | apply below_drew1) | exact HB.out))) : w.heap.size ≤ gb101)); clear HB; have HB := n0_; have BK101 := n1_; have GW101 := n2_; have GE101 := n3_; clear n0_ n1_ n2_ n3_; clear hb hbox hg; have hcz3_0 : w2.cell? ⟨gb101, 0, none⟩ = some (.bool false) := (blk_cell BK101.out 0).trans rfl; have hcz3_1 : w2.cell? ⟨gb101, 1, none⟩ = some (.string (⟨#[]⟩ : ByteArray)) := (blk_cell BK101.out 1).trans rfl; have hcz3_2 : w2.cell? ⟨gb101, 2, none⟩ = some (.int .i64 0) := (blk_cell BK101.out 2).trans rfl; have hfz3_0 := blk_frozen BK101.out 0; have hfz3_1 := blk_frozen BK101.out 1; have hfz3_2 := blk_frozen BK101.out 2))
 refine bodyPost_ret (results_cell_row rfl _ _ gb101 24 #[.bool false, .string (⟨#[]⟩ : ByteArray), .int .i64 a0] (0, 0) _ rfl (by (with_reducible repeat (first | refine blk_drewN ?_ _ | refine blk_drew ?_ | refine blk_alloc ?_ _)); refine blk_put (cs := #[.bool false, .string (⟨#[]⟩ : ByteArray), .int .i64 0]) ?_ 2 _ rfl; (with_reducible repeat (first | refine blk_drewN ?_ _ | refine blk_drew ?_ | refine blk_alloc ?_ _)); refine blk_put (cs := #[.bool false, .string (⟨#[]⟩ : ByteArray), .int .i64 0]) ?_ 1 _ rfl; (with_reducible repeat (first | refine blk_drewN ?_ _ | refine blk_drew ?_ | refine blk_alloc ?_ _)); refine blk_put (cs := #[.bool false, .string (⟨#[]⟩ : ByteArray), .int .i64 0]) ?_ 0 _ rfl; (with_reducible repeat (first | refine blk_drewN ?_ _ | refine blk_drew ?_ | refine blk_alloc ?_ _)); exact BK101.out) Try.underlying24 rfl (by kernel_rfl)) rfl ?_
 exact ⟨by first | rfl | (simp [errW_none, errW_some] <;> rfl) | (simp [*, errW_none, errW_some] <;> rfl), by repeat (first | (with_reducible first | exact HB.out | apply below_alloc | apply pw_below_drewN | apply below_drew1 | refine below_set ?_ GE101.out) | exact HB.out)⟩
end Go.Proofs.Ytdanihbbnepjpaa.H
namespace Go.Proofs.Ytdanihbbnepjpaa.H
open Go.RowKit Go.Proofs.YtdanihbbnepjpaaW.PrintWords Go.Proofs.YtdanihbbnepjpaaW.PrintLast Go.Proofs.YtdanihbbnepjpaaW.PrintMore
attribute [local go_sem] max2_int min2_int max_two min_two max_three min_three max_four min_four
set_option linter.unusedVariables false
set_option linter.unusedSimpArgs false
def value_Sym.f (a0 : ByteArray) : Option (Bool × ByteArray × Int) := some (true, a0, 0)
set_option maxHeartbeats 8000000 in
set_option maxRecDepth 100000 in
theorem value_Sym.calls (a0 : ByteArray) (r1 : Bool) (r2 : ByteArray) (r3 : Int) (w : World) (h : value_Sym.f a0 = some (r1, r2, r3)) :
  Calls Try.prog 46 #[.string a0] w fun e w' => e = .returned (.agg #[.bool r1, .string r2, .int .i64 r3]) ∧ Below w.heap.size w w' := by
 have hu24 := Try.underlying24
 have HB := Aside0.mk (Below.refl w.heap.size w)
 have H : (some (true, a0, 0)) = some (r1, r2, r3) := h
 clear h
 simp only [Option.some.injEq, Prod.mk.injEq] at H
 obtain ⟨rfl, rfl, rfl⟩ := H
 go_enter Try.func46, Try.ntmps46
 go_wp2_with (first | ((with_reducible refine gate_dst (N := 2) rfl ?_); refine box_event ?hg (N := 2) ?hd (cs := #[.bool false, .string (⟨#[]⟩ : ByteArray), .int .i64 0]) (t := 24) ?hr ?_; (case hd => rfl); (case hg => rfl); (case hr => first | (go_simp; done) | (go_simp; rfl)); intro gb101 hg w2 hbox hb; have n0_ := Aside0.mk (below_step (by repeat (first | (with_reducible first | exact HB.out | apply below_alloc | apply pw_below_drewN | apply below_drew1) | exact HB.out)) hb); have n1_ := Aside0.mk (hbox); have n2_ := Aside0.mk ((by rw [hg]; exact (below_size (by repeat (first | (with_reducible first | exact HB.out | apply below_alloc | apply pw_below_drewN | apply below_drew1) | exact HB.out))) : w.heap.size ≤ gb101)); have n3_ := Aside0.mk ((by rw [hg]; exact (below_size (by repeat (first | (with_reducible first | exact HB.out | apply below_alloc | apply pw_below_drewN | apply below_drew1) | exact HB.out))) : w.heap.size ≤ gb101)); clear HB; have HB := n0_; have BK101 := n1_; have GW101 := n2_; have GE101 := n3_; clear n0_ n1_ n2_ n3_; clear hb hbox hg; have hcz3_0 : w2.cell? ⟨gb101, 0, none⟩ = some (.bool false) := (blk_cell BK101.out 0).trans rfl; have hcz3_1 : w2.cell? ⟨gb101, 1, none⟩ = some (.string (⟨#[]⟩ : ByteArray)) := (blk_cell BK101.out 1).trans rfl; have hcz3_2 : w2.cell? ⟨gb101, 2, none⟩ = some (.int .i64 0) := (blk_cell BK101.out 2).trans rfl; have hfz3_0 := blk_frozen BK101.out 0; have hfz3_1 := blk_frozen BK101.out 1; have hfz3_2 := blk_frozen BK101.out 2))
 refine bodyPost_ret (results_cell_row rfl _ _ gb101 24 #[.bool true, .string a0, .int .i64 0] (0, 0) _ rfl (by (with_reducible repeat (first | refine blk_drewN ?_ _ | refine blk_drew ?_ | refine blk_alloc ?_ _)); refine blk_put (cs := #[.bool true, .string a0, .int .i64 0]) ?_ 2 _ rfl; (with_reducible repeat (first | refine blk_drewN ?_ _ | refine blk_drew ?_ | refine blk_alloc ?_ _)); refine blk_put (cs := #[.bool true, .string (⟨#[]⟩ : ByteArray), .int .i64 0]) ?_ 1 _ rfl; (with_reducible repeat (first | refine blk_drewN ?_ _ | refine blk_drew ?_ | refine blk_alloc ?_ _)); refine blk_put (cs := #[.bool false, .string (⟨#[]⟩ : ByteArray), .int .i64 0]) ?_ 0 _ rfl; (with_reducible repeat (first | refine blk_drewN ?_ _ | refine blk_drew ?_ | refine blk_alloc ?_ _)); exact BK101.out) Try.underlying24 rfl (by kernel_rfl)) rfl ?_
 exact ⟨by first | rfl | (simp [errW_none, errW_some] <;> rfl) | (simp [*, errW_none, errW_some] <;> rfl), by repeat (first | (with_reducible first | exact HB.out | apply below_alloc | apply pw_below_drewN | apply below_drew1 | refine below_set ?_ GE101.out) | exact HB.out)⟩
end Go.Proofs.Ytdanihbbnepjpaa.H
namespace Go.Proofs.Ytdanihbbnepjpaa.H
open Go.RowKit Go.Proofs.YtdanihbbnepjpaaW.PrintWords Go.Proofs.YtdanihbbnepjpaaW.PrintLast Go.Proofs.YtdanihbbnepjpaaW.PrintMore
attribute [local go_sem] max2_int min2_int max_two min_two max_three min_three max_four min_four
set_option linter.unusedVariables false
set_option linter.unusedSimpArgs false
def subst_bare.f (a0_0 : Bool) (a0_1 : ByteArray) (a0_2 : Int) : Option (Bool × ByteArray × Int) := if a0_0 = true then ((value_Sym.f a0_1).bind fun bt103 => (some (bt103.1, bt103.2.1, bt103.2.2))) else ((value_Int.f a0_2).bind fun bt106 => (some (bt106.1, bt106.2.1, bt106.2.2)))
set_option maxHeartbeats 8000000 in
set_option maxRecDepth 100000 in
theorem subst_bare.calls (a0_0 : Bool) (a0_1 : ByteArray) (a0_2 : Int) (r1 : Bool) (r2 : ByteArray) (r3 : Int) (w : World) (h : subst_bare.f a0_0 a0_1 a0_2 = some (r1, r2, r3)) :
  Calls Try.prog 38 #[.agg #[.bool a0_0, .string a0_1, .int .i64 a0_2]] w fun e w' => e = .returned (.agg #[.bool r1, .string r2, .int .i64 r3]) ∧ Below w.heap.size w w' := by
 have hu24 := Try.underlying24
 have HB := Aside0.mk (Below.refl w.heap.size w)
 have H : (if a0_0 = true then ((value_Sym.f a0_1).bind fun bt103 => (some (bt103.1, bt103.2.1, bt103.2.2))) else ((value_Int.f a0_2).bind fun bt106 => (some (bt106.1, bt106.2.1, bt106.2.2)))) = some (r1, r2, r3) := h
 clear h
 by_cases c2 : a0_0 = true
 ·subst c2
  have H1 : ((value_Sym.f a0_1).bind fun bt103 => (some (bt103.1, bt103.2.1, bt103.2.2))) = some (r1, r2, r3) := by rw [if_pos rfl] at H; exact H
  clear H
  have H := H1
  clear H1
  replace H := Option.bind_eq_some_iff.mp H
  obtain ⟨⟨t103, t104, t105⟩, A30, H⟩ := H
  replace H : (some (t103, t104, t105)) = some (r1, r2, r3) := H
  have A3 := Aside0.mk A30
  clear A30
  simp only [Option.some.injEq, Prod.mk.injEq] at H
  obtain ⟨rfl, rfl, rfl⟩ := H
  go_enter Try.func38, Try.ntmps38
  go_wp2_with (first | ((with_reducible refine gate_dst (N := 1) rfl ?_); refine box_event ?hg (N := 1) ?hd (cs := #[.bool true, .string a0_1, .int .i64 a0_2]) (t := 24) ?hr ?_; (case hd => rfl); (case hg => rfl); (case hr => first | (go_simp; done) | (go_simp; rfl)); intro gb101 hg w4 hbox hb; have n0_ := Aside0.mk (below_step (by repeat (first | (with_reducible first | exact HB.out | apply below_alloc | apply pw_below_drewN | apply below_drew1) | exact HB.out)) hb); have n1_ := Aside0.mk (hbox); have n2_ := Aside0.mk ((by rw [hg]; exact (below_size (by repeat (first | (with_reducible first | exact HB.out | apply below_alloc | apply pw_below_drewN | apply below_drew1) | exact HB.out))) : w.heap.size ≤ gb101)); have n3_ := Aside0.mk ((by rw [hg]; exact (below_size (by repeat (first | (with_reducible first | exact HB.out | apply below_alloc | apply pw_below_drewN | apply below_drew1) | exact HB.out))) : w.heap.size ≤ gb101)); clear HB; have HB := n0_; have BK101 := n1_; have GW101 := n2_; have GE101 := n3_; clear n0_ n1_ n2_ n3_; clear hb hbox hg) | ((with_reducible refine gate_dst (N := 2) rfl ?_); refine box_event ?hg (N := 2) ?hd (cs := #[.bool false, .string (⟨#[]⟩ : ByteArray), .int .i64 0]) (t := 24) ?hr ?_; (case hd => rfl); (case hg => rfl); (case hr => first | (go_simp; done) | (go_simp; rfl)); intro gb102 hg w5 hbox hb; have n0_ := Aside0.mk (blk_below (g := gb101) (o := .cells #[.bool true, .string a0_1, .int .i64 a0_2] 24 (0, 0)) (by (with_reducible repeat (first | refine blk_drewN ?_ _ | refine blk_drew ?_ | refine blk_alloc ?_ _)); exact BK101.out) hb); have n1_ := Aside0.mk (below_step (by repeat (first | (with_reducible first | exact HB.out | apply below_alloc | apply pw_below_drewN | apply below_drew1 | refine below_set ?_ GE101.out) | exact HB.out)) hb); have n2_ := Aside0.mk (hbox); have n3_ := Aside0.mk ((by rw [hg]; exact (below_size (by repeat (first | (with_reducible first | exact HB.out | apply below_alloc | apply pw_below_drewN | apply below_drew1 | refine below_set ?_ GE101.out) | exact HB.out))) : w.heap.size ≤ gb102)); have n4_ := Aside0.mk ((by rw [hg]; exact (below_size (by repeat (first | (with_reducible first | exact HB.out | apply below_alloc | apply pw_below_drewN | apply below_drew1 | refine below_set ?_ GE101.out) | exact HB.out))) : w.heap.size ≤ gb102)); have n5_ := Aside0.mk ((by rw [hg]; exact Nat.ne_of_lt (blk_lt (g := gb101) (o := .cells #[.bool true, .string a0_1, .int .i64 a0_2] 24 (0, 0)) (by (with_reducible repeat (first | refine blk_drewN ?_ _ | refine blk_drew ?_ | refine blk_alloc ?_ _)); exact BK101.out)) : gb101 ≠ gb102)); have n6_ := Aside0.mk ((by rw [hg]; exact Nat.ne_of_gt (blk_lt (g := gb101) (o := .cells #[.bool true, .string a0_1, .int .i64 a0_2] 24 (0, 0)) (by (with_reducible repeat (first | refine blk_drewN ?_ _ | refine blk_drew ?_ | refine blk_alloc ?_ _)); exact BK101.out)) : gb102 ≠ gb101)); clear BK101; clear HB; have BK101 := n0_; have HB := n1_; have BK102 := n2_; have GW102 := n3_; have GE102 := n4_; have NB101_102 := n5_; have NB102_101 := n6_; clear n0_ n1_ n2_ n3_ n4_ n5_ n6_; clear hb hbox hg; have hnb6 := NB101_102.out; have hnc6 := NB102_101.out; have hcz7_0 : w5.cell? ⟨gb101, 0, none⟩ = some (.bool true) := (blk_cell BK101.out 0).trans rfl; have hcz7_1 : w5.cell? ⟨gb101, 1, none⟩ = some (.string a0_1) := (blk_cell BK101.out 1).trans rfl; have hcz7_2 : w5.cell? ⟨gb101, 2, none⟩ = some (.int .i64 a0_2) := (blk_cell BK101.out 2).trans rfl; have hfz7_0 := blk_frozen BK101.out 0; have hfz7_1 := blk_frozen BK101.out 1; have hfz7_2 := blk_frozen BK101.out 2) | ((with_reducible refine gate_callee (f := 46) rfl ?_); refine goesL_ (some 7) rfl rfl Try.func46 (by kernel_rfl) rfl #[.string a0_1] rfl (by (try simp only [List.map_toArray, List.map_cons, List.map_nil]); first | done | rfl | (simp only [List.length_drop, List.length_take]; rfl)) ?_; (with_reducible refine (value_Sym.calls a0_1 t103 t104 t105 _ A3.out).mono ?_); rintro e w8 ⟨rfl, hb⟩; refine ⟨_, rfl, ?_⟩; have n0_ := Aside0.mk (blk_below (g := gb101) (o := .cells #[.bool true, .string a0_1, .int .i64 a0_2] 24 (0, 0)) (by (with_reducible repeat (first | refine blk_drewN ?_ _ | refine blk_drew ?_ | refine blk_alloc ?_ _)); exact BK101.out) hb); have n1_ := Aside0.mk (blk_below (g := gb102) (o := .cells #[.bool false, .string (⟨#[]⟩ : ByteArray), .int .i64 0] 24 (0, 0)) (by (with_reducible repeat (first | refine blk_drewN ?_ _ | refine blk_drew ?_ | refine blk_alloc ?_ _)); exact BK102.out) hb); have n2_ := Aside0.mk (below_step (by repeat (first | (with_reducible first | exact HB.out | apply below_alloc | apply pw_below_drewN | apply below_drew1 | refine below_set ?_ GE101.out | refine below_set ?_ GE102.out) | exact HB.out)) hb); clear BK101; clear BK102; clear HB; have BK101 := n0_; have BK102 := n1_; have HB := n2_; clear n0_ n1_ n2_; (try clear hb); (try clear hb2); (try clear hk); (try clear hi); have hcz9_0 : w8.cell? ⟨gb102, 0, none⟩ = some (.bool false) := (blk_cell BK102.out 0).trans rfl; have hcz9_1 : w8.cell? ⟨gb102, 1, none⟩ = some (.string (⟨#[]⟩ : ByteArray)) := (blk_cell BK102.out 1).trans rfl; have hcz9_2 : w8.cell? ⟨gb102, 2, none⟩ = some (.int .i64 0) := (blk_cell BK102.out 2).trans rfl; have hfz9_0 := blk_frozen BK102.out 0; have hfz9_1 := blk_frozen BK102.out 1; have hfz9_2 := blk_frozen BK102.out 2))
  refine bodyPost_ret (results_cell_row rfl _ _ gb102 24 #[.bool t103, .string t104, .int .i64 t105] (0, 0) _ rfl (by (with_reducible repeat (first | refine blk_drewN ?_ _ | refine blk_drew ?_ | refine blk_alloc ?_ _)); refine blk_put (cs := #[.bool t103, .string t104, .int .i64 0]) ?_ 2 _ rfl; (with_reducible repeat (first | refine blk_drewN ?_ _ | refine blk_drew ?_ | refine blk_alloc ?_ _)); refine blk_put (cs := #[.bool t103, .string (⟨#[]⟩ : ByteArray), .int .i64 0]) ?_ 1 _ rfl; (with_reducible repeat (first | refine blk_drewN ?_ _ | refine blk_drew ?_ | refine blk_alloc ?_ _)); refine blk_put (cs := #[.bool false, .string (⟨#[]⟩ : ByteArray), .int .i64 0]) ?_ 0 _ rfl; (with_reducible repeat (first | refine blk_drewN ?_ _ | refine blk_drew ?_ | refine blk_alloc ?_ _)); exact BK102.out) Try.underlying24 rfl (by kernel_rfl)) rfl ?_
  exact ⟨by first | rfl | (simp [errW_none, errW_some] <;> rfl) | (simp [*, errW_none, errW_some] <;> rfl), by repeat (first | (with_reducible first | exact HB.out | apply below_alloc | apply pw_below_drewN | apply below_drew1 | refine below_set ?_ GE101.out | refine below_set ?_ GE102.out) | exact HB.out)⟩
 ·replace c2 := Bool.eq_false_iff.mpr c2
  subst c2
  have H1 : ((value_Int.f a0_2).bind fun bt106 => (some (bt106.1, bt106.2.1, bt106.2.2))) = some (r1, r2, r3) := by rw [if_neg (show ¬ (false = true) by decide)] at H; exact H
  clear H
  have H := H1
  clear H1
  replace H := Option.bind_eq_some_iff.mp H
  obtain ⟨⟨t106, t107, t108⟩, A100, H⟩ := H
  replace H : (some (t106, t107, t108)) = some (r1, r2, r3) := H
  have A10 := Aside0.mk A100
  clear A100
  simp only [Option.some.injEq, Prod.mk.injEq] at H
  obtain ⟨rfl, rfl, rfl⟩ := H
  go_enter Try.func38, Try.ntmps38
  go_wp2_with (first | ((with_reducible refine gate_dst (N := 1) rfl ?_); refine box_event ?hg (N := 1) ?hd (cs := #[.bool false, .string a0_1, .int .i64 a0_2]) (t := 24) ?hr ?_; (case hd => rfl); (case hg => rfl); (case hr => first | (go_simp; done) | (go_simp; rfl)); intro gb101 hg w11 hbox hb; have n0_ := Aside0.mk (below_step (by repeat (first | (with_reducible first | exact HB.out | apply below_alloc | apply pw_below_drewN | apply below_drew1) | exact HB.out)) hb); have n1_ := Aside0.mk (hbox); have n2_ := Aside0.mk ((by rw [hg]; exact (below_size (by repeat (first | (with_reducible first | exact HB.out | apply below_alloc | apply pw_below_drewN | apply below_drew1) | exact HB.out))) : w.heap.size ≤ gb101)); have n3_ := Aside0.mk ((by rw [hg]; exact (below_size (by repeat (first | (with_reducible first | exact HB.out | apply below_alloc | apply pw_below_drewN | apply below_drew1) | exact HB.out))) : w.heap.size ≤ gb101)); clear HB; have HB := n0_; have BK101 := n1_; have GW101 := n2_; have GE101 := n3_; clear n0_ n1_ n2_ n3_; clear hb hbox hg) | ((with_reducible refine gate_dst (N := 2) rfl ?_); refine box_event ?hg (N := 2) ?hd (cs := #[.bool false, .string (⟨#[]⟩ : ByteArray), .int .i64 0]) (t := 24) ?hr ?_; (case hd => rfl); (case hg => rfl); (case hr => first | (go_simp; done) | (go_simp; rfl)); intro gb102 hg w12 hbox hb; have n0_ := Aside0.mk (blk_below (g := gb101) (o := .cells #[.bool false, .string a0_1, .int .i64 a0_2] 24 (0, 0)) (by (with_reducible repeat (first | refine blk_drewN ?_ _ | refine blk_drew ?_ | refine blk_alloc ?_ _)); exact BK101.out) hb); have n1_ := Aside0.mk (below_step (by repeat (first | (with_reducible first | exact HB.out | apply below_alloc | apply pw_below_drewN | apply below_drew1 | refine below_set ?_ GE101.out) | exact HB.out)) hb); have n2_ := Aside0.mk (hbox); have n3_ := Aside0.mk ((by rw [hg]; exact (below_size (by repeat (first | (with_reducible first | exact HB.out | apply below_alloc | apply pw_below_drewN | apply below_drew1 | refine below_set ?_ GE101.out) | exact HB.out))) : w.heap.size ≤ gb102)); have n4_ := Aside0.mk ((by rw [hg]; exact (below_size (by repeat (first | (with_reducible first | exact HB.out | apply below_alloc | apply pw_below_drewN | apply below_drew1 | refine below_set ?_ GE101.out) | exact HB.out))) : w.heap.size ≤ gb102)); have n5_ := Aside0.mk ((by rw [hg]; exact Nat.ne_of_lt (blk_lt (g := gb101) (o := .cells #[.bool false, .string a0_1, .int .i64 a0_2] 24 (0, 0)) (by (with_reducible repeat (first | refine blk_drewN ?_ _ | refine blk_drew ?_ | refine blk_alloc ?_ _)); exact BK101.out)) : gb101 ≠ gb102)); have n6_ := Aside0.mk ((by rw [hg]; exact Nat.ne_of_gt (blk_lt (g := gb101) (o := .cells #[.bool false, .string a0_1, .int .i64 a0_2] 24 (0, 0)) (by (with_reducible repeat (first | refine blk_drewN ?_ _ | refine blk_drew ?_ | refine blk_alloc ?_ _)); exact BK101.out)) : gb102 ≠ gb101)); clear BK101; clear HB; have BK101 := n0_; have HB := n1_; have BK102 := n2_; have GW102 := n3_; have GE102 := n4_; have NB101_102 := n5_; have NB102_101 := n6_; clear n0_ n1_ n2_ n3_ n4_ n5_ n6_; clear hb hbox hg; have hnb13 := NB101_102.out; have hnc13 := NB102_101.out; have hcz14_0 : w12.cell? ⟨gb101, 0, none⟩ = some (.bool false) := (blk_cell BK101.out 0).trans rfl; have hcz14_1 : w12.cell? ⟨gb101, 1, none⟩ = some (.string a0_1) := (blk_cell BK101.out 1).trans rfl; have hcz14_2 : w12.cell? ⟨gb101, 2, none⟩ = some (.int .i64 a0_2) := (blk_cell BK101.out 2).trans rfl; have hfz14_0 := blk_frozen BK101.out 0; have hfz14_1 := blk_frozen BK101.out 1; have hfz14_2 := blk_frozen BK101.out 2) | ((with_reducible refine gate_callee (f := 47) rfl ?_); refine goesL_ (some 10) rfl rfl Try.func47 (by kernel_rfl) rfl #[.int .i64 a0_2] rfl (by (try simp only [List.map_toArray, List.map_cons, List.map_nil]); first | done | rfl | (simp only [List.length_drop, List.length_take]; rfl)) ?_; (with_reducible refine (value_Int.calls a0_2 t106 t107 t108 _ A10.out).mono ?_); rintro e w15 ⟨rfl, hb⟩; refine ⟨_, rfl, ?_⟩; have n0_ := Aside0.mk (blk_below (g := gb101) (o := .cells #[.bool false, .string a0_1, .int .i64 a0_2] 24 (0, 0)) (by (with_reducible repeat (first | refine blk_drewN ?_ _ | refine blk_drew ?_ | refine blk_alloc ?_ _)); exact BK101.out) hb); have n1_ := Aside0.mk (blk_below (g := gb102) (o := .cells #[.bool false, .string (⟨#[]⟩ : ByteArray), .int .i64 0] 24 (0, 0)) (by (with_reducible repeat (first | refine blk_drewN ?_ _ | refine blk_drew ?_ | refine blk_alloc ?_ _)); exact BK102.out) hb); have n2_ := Aside0.mk (below_step (by repeat (first | (with_reducible first | exact HB.out | apply below_alloc | apply pw_below_drewN | apply below_drew1 | refine below_set ?_ GE101.out | refine below_set ?_ GE102.out) | exact HB.out)) hb); clear BK101; clear BK102; clear HB; have BK101 := n0_; have BK102 := n1_; have HB := n2_; clear n0_ n1_ n2_; (try clear hb); (try clear hb2); (try clear hk); (try clear hi); have hcz16_0 : w15.cell? ⟨gb102, 0, none⟩ = some (.bool false) := (blk_cell BK102.out 0).trans rfl; have hcz16_1 : w15.cell? ⟨gb102, 1, none⟩ = some (.string (⟨#[]⟩ : ByteArray)) := (blk_cell BK102.out 1).trans rfl; have hcz16_2 : w15.cell? ⟨gb102, 2, none⟩ = some (.int .i64 0) := (blk_cell BK102.out 2).trans rfl; have hfz16_0 := blk_frozen BK102.out 0; have hfz16_1 := blk_frozen BK102.out 1; have hfz16_2 := blk_frozen BK102.out 2))
  refine bodyPost_ret (results_cell_row rfl _ _ gb102 24 #[.bool t106, .string t107, .int .i64 t108] (0, 0) _ rfl (by (with_reducible repeat (first | refine blk_drewN ?_ _ | refine blk_drew ?_ | refine blk_alloc ?_ _)); refine blk_put (cs := #[.bool t106, .string t107, .int .i64 0]) ?_ 2 _ rfl; (with_reducible repeat (first | refine blk_drewN ?_ _ | refine blk_drew ?_ | refine blk_alloc ?_ _)); refine blk_put (cs := #[.bool t106, .string (⟨#[]⟩ : ByteArray), .int .i64 0]) ?_ 1 _ rfl; (with_reducible repeat (first | refine blk_drewN ?_ _ | refine blk_drew ?_ | refine blk_alloc ?_ _)); refine blk_put (cs := #[.bool false, .string (⟨#[]⟩ : ByteArray), .int .i64 0]) ?_ 0 _ rfl; (with_reducible repeat (first | refine blk_drewN ?_ _ | refine blk_drew ?_ | refine blk_alloc ?_ _)); exact BK102.out) Try.underlying24 rfl (by kernel_rfl)) rfl ?_
  exact ⟨by first | rfl | (simp [errW_none, errW_some] <;> rfl) | (simp [*, errW_none, errW_some] <;> rfl), by repeat (first | (with_reducible first | exact HB.out | apply below_alloc | apply pw_below_drewN | apply below_drew1 | refine below_set ?_ GE101.out | refine below_set ?_ GE102.out) | exact HB.out)⟩
end Go.Proofs.Ytdanihbbnepjpaa.H
namespace Go.Proofs.Ytdanihbbnepjpaa.H
open Go.RowKit Go.Proofs.YtdanihbbnepjpaaW.PrintWords Go.Proofs.YtdanihbbnepjpaaW.PrintLast Go.Proofs.YtdanihbbnepjpaaW.PrintMore
set_option linter.unusedVariables false
theorem grown_set (w : World) (g j : Nat) (v : Value) : w.grownBy (w.setCell ⟨g, j, none⟩ v) (some g) :=
  ⟨rfl, rfl, rfl, by simp [World.setCell], fun k hk hne => Below.heap_setCell w ⟨g, j, none⟩ v k (fun e => hne (by rw [e]))⟩
theorem grown_trans {w w1 w2 : World} {r : Option Nat} (h : w.grownBy w1 r) (k : w1.grownBy w2 r) : w.grownBy w2 r :=
  ⟨k.os.trans h.os, k.tape.trans h.tape, k.output.trans h.output, Nat.le_trans h.size k.size, fun j hj hne => (k.block j (Nat.lt_of_lt_of_le hj h.size) hne).trans (h.block j hj hne)⟩
theorem setCells_rowH {g : Nat} {e : TypeId} : ∀ (vs : List Value) (o : Nat) (w : World) (cur : Array Value), w.heap[g]? = some (.cells cur e (0, 0)) →
    ∃ cur', (w.setCells g o vs).heap[g]? = some (.cells cur' e (0, 0)) ∧ cur'.size = cur.size ∧ (∀ j, j < o → cur'[j]? = cur[j]?) ∧ w.grownBy (w.setCells g o vs) (some g)
  | [], o, w, cur, h => ⟨cur, h, rfl, fun _ _ => rfl, World.grownBy.refl w _⟩
  | v :: r, o, w, cur, h => by
    have h1 := blk_set h o v
    obtain ⟨cur', h2, h3, h4, h5⟩ := setCells_rowH r (o + 1) _ _ h1
    refine ⟨cur', h2, by rw [h3]; simp, fun j hj => ?_, ?_⟩
    · rw [h4 j (by omega)]; simp [show ¬ o = j by omega]
    · exact grown_trans (grown_set w g o v) h5
theorem run_clear_row {P : Program} (w : World) (t e ty : TypeId) (z : Value) (ht : P.underlying t = some (.slice e)) (hv : ∀ w, (zeroValue e).run P w = .ok z w) (h1 : ∀ v ∈ z.cells, v.oneCell' = true) (g o n c : Nat) (cur : Array Value)
    (hh : w.heap[g]? = some (.cells cur e (0, 0))) (hn : o + n * z.cells.size ≤ cur.size) :
    ∃ vs, (Builtin.clear_ #[t] ty #[.slice (some ⟨g, o, none⟩) n c]).run P w = .ok (.tuple #[]) (w.setCells g o vs) := by
  cases n with
  | zero => exact ⟨[], by simp [Builtin.clear_, run_underlying ht]; rfl⟩
  | succ m =>
    have hst := run_storeCells_cells (P := P) g o (Builtin.zeroCells z.cells (m + 1)).toList 0 w
      (by intro j hj
          have hj' : j < (m + 1) * z.cells.size := by simpa [Builtin.zeroCells] using hj
          rw [Nat.add_zero, blk_cell hh, Array.getElem?_eq_getElem (by omega)]; rfl)
      (fun j _ => blk_frozen hh _)
      (by intro v hv'
          simp only [Builtin.zeroCells, Array.toList_map, List.mem_map] at hv'
          obtain ⟨i, hi, rfl⟩ := hv'
          have hi' : i < (m + 1) * z.cells.size := by simpa using hi
          have hz : 0 < z.cells.size := by
            rcases Nat.eq_zero_or_pos z.cells.size with h0 | h0
            · rw [h0] at hi'; omega
            · exact h0
          rw [getElem!_pos z.cells _ (Nat.mod_lt _ hz)]
          exact h1 _ (Array.getElem_mem _))
    simp only [Nat.add_zero] at hst
    exact ⟨(Builtin.zeroCells z.cells (m + 1)).toList, by simp [Builtin.clear_, run_underlying ht, hv, hst]⟩
/-- a row whose tail was written, cut before that tail -/
theorem R_cut {α : Type} {d : Kd α} {e : Nat} {w w1 : World} {base : Nat} {ok : Nat → Prop} {g n cap i : Nat} {xs : List α} (h : d.R e w base ok (.slice (some ⟨g, 0, none⟩) n cap) xs) (hi : i ≤ xs.length) (hg : w.grownBy w1 (some g)) {cur cur' : Array Value}
    (h0 : w.heap[g]? = some (.cells cur e (0, 0))) (h1 : w1.heap[g]? = some (.cells cur' e (0, 0))) (hs : cur'.size = cur.size) (hp : ∀ j, j < i * d.sz → cur'[j]? = cur[j]?) :
    d.R e w1 base ok (.slice (some ⟨g, 0, none⟩) i cap) (xs.take i) := by
  obtain ⟨hok, inner, ⟨hlen, ho⟩, hr⟩ := h
  rcases ho with ⟨he, _⟩ | ⟨g', cap', cur0, he, hb, hh, hnc, hcm, hcs, htk⟩
  · cases he
  · cases he
    have hcc : cur0 = cur := by rw [h0] at hh; injection hh with hh; injection hh with hh; exact hh.symm
    subst hcc
    have hle : i * d.sz ≤ xs.length * d.sz := Nat.mul_le_mul_right _ hi
    have hlt : (xs.take i).length = i := by rw [List.length_take]; omega
    have hll : inner.length = xs.length * d.sz := hlen
    refine ⟨hok, inner.take (i * d.sz), ⟨?_, .inr ⟨g, cap, cur', by rw [hlt], hb, h1, by omega, hcm, by rw [hs, hcs], ?_⟩⟩, ?_, ?_⟩
    · rw [List.length_take, hlt]; omega
    · rw [hlt, ← htk, List.take_take, Nat.min_eq_left hle]
      apply List.ext_getElem?
      intro j
      rw [List.getElem?_take, List.getElem?_take]
      split
      · have := hp j (by assumption)
        simpa using this
      · rfl
    · rw [List.length_take, hlt]; omega
    · intro j p hj
      rw [List.getElem?_take] at hj
      split at hj
      · rename_i hji
        have h3 := hr.2 j p hj
        have hjs : j * d.sz + d.sz ≤ i * d.sz := by rw [← Nat.succ_mul]; exact Nat.mul_le_mul_right _ hji
        have e1 : ((inner.take (i * d.sz)).drop (j * d.sz)).take d.sz = (inner.drop (j * d.sz)).take d.sz := by
          rw [List.drop_take, List.take_take, Nat.min_eq_left (by omega)]
        rw [e1]
        refine Kd.M_grown h3 hg (fun k hk => ?_)
        simpa [Value.ownBlock] using hk.2
      · cases hj
theorem R_blk {α : Type} {d : Kd α} {e : Nat} {w : World} {base : Nat} {ok : Nat → Prop} {g n cap : Nat} {xs : List α} (h : d.R e w base ok (.slice (some ⟨g, 0, none⟩) n cap) xs) : ∃ cells, w.heap[g]? = some (.cells cells e (0, 0)) := by
  obtain ⟨_, inner, ⟨_, ho⟩, _⟩ := h
  rcases ho with ⟨he, _⟩ | ⟨g', cap', cur0, he, hb, hh, _⟩
  · cases he
  · cases he; exact ⟨_, hh⟩
theorem R_size {α : Type} {d : Kd α} {e : Nat} {w : World} {base : Nat} {ok : Nat → Prop} {g n cap : Nat} {xs : List α} (h : d.R e w base ok (.slice (some ⟨g, 0, none⟩) n cap) xs) {cells : Array Value} (hc : w.heap[g]? = some (.cells cells e (0, 0))) : cells.size = cap * d.sz ∧ n ≤ cap := by
  obtain ⟨_, inner, ⟨_, ho⟩, _⟩ := h
  rcases ho with ⟨he, _⟩ | ⟨g', cap', cur0, he, hb, hh, h1, h2, h3, _⟩
  · cases he
  · cases he
    rw [hh] at hc; injection hc with hc; injection hc with hc; subst hc
    exact ⟨h3, h1⟩
theorem R_put1 {α : Type} {enc : α → Value} {h1 : ∀ x, (enc x).oneCell' = true} {e : Nat} {w : World} {base : Nat} {ok : Nat → Prop} {g n cap : Nat} {xs : List α} (h : (Kd.scalar enc h1).R e w base ok (.slice (some ⟨g, 0, none⟩) n cap) xs) (i : Nat) (x : α) :
    (Kd.scalar enc h1).R e (w.setCell ⟨g, i, none⟩ (enc x)) base ok (.slice (some ⟨g, 0, none⟩) n cap) (xs.set i x) ∧ w.grownBy (w.setCell ⟨g, i, none⟩ (enc x)) (some g) := by
  obtain ⟨rfl, _, _⟩ := Kd.R_reads' h
  have := Kd.R_put h (i : Int) x
  simpa using this
/-- a row that was made by a literal, read -/
theorem C_cells {α : Type} {d : Kd α} {w : World} {g e : Nat} {cs : Array Value} {xs : List α} (h : w.heap[g]? = some (.cells cs e (0, 0))) (hr : Reps (d.K w) d.sz xs cs.toList) (hl : xs.length ≤ 9223372036854775807) :
    d.C w (some ⟨g, 0, none⟩) xs.length xs := by
  refine ⟨rfl, hl, fun _ => ⟨⟨g, 0, none⟩, rfl, fun j p hj => ?_⟩⟩
  refine ⟨(cs.toList.drop (j * d.sz)).take d.sz, ?_, hr.2 j p hj, fun i u hu => ?_⟩
  · have hjl := (List.getElem?_eq_some_iff.1 hj).1
    have : j * d.sz + d.sz ≤ xs.length * d.sz := by rw [← Nat.succ_mul]; exact Nat.mul_le_mul_right _ hjl
    rw [List.length_take, List.length_drop, hr.1]; omega
  · rw [List.getElem?_take] at hu
    split at hu
    · rw [add_plain, blk_cell h]
      rw [List.getElem?_drop] at hu
      simpa using hu
    · cases hu
/-- a predicate that is handed to what rewrites the row as it goes -/
def PredG (P : Program) (g : Nat) (lb : Array Value) {α : Type} (enc : α → Value) (p : α → Bool) (w : World) (row : Option Nat) (l : List α) : Prop :=
  ∀ (W : World) (x : α), x ∈ l → w.grownBy W row → Calls P g (#[enc x] ++ lb) W fun e w' => e = .returned (.bool (p x)) ∧ Below W.heap.size W w'
theorem grown_below {w w1 : World} (h : Below w.heap.size w w1) (row : Option Nat) : w.grownBy w1 row := grown_of_below h row
theorem PredG.k {P : Program} {g : Nat} {lb : Array Value} {α : Type} {enc : α → Value} {p : α → Bool} {w : World} {row : Option Nat} {l : List α} (h : PredG P g lb enc p w row l) : PredK P g lb enc p w l :=
  fun W x hm hb => h W x hm (grown_of_below hb row)
structure KeptIv {α : Type} (q : α → Bool) (l : List α) (j i : Nat) (dk : List α) : Prop where
  len : dk.length = l.length
  lt : i < j
  le : j ≤ l.length
  low : dk.take i = (l.take j).filter q
  high : dk.drop j = l.drop j
theorem KeptIv.skip {α : Type} {q : α → Bool} {l dk : List α} {j i : Nat} {y : α} (h : KeptIv q l j i dk) (hy : l[j]? = some y) (hq : q y = false) : KeptIv q l (j + 1) i dk := by
  have hj : j < l.length := (List.getElem?_eq_some_iff.1 hy).1
  refine ⟨h.len, by have := h.lt; omega, by omega, ?_, ?_⟩
  · rw [List.take_add_one, hy, List.filter_append, h.low]; simp [hq]
  · have := congrArg (List.drop 1) h.high; simpa [List.drop_drop, Nat.add_comm] using this
theorem KeptIv.keep {α : Type} {q : α → Bool} {l dk : List α} {j i : Nat} {y : α} (h : KeptIv q l j i dk) (hy : l[j]? = some y) (hq : q y = true) : KeptIv q l (j + 1) (i + 1) (dk.set i y) := by
  have hj : j < l.length := (List.getElem?_eq_some_iff.1 hy).1
  have hlt := h.lt
  have hlen := h.len
  refine ⟨by simpa using h.len, by omega, by omega, ?_, ?_⟩
  · have e1 : (dk.set i y).take (i + 1) = dk.take i ++ [y] := by
      rw [List.take_add_one, List.getElem?_set_self (by omega)]
      simp [List.take_set_of_le (Nat.le_refl i)]
    rw [e1, h.low, List.take_add_one, hy, List.filter_append]; simp [hq]
  · rw [List.drop_set_of_lt (by omega)]
    have := congrArg (List.drop 1) h.high; simpa [List.drop_drop, Nat.add_comm] using this
theorem KeptIv.start {α : Type} {q : α → Bool} {l : List α} {k : Nat} {y : α} (h : ∀ x ∈ l.take k, q x = true) (hy : l[k]? = some y) (hq : q y = false) : KeptIv q l (k + 1) k l := by
  have hk : k < l.length := (List.getElem?_eq_some_iff.1 hy).1
  refine ⟨rfl, by omega, by omega, ?_, rfl⟩
  rw [List.take_add_one, hy, List.filter_append, List.filter_eq_self.2 h]; simp [hq]
theorem idxP_cases {α : Type} (p : α → Bool) : ∀ (l : List α) (i : Nat), (idxP p l i = -1 ∧ ∀ x ∈ l, p x = false) ∨ ∃ k y, idxP p l i = ((i + k : Nat) : Int) ∧ l[k]? = some y ∧ p y = true ∧ ∀ x ∈ l.take k, p x = false
  | [], i => .inl ⟨rfl, by simp⟩
  | x :: l, i => by
    cases h : p x with
    | true => exact .inr ⟨0, x, by simp [idxP, h], by simp, h, by simp⟩
    | false =>
      rcases idxP_cases p l (i + 1) with ⟨e, ha⟩ | ⟨k, y, e, hy, hp, ha⟩
      · exact .inl ⟨by simp [idxP, h, e], by simpa [h] using ha⟩
      · exact .inr ⟨k + 1, y, by rw [idxP, if_neg (by rw [h]; decide), e]; congr 1; omega, by simpa using hy, hp, by simpa [h] using ha⟩
end Go.Proofs.Ytdanihbbnepjpaa.H
namespace Go.Proofs.Ytdanihbbnepjpaa.H
open Go.RowKit Go.Proofs.YtdanihbbnepjpaaW.PrintWords Go.Proofs.YtdanihbbnepjpaaW.PrintLast Go.Proofs.YtdanihbbnepjpaaW.PrintMore
set_option linter.unusedVariables false
/-- A kind of elements whose cells are told by the element alone (no rows inside). -/
structure Flat {α : Type} (d : Kd α) (c : α → List Value) : Prop where
  M : ∀ {w base ok x cs}, d.M w base ok x cs ↔ cs = c x
  K : ∀ {w x cs}, d.K w x cs ↔ cs = c x
  len : ∀ x, (c x).length = d.sz
  one : ∀ x, ∀ u ∈ c x, u.oneCell' = true
  pos : 0 < d.sz
section
variable {α : Type} {d : Kd α} {c : α → List Value}
theorem Flat.flen (F : Flat d c) : ∀ xs : List α, (xs.flatMap c).length = xs.length * d.sz
  | [] => by simp
  | x :: xs => by rw [List.flatMap_cons, List.length_append, F.len, F.flen xs, List.length_cons, Nat.succ_mul, Nat.add_comm]
theorem Flat.fone (F : Flat d c) (xs : List α) : ∀ u ∈ xs.flatMap c, u.oneCell' = true := fun u hu => by
  obtain ⟨x, _, hx⟩ := List.mem_flatMap.1 hu
  exact F.one x u hx
theorem Flat.fdrop (F : Flat d c) : ∀ (xs : List α) (i : Nat), (xs.flatMap c).drop (i * d.sz) = (xs.drop i).flatMap c
  | xs, 0 => by simp
  | [], i + 1 => by simp
  | x :: xs, i + 1 => by
    rw [List.flatMap_cons, List.drop_append, F.len, List.drop_eq_nil_of_le (by rw [F.len, Nat.succ_mul]; omega), List.nil_append, List.drop_succ_cons, ← F.fdrop xs i]
    congr 1
    rw [Nat.succ_mul]; omega
theorem Flat.ftake (F : Flat d c) : ∀ (xs : List α) (i : Nat), (xs.flatMap c).take (i * d.sz) = (xs.take i).flatMap c
  | xs, 0 => by simp
  | [], i + 1 => by simp
  | x :: xs, i + 1 => by
    rw [List.flatMap_cons, List.take_append, F.len, List.take_of_length_le (by rw [F.len, Nat.succ_mul]; omega), List.take_succ_cons, List.flatMap_cons, ← F.ftake xs i]
    congr 2
    rw [Nat.succ_mul]; omega
theorem Flat.fget (F : Flat d c) {xs : List α} {i : Nat} {x : α} (h : xs[i]? = some x) : ((xs.flatMap c).drop (i * d.sz)).take d.sz = c x := by
  rw [F.fdrop, drop_cons h, List.flatMap_cons, List.take_append_of_le_length (by rw [F.len]; exact Nat.le_refl _), List.take_of_length_le (by rw [F.len]; exact Nat.le_refl _)]
theorem Flat.reps (F : Flat d c) {R : α → List Value → Prop} (hR : ∀ x cs, R x cs ↔ cs = c x) : ∀ {xs : List α} {inner : List Value}, Reps R d.sz xs inner ↔ inner = xs.flatMap c := by
  intro xs inner
  constructor
  · intro h
    apply List.ext_getElem?
    intro q
    by_cases hq : q < xs.length * d.sz
    · have hi : q / d.sz < xs.length := (Nat.div_lt_iff_lt_mul F.pos).2 hq
      have h1 := (hR _ _).1 (h.2 (q / d.sz) _ (List.getElem?_eq_getElem hi))
      have h2 := F.fget (List.getElem?_eq_getElem hi)
      have e : ∀ l : List Value, ((l.drop (q / d.sz * d.sz)).take d.sz)[q % d.sz]? = l[q]? := fun l => by
        rw [List.getElem?_take, if_pos (Nat.mod_lt _ F.pos), List.getElem?_drop, Nat.mul_comm, Nat.div_add_mod]
      rw [← e inner, ← e (xs.flatMap c), h1, h2]
    · rw [List.getElem?_eq_none (by rw [h.1]; omega), List.getElem?_eq_none (by rw [F.flen]; omega)]
  · rintro rfl
    exact ⟨F.flen xs, fun j p hj => (hR _ _).2 (F.fget hj)⟩
/-- what a row of one's own is, told by its block -/
structure Blk (d : Kd α) (c : α → List Value) (e : Nat) (w : World) (base : Nat) (ok : Nat → Prop) (g n cap : Nat) (xs : List α) (cur : Array Value) : Prop where
  len : n = xs.length
  okg : ok g
  bas : base ≤ g
  heap : w.heap[g]? = some (.cells cur e (0, 0))
  le : n ≤ cap
  max : cap ≤ maxLen
  size : cur.size = cap * d.sz
  take : cur.toList.take (n * d.sz) = xs.flatMap c
theorem Flat.blk (F : Flat d c) {e : Nat} {w : World} {base : Nat} {ok : Nat → Prop} {g n cap : Nat} {xs : List α} (h : d.R e w base ok (.slice (some ⟨g, 0, none⟩) n cap) xs) : ∃ cur, Blk d c e w base ok g n cap xs cur := by
  obtain ⟨hn, _, _⟩ := Kd.R_reads' h
  obtain ⟨hok, inner, ⟨hlen, ho⟩, hr⟩ := h
  rcases ho with ⟨he, _⟩ | ⟨g', cap', cur, he, hb, hh, hnc, hcm, hcs, htk⟩
  · cases he
  · cases he
    exact ⟨cur, hn, hok g rfl, hb, hh, by omega, hcm, hcs, by rw [hn, htk]; exact (F.reps (fun _ _ => F.M)).1 hr⟩
theorem Flat.row (F : Flat d c) {e : Nat} {w : World} {base : Nat} {ok : Nat → Prop} {g n cap : Nat} {xs : List α} {cur : Array Value} (h : Blk d c e w base ok g n cap xs cur) : d.R e w base ok (.slice (some ⟨g, 0, none⟩) n cap) xs := by
  have hn := h.len
  subst hn
  refine ⟨fun k hk => ?_, xs.flatMap c, ⟨F.flen xs, .inr ⟨g, cap, cur, rfl, h.bas, h.heap, h.le, h.max, h.size, h.take⟩⟩, (F.reps (fun _ _ => F.M)).2 rfl⟩
  have : g = k := by simpa [Value.ownBlock] using hk
  exact this ▸ h.okg
/-- a row that is read: its cells -/
theorem Flat.cell (F : Flat d c) {w : World} {A : Addr} {n : Nat} {xs : List α} (h : d.C w (some A) n xs) : ∀ j u, (xs.flatMap c)[j]? = some u → w.cell? (A.add j) = some u := by
  intro j u hj
  have hjl : j < xs.length * d.sz := by rw [← F.flen]; exact (List.getElem?_eq_some_iff.1 hj).1
  have hi : j / d.sz < xs.length := (Nat.div_lt_iff_lt_mul F.pos).2 hjl
  obtain ⟨ad, cs, e, hs, hK, hc⟩ := Kd.C_nth h (List.getElem?_eq_getElem hi)
  cases e
  have hk := F.K.1 hK
  have h2 := F.fget (List.getElem?_eq_getElem hi)
  have e : ((xs.flatMap c).drop (j / d.sz * d.sz)).take d.sz = cs := by rw [h2, hk]
  have h3 : cs[j % d.sz]? = some u := by
    rw [← e, List.getElem?_take, if_pos (Nat.mod_lt _ F.pos), List.getElem?_drop, Nat.mul_comm, Nat.div_add_mod]; exact hj
  have := hc _ _ h3
  rwa [Nat.mul_comm, Nat.div_add_mod] at this
end
section
variable {P : Program}
theorem run_copy_sz (w : World) (dT sT ty elem : TypeId) (b o dLen dCap : Nat) (a : Addr) (sLen sCap sz k : Nat) (cs : List Value)
    (hu : P.underlying dT = some (.slice elem)) (hs : (P.info? elem).map (·.size) = some sz) (hk : k = Nat.min sLen dLen) (hn : cs.length = k * sz)
    (hsrc : ∀ j v, cs[j]? = some v → w.cell? (a.add j) = some v) (hc : ∀ j, j < cs.length → (w.cell? ⟨b, o + j, none⟩).isSome = true) (hf : ∀ j, j < cs.length → w.frozen? ⟨b, o + j, none⟩ = false) (h1 : ∀ v ∈ cs, v.oneCell' = true) :
    (Builtin.copy_ #[dT, sT] ty #[.slice (some ⟨b, o, none⟩) dLen dCap, .slice (some a) sLen sCap]).run P w = .ok (goInt k) (w.setCells b o cs) := by
  have hl := run_loadCells_list (P := P) w a cs hsrc
  have hst := run_storeCells_cells (P := P) b o cs 0 w (by simpa using hc) (by simpa using hf) h1
  cases hq : P.info? elem with
  | none => simp [hq] at hs
  | some i =>
    have hi : i.size = sz := by simpa [hq] using hs
    simp [Builtin.copy_, run_underlying hu, Builtin.lenOf, Builtin.firstCells, sizeOf, typeInfo, hq, hi, ← hk, ← hn, hl, hst]
end
/-- the cells of a block behind 'setCells' -/
theorem setCells_heap {g : Nat} {e : TypeId} : ∀ (vs : List Value) (o : Nat) (w : World) (cur : Array Value), w.heap[g]? = some (.cells cur e (0, 0)) → o + vs.length ≤ cur.size →
    ∃ cur' : Array Value, (w.setCells g o vs).heap[g]? = some (.cells cur' e (0, 0)) ∧ cur'.size = cur.size ∧ cur'.toList = cur.toList.take o ++ vs ++ cur.toList.drop (o + vs.length)
  | [], o, w, cur, h, _ => ⟨cur, h, rfl, by simp⟩
  | v :: r, o, w, cur, h, hl => by
    have h1 := blk_set h o v
    obtain ⟨cur', h2, h3, h4⟩ := setCells_heap r (o + 1) _ _ h1 (by simp at hl ⊢; omega)
    refine ⟨cur', h2, by rw [h3]; simp, ?_⟩
    rw [h4]
    have e := list_seg_step cur.toList o v r (by simp at hl ⊢; omega)
    simpa [Array.toList_setIfInBounds, Nat.add_assoc] using e
theorem setCells_grown (g : Nat) : ∀ (vs : List Value) (o : Nat) (w : World), w.grownBy (w.setCells g o vs) (some g)
  | [], o, w => World.grownBy.refl w _
  | v :: r, o, w => grown_trans (grown_set w g o v) (setCells_grown g r (o + 1) _)
theorem seg_take {α : Type} (L C : List α) (a N : Nat) (h : a + C.length ≤ N) (hN : N ≤ L.length) : (L.take a ++ C ++ L.drop (a + C.length)).take N = (L.take N).take a ++ C ++ (L.take N).drop (a + C.length) := by
  have e1 : (L.take a).length = a := by rw [List.length_take]; omega
  have t1 : (L.take a).take N = L.take a := by rw [List.take_take, Nat.min_eq_right (by omega)]
  have t2 : C.take (N - a) = C := List.take_of_length_le (by omega)
  have t3 : (L.take N).take a = L.take a := by rw [List.take_take, Nat.min_eq_left (by omega)]
  rw [t3, List.append_assoc, List.take_append, t1, e1, List.take_append, t2, List.drop_take, List.append_assoc, Nat.sub_sub]
theorem Flat.put {α : Type} {d : Kd α} {c : α → List Value} (F : Flat d c) {e : Nat} {w : World} {base : Nat} {ok : Nat → Prop} {g n cap : Nat} {xs : List α} (h : d.R e w base ok (.slice (some ⟨g, 0, none⟩) n cap) xs) {i : Nat} (hi : i < xs.length) (x : α) :
    d.R e (w.setCells g (i * d.sz) (c x)) base ok (.slice (some ⟨g, 0, none⟩) n cap) (xs.set i x) ∧ w.grownBy (w.setCells g (i * d.sz) (c x)) (some g) := by
  obtain ⟨cur, B⟩ := F.blk h
  have hn := B.len
  subst hn
  have hle : i * d.sz + d.sz ≤ xs.length * d.sz := by rw [← Nat.succ_mul]; exact Nat.mul_le_mul_right _ hi
  have hcs : xs.length * d.sz ≤ cur.size := by rw [B.size]; exact Nat.mul_le_mul_right _ B.le
  obtain ⟨cur', h1, h2, h3⟩ := setCells_heap (c x) (i * d.sz) w cur B.heap (by rw [F.len]; omega)
  refine ⟨F.row ⟨by simp, B.okg, B.bas, h1, B.le, B.max, by rw [h2, B.size], ?_⟩, setCells_grown g _ _ _⟩
  rw [h3, seg_take _ _ _ _ (by rw [F.len]; exact hle) (by simpa using hcs), B.take, F.ftake, F.len, ← Nat.succ_mul, F.fdrop, List.set_eq_take_append_cons_drop, if_pos hi]
  simp
end Go.Proofs.Ytdanihbbnepjpaa.H
namespace Go.Proofs.Ytdanihbbnepjpaa.H
open Go.RowKit Go.Proofs.YtdanihbbnepjpaaW.PrintWords
def cPair (x : Pair) : List Value := [.string x.name, .bool x.val.isSym, .string x.val.sym, .int .i64 x.val.n]
theorem flatPair : Flat k41 cPair :=
  ⟨⟨fun h => k41_openM h, fun h => h ▸ k41_mkM _ _ _ _⟩, ⟨fun h => k41_open h, fun h => h ▸ k41_mk _ _⟩, fun _ => rfl, fun x u hu => by
    simp only [cPair, List.mem_cons, List.not_mem_nil, or_false] at hu
    rcases hu with rfl | rfl | rfl | rfl <;> rfl, by decide⟩
end Go.Proofs.Ytdanihbbnepjpaa.H
namespace Go.Proofs.Ytdanihbbnepjpaa.H
open Go.RowKit Go.Proofs.YtdanihbbnepjpaaW.PrintWords Go.Proofs.YtdanihbbnepjpaaW.PrintLast Go.Proofs.YtdanihbbnepjpaaW.PrintMore
set_option linter.unusedVariables false
set_option maxHeartbeats 4000000 in
/-- slices.IndexFunc, a struct -/
theorem IndexFuncPair (g : Nat) (lb : Array Value) (eg : ∀ args w, (callFunc g args).run Try.prog w = .ok (.enter g args) w) (p : Pair → Bool)
    (A0 : Option Addr) (c0 : Nat) (l0 : List Pair) (w : World) (hr0 : Kd.C k41 w A0 l0.length l0) (hp : PredA Try.prog g lb k41 p w l0) :
    Calls Try.prog 31 #[.slice A0 l0.length c0, .func (.func g) #[] lb] w fun e w' => e = .returned (.int .i64 (idxP p l0 0)) ∧ Below w.heap.size w w' := by
  have HR := Aside0.mk hr0
  have HP := Aside0.mk hp
  have hl : l0.length ≤ 9223372036854775807 := hr0.2.1
  clear hr0 hp
  go_enter Try.func31, Try.ntmps31
  go_wp2
  go_loopg [5, 8] l0.length (fun gg _ s8 wr => ∃ kk : Nat, kk ≤ l0.length ∧ l0.length - kk ≤ gg ∧ s8 = .int .i64 kk ∧ Aside0 (Below w.heap.size w wr) ∧ Aside0 (idxP p l0 0 = idxP p (l0.drop kk) kk))
  case atStart => exact ⟨0, Nat.zero_le _, by omega, rfl, ⟨Below.refl _ w⟩, ⟨rfl⟩⟩
  case round =>
    obtain ⟨kk, hkk, hg, rfl, BW, A⟩ := hrel
    by_cases hlt : kk < l0.length
    · have hltz : (kk : Int) < (l0.length : Int) := by omega
      obtain ⟨y, hy⟩ := at_some hlt
      have hat := at_Pair HR.out hy
      have HA := Aside0.mk (A.out.trans (by rw [drop_cons hy]))
      have hym := List.mem_of_getElem? hy
      clear A hy
      obtain ⟨ad, e1, hx0, hx1, hx2, hx3⟩ := hat
      cases e1
      replace hx0 := Below.old BW.out hx0; replace hx1 := Below.old BW.out hx1; replace hx2 := Below.old BW.out hx2; replace hx3 := Below.old BW.out hx3
      have hcall := HP.out wr y [.string y.name, .bool y.val.isSym, .string y.val.sym, .int .i64 y.val.n] hym BW.out (k41_mk wr y )
      cases hq : p y with
      | true =>
        rw [hq] at hcall
        go_wp2_with (go_at_fn g; refine hcall.mono ?_; rintro e w' ⟨rfl, hb'⟩)
        go_ret
        exact ⟨by rw [HA.out, idxP, if_pos hq]; rfl, Below.then BW.out hb'⟩
      | false =>
        rw [hq] at hcall
        go_wp2_with (go_at_fn g; refine hcall.mono ?_; rintro e w' ⟨rfl, hb'⟩)
        go_roundg (l0.length - (kk + 1))
        case measure => omega
        case rel => exact ⟨kk + 1, by omega, by omega, by go_num, ⟨Below.then BW.out hb'⟩, ⟨by rw [HA.out, idxP, if_neg (by rw [hq]; decide)]⟩⟩
    · have hltz : ¬ (kk : Int) < (l0.length : Int) := by omega
      obtain rfl : kk = l0.length := by omega
      go_wp2
      go_ret
      exact ⟨by rw [A.out]; simp [idxP], BW.out⟩
theorem bcell {W w1 : World} (hb : Below W.heap.size W w1) : (∀ b o, b < W.heap.size → w1.cell? ⟨b, o, none⟩ = W.cell? ⟨b, o, none⟩) ∧ (∀ b o, b < W.heap.size → w1.frozen? ⟨b, o, none⟩ = W.frozen? ⟨b, o, none⟩) :=
  ⟨fun b o h => hb.cell (p := ⟨b, o, none⟩) h, fun b o h => hb.frozen (p := ⟨b, o, none⟩) h⟩
theorem get1 (w : World) (B : Nat) (s : ByteArray) (l : List Pair) (h1 : w.cell? ⟨B, 0, none⟩ = some (.string s)) :
    PredA Try.prog 32 #[.pointer (some ⟨B, 0, none⟩)] k41 (fun p => decide (p.name = s)) w l := by
  intro W x cs _ hb hK
  have hu := Try.underlying41
  obtain rfl := k41_open hK
  have e1 := Below.old hb h1
  have hB : B < W.heap.size := World.block_lt_of_cell? _ _ e1
  clear h1 hb hK
  by_cases hq : x.name = s
  · obtain ⟨q1, q2⟩ := ba_beq hq
    have HQ := Aside0.mk hq
    clear hq
    go_enter Try.func32, Try.ntmps32
    go_wp2
    go_ret
    exact ⟨by simp [HQ.out], below_alloc (Below.refl _ _) _⟩
  · obtain ⟨q1, q2⟩ := ba_bne hq
    have HQ := Aside0.mk hq
    clear hq
    go_enter Try.func32, Try.ntmps32
    go_wp2
    go_ret
    exact ⟨by simp [HQ.out], below_alloc (Below.refl _ _) _⟩
theorem idxP_find {α : Type} (p : α → Bool) : ∀ (l : List α) (i : Nat), (idxP p l i = -1 ∧ l.find? p = none) ∨ ∃ (k : Nat) (y : α), idxP p l i = ((i + k : Nat) : Int) ∧ l[k]? = some y ∧ l.find? p = some y
  | [], i => .inl ⟨rfl, rfl⟩
  | x :: l, i => by
    unfold idxP
    by_cases h : p x = true
    · exact .inr ⟨0, x, by simp [h], rfl, by simp [h]⟩
    · rcases idxP_find p l (i + 1) with ⟨h1, h2⟩ | ⟨k, y, h1, h2, h3⟩
      · exact .inl ⟨by simp [h, h1], by simp [h, h2]⟩
      · exact .inr ⟨k + 1, y, by rw [if_neg h, h1]; omega, by simpa using h2, by simp [h, h3]⟩
set_option maxHeartbeats 1000000 in
theorem subst_Get (w : World) (A0 : Option Addr) (c0 : Nat) (l0 : List Pair) (s : ByteArray) (hr : Kd.C k41 w A0 l0.length l0) :
    Calls Try.prog 12 #[.slice A0 l0.length c0, .string s] w fun e w' => (match getOf l0 s with
      | some v => e = .returned (.tuple #[.agg #[.bool v.isSym, .string v.sym, .int .i64 v.n], .bool true])
      | none => e = .returned (.tuple #[.agg #[.bool false, .string ⟨#[]⟩, .int .i64 0], .bool false])) ∧ Below w.heap.size w w' := by
  have hu := Try.underlying41
  have hu2 := Try.underlying24
  have HR := Aside0.mk hr
  clear hr
  have eg := enters_of Try.func32 (by kernel_rfl) rfl
  rcases idxP_find (fun p : Pair => decide (p.name = s)) l0 0 with ⟨h1, h2⟩ | ⟨k, y, h1, h2, h3⟩
  · have E : getOf l0 s = none := by simp [getOf, h2]
    rw [E]
    have H1 := Aside0.mk h1
    clear h1 h2 E
    go_enter Try.func12, Try.ntmps12
    go_wp2_with (go_at_call 31; go_must (refine (IndexFuncPair 32 #[.pointer (some ⟨w.heap.size, 0, none⟩)] eg (fun p => decide (p.name = s)) _ _ _ _ (Kd.C_alloc (Kd.C_alloc HR.out _) _) (get1 _ _ _ _ (by go_simp))).mono ?_); rintro e w1 ⟨rfl, hb⟩; rw [H1.out]; obtain ⟨hc, hf⟩ := bcell hb; have HB := Aside0.mk (Below.then (below_alloc (below_alloc (Below.refl w.heap.size w) _) _) hb); have hz : w.heap.size + 1 < w1.heap.size := (by have := hb.size; simp at this; omega))
    exact bodyPost_ret (v := .tuple #[.agg #[.bool false, .string ⟨#[]⟩, .int .i64 0], .bool false]) (by simp [results, Try.results12, go_sem, hc]) rfl ⟨rfl, below_set (below_set (below_set HB.out (Nat.le_succ _)) (Nat.le_succ _)) (Nat.le_succ _)⟩
  · have E : getOf l0 s = some y.val := by simp [getOf, h3]
    have H1 := Aside0.mk h1
    rw [E]
    obtain ⟨ad, e1, hx0, hx1, hx2, hx3⟩ := at_Pair HR.out h2
    cases e1
    have hk : (0 : Int) ≤ (k : Int) := by omega
    have hkl := (List.getElem?_eq_some_iff.1 h2).1
    clear h1 h2 h3 E
    go_enter Try.func12, Try.ntmps12
    go_wp2_with (go_at_call 31; go_must (refine (IndexFuncPair 32 #[.pointer (some ⟨w.heap.size, 0, none⟩)] eg (fun p => decide (p.name = s)) _ _ _ _ (Kd.C_alloc (Kd.C_alloc HR.out _) _) (get1 _ _ _ _ (by go_simp))).mono ?_); rintro e w1 ⟨rfl, hb⟩; rw [H1.out, Nat.zero_add]; obtain ⟨hc, hf⟩ := bcell hb; have HB := Aside0.mk (Below.then (below_alloc (below_alloc (Below.refl w.heap.size w) _) _) hb); have hz : w.heap.size + 1 < w1.heap.size := (by have := hb.size; simp at this; omega); replace hx0 := Below.old HB.out hx0; replace hx1 := Below.old HB.out hx1; replace hx2 := Below.old HB.out hx2; replace hx3 := Below.old HB.out hx3)
    exact bodyPost_ret (v := .tuple #[.agg #[.bool y.val.isSym, .string y.val.sym, .int .i64 y.val.n], .bool true]) (by simp [results, Try.results12, go_sem, hc]) rfl ⟨rfl, below_set (below_set (below_set HB.out (Nat.le_succ _)) (Nat.le_succ _)) (Nat.le_succ _)⟩
end Go.Proofs.Ytdanihbbnepjpaa.H
namespace Go.Proofs.Ytdanihbbnepjpaa.H
open Go.RowKit Go.Proofs.YtdanihbbnepjpaaW.PrintWords Go.Proofs.YtdanihbbnepjpaaW.PrintLast Go.Proofs.YtdanihbbnepjpaaW.PrintMore
set_option linter.unusedVariables false
/-- a predicate at a struct, handed to what rewrites the row as it goes -/
def PredGA (P : Program) (g : Nat) (lb : Array Value) {α : Type} (d : Kd α) (p : α → Bool) (w : World) (row : Option Nat) (l : List α) : Prop :=
  ∀ (W : World) (x : α) (cs : List Value), x ∈ l → w.grownBy W row → d.K W x cs → Calls P g (#[.agg cs.toArray] ++ lb) W fun e w' => e = .returned (.bool (p x)) ∧ Below W.heap.size W w'
theorem PredGA.k {P : Program} {g : Nat} {lb : Array Value} {α : Type} {d : Kd α} {p : α → Bool} {w : World} {row : Option Nat} {l : List α} (h : PredGA P g lb d p w row l) : PredA P g lb d p w l :=
  fun W x cs hm hb hk => h W x cs hm (grown_of_below hb row) hk
set_option maxHeartbeats 4000000 in
set_option maxRecDepth 100000 in
/-- slices.DeleteFunc at structs without rows -/
theorem DeleteFuncPair (g : Nat) (lb : Array Value) (eg : ∀ args w, (callFunc g args).run Try.prog w = .ok (.enter g args) w) (p : Pair → Bool) (base : Nat) (ok : Nat → Prop)
    (v : Value) (l : List Pair) (w : World) (ho : Kd.R k41 41 w base ok v l) (hp : PredGA Try.prog g lb k41 p w v.ownBlock l) :
    Calls Try.prog 33 #[v, .func (.func g) #[] lb] w fun e w' => ∃ v', e = .returned v' ∧ Kd.R k41 41 w' base ok v' (l.filter fun x => !p x) ∧ w.grownBy w' v.ownBlock ∧ v'.ownBlock = v.ownBlock := by
  have hu := Try.underlying41
  obtain ⟨A, c, rfl, hlc, hC⟩ := Kd.R_reads ho
  have hl : l.length ≤ 9223372036854775807 := hC.2.1
  have hIF := IndexFuncPair g lb eg p A c l w hC hp.k
  rcases idxP_cases p l 0 with ⟨e1, hall⟩ | ⟨k0, y0, e1, hy0, ht, hall⟩
  · rw [e1] at hIF
    have hf : (l.filter fun x => !p x) = l := List.filter_eq_self.2 (fun x hx => by simp [hall x hx])
    have HO := Aside0.mk ho
    have HF := Aside0.mk hf
    clear ho hp hC hf hall e1
    go_enter Try.func33, Try.ntmps33
    go_wp2_with (go_at_call 31; refine hIF.mono ?_; rintro e w' ⟨rfl, hb⟩)
    go_ret
    exact ⟨_, rfl, by rw [HF.out]; exact Kd.R_below HO.out hb, grown_of_below hb _, rfl⟩
  · rw [e1, Nat.zero_add] at hIF
    have hk0 : k0 < l.length := (List.getElem?_eq_some_iff.1 hy0).1
    obtain ⟨b, cap, e2, hbb, hbl, cells0, hcells0⟩ := Kd.R_form ho (by omega)
    cases e2
    have hne1 : ((k0 : Int) == -1) = false := beq_eq_false_iff_ne.2 (by omega)
    have HI0 := Aside0.mk (KeptIv.start (q := fun x => !p x) (fun x hx => by simp [hall x hx]) hy0 (by simp [ht]))
    have HO := Aside0.mk ho
    have HP := Aside0.mk hp
    clear ho hp hC hall e1 hy0 ht hcells0
    go_enter Try.func33, Try.ntmps33
    go_wp2_with (go_at_call 31; refine hIF.mono ?_; rintro e w0 ⟨rfl, hb0⟩; have HB0 := Aside0.mk hb0; clear hb0)
    go_loopg [5, 6, 7] l.length (fun gg s5 s6 _ wr => ∃ (i j : Nat) (dk : List Pair), s5 = .int .i64 i ∧ s6 = .int .i64 j ∧ j ≤ l.length ∧ i < j ∧ l.length - j ≤ gg ∧ Aside0 (KeptIv (fun x => !p x) l j i dk) ∧ Aside0 (Kd.R k41 41 wr base ok (.slice (some ⟨b, 0, none⟩) l.length c) dk) ∧ Aside0 (w.grownBy wr (some b)))
    case atStart => exact ⟨k0, k0 + 1, l, rfl, by go_num, by omega, by omega, by omega, HI0, ⟨Kd.R_below HO.out HB0.out⟩, ⟨grown_of_below HB0.out _⟩⟩
    case round =>
      clear HI0 HO
      obtain ⟨i, j, dk, rfl, rfl, hjl, hij, hgg, HI, HO, HG⟩ := hrel
      have hdl := HI.out.len
      by_cases hlt : j < l.length
      · have hltz : (j : Int) < (l.length : Int) := by omega
        obtain ⟨y, hy⟩ := at_some hlt
        have hyd : dk[j]? = some y := by
          have := congrArg (fun z => z[0]?) HI.out.high
          simpa [hy] using this
        obtain ⟨-, -, hC⟩ := Kd.R_reads' HO.out
        obtain ⟨ad, e1, hx0, hx1, hx2, hx3⟩ := at_Pair hC hyd
        cases e1
        simp only [add_plain] at hx0 hx1 hx2 hx3
        have HN := Aside0.mk (below_alloc (Below.refl wr.heap.size wr) (.cells #[.string y.name, .bool y.val.isSym, .string y.val.sym, .int .i64 y.val.n] 41))
        have hcall := HP.out (wr.alloc (.cells #[.string y.name, .bool y.val.isSym, .string y.val.sym, .int .i64 y.val.n] 41)) y [.string y.name, .bool y.val.isSym, .string y.val.sym, .int .i64 y.val.n] (List.mem_of_getElem? hy) (grown_trans HG.out (grown_of_below HN.out _)) (k41_mk _ y)
        have HY := Aside0.mk hy
        clear hy hyd hC
        cases hq : p y with
        | true =>
          rw [hq] at hcall
          go_wp2_with (go_at_fn g; refine hcall.mono ?_; rintro e w' ⟨rfl, hb'⟩; replace hb' := Below.then HN.out hb'; have HB' := Aside0.mk hb'; clear hb')
          go_roundg (l.length - (j + 1))
          case measure => omega
          case rel => exact ⟨i, j + 1, dk, rfl, by go_num, by omega, by omega, by omega, ⟨HI.out.skip HY.out (by simp [hq])⟩, ⟨Kd.R_below HO.out HB'.out⟩, ⟨grown_trans HG.out (grown_of_below HB'.out _)⟩⟩
        | false =>
          rw [hq] at hcall
          obtain ⟨yi, hyi⟩ : ∃ yi, dk[i]? = some yi := at_some (by omega)
          obtain ⟨-, -, hC⟩ := Kd.R_reads' HO.out
          obtain ⟨iad, ie1, ihx0, ihx1, ihx2, ihx3⟩ := at_Pair hC hyi
          cases ie1
          simp only [add_plain] at ihx0 ihx1 ihx2 ihx3
          clear hyi hC
          go_wp2_with (go_at_fn g; refine hcall.mono ?_; rintro e w' ⟨rfl, hb'⟩; have hv := blk_below (blk_new wr (.cells #[.string y.name, .bool y.val.isSym, .string y.val.sym, .int .i64 y.val.n] 41)) hb'; have hv0 := (blk_cell hv 0).trans rfl; have hv1 := (blk_cell hv 1).trans rfl; have hv2 := (blk_cell hv 2).trans rfl; have hv3 := (blk_cell hv 3).trans rfl; clear hv; replace hb' := Below.then HN.out hb'; have HO1 := Aside0.mk (Kd.R_below HO.out hb'); have jx0 := Below.old hb' ihx0; have jx1 := Below.old hb' ihx1; have jx2 := Below.old hb' ihx2; have jx3 := Below.old hb' ihx3; obtain ⟨cells, hcells⟩ := R_blk HO1.out; have fz0 := blk_frozen hcells (i * 4); have fz1 := blk_frozen hcells (i * 4 + 1); have fz2 := blk_frozen hcells (i * 4 + 2); have fz3 := blk_frozen hcells (i * 4 + 3); have HB' := Aside0.mk hb'; clear hb' hcells)
          obtain ⟨hp1, hp2⟩ := flatPair.put HO1.out (by omega : i < dk.length) y
          go_roundg (l.length - (j + 1))
          case measure => omega
          case rel => exact ⟨i + 1, j + 1, dk.set i y, by go_num, by go_num, by omega, by omega, by omega, ⟨HI.out.keep HY.out (by simp [hq])⟩, ⟨hp1⟩, ⟨grown_trans HG.out (grown_trans (grown_of_below HB'.out _) hp2)⟩⟩
      · have hltz : ¬ (j : Int) < (l.length : Int) := by omega
        obtain rfl : j = l.length := by omega
        obtain ⟨cells, hcells⟩ := R_blk HO.out
        have hsz := R_size HO.out hcells
        obtain ⟨vs, hclr⟩ := run_clear_row (P := Try.prog) wr 29 41 0 (.agg #[.string ⟨#[]⟩, .bool false, .string ⟨#[]⟩, .int .i64 0]) Try.underlying29 Try.zeroValue41 (by decide) b (i * 4) (l.length - i) (c - i) cells hcells (by have h1 := hsz.1; have h2 := hsz.2; rw [show k41.sz = 4 from rfl] at h1; rw [h1, show ((.agg #[.string ⟨#[]⟩, .bool false, .string ⟨#[]⟩, .int .i64 0]) : Value).cells.size = 4 from rfl, ← Nat.add_mul]; exact Nat.mul_le_mul_right _ (by omega))
        obtain ⟨cur', h1, h2, h3, h4⟩ := setCells_rowH vs (i * 4) wr cells hcells
        have HR := Aside0.mk (R_cut HO.out (by omega : i ≤ dk.length) h4 hcells h1 h2 h3)
        have HG4 := Aside0.mk h4
        clear h1 h2 h3 h4 hsz hcells
        have HL := Aside0.mk hdl
        clear hdl
        go_wp2
        go_ret
        exact ⟨_, rfl, by
          have := HI.out.low
          rw [List.take_length] at this
          rw [← this]; exact HR.out, grown_trans HG.out HG4.out, rfl⟩
theorem withDel1 {w : World} {gx : Nat} {row : Option Nat} {s : ByteArray} (l : List Pair) (hb : w.heap[gx]? = some (.cells #[.string s] 9 (0, 0))) (hne : some gx ≠ row) :
    PredGA Try.prog 35 #[.pointer (some ⟨gx, 0, none⟩)] k41 (fun p => decide (p.name = s)) w row l := by
  intro W x cs _ hg hK
  have hu := Try.underlying41
  obtain rfl := k41_open hK
  have h1 : W.heap[gx]? = some (.cells #[.string s] 9 (0, 0)) := (hg.block gx (blk_lt hb) hne).trans hb
  have e1 : W.cell? ⟨gx, 0, none⟩ = some (.string s) := (blk_cell h1 0).trans rfl
  have hB : gx < W.heap.size := World.block_lt_of_cell? _ _ e1
  clear h1 hb hK hg
  by_cases hq : x.name = s
  · obtain ⟨q1, q2⟩ := ba_beq hq
    have HQ := Aside0.mk hq
    clear hq
    go_enter Try.func35, Try.ntmps35
    go_wp2
    go_ret
    exact ⟨by simp [HQ.out], below_alloc (Below.refl _ _) _⟩
  · obtain ⟨q1, q2⟩ := ba_bne hq
    have HQ := Aside0.mk hq
    clear hq
    go_enter Try.func35, Try.ntmps35
    go_wp2
    go_ret
    exact ⟨by simp [HQ.out], below_alloc (Below.refl _ _) _⟩
def GWithDel.f (l : List Pair) (s : ByteArray) : Option (List Pair) := some (dropOf l s)
theorem GWithDel.calls (P0_ : Nat → Prop) (u9000_ : Value) (l0 : List Pair) (a1 : ByteArray) (r : List Pair) (w0 w : World) {gb : Nat} (hB : Below w0.heap.size w0 w) (ho0 : Kd.R k41 41 w w0.heap.size P0_ u9000_ l0)
    (hb : w.heap[gb]? = some (.cells #[.string a1] 9 (0, 0))) (h : GWithDel.f l0 a1 = some r) :
    Calls Try.prog 33 #[u9000_, .func (.func 35) #[] #[.pointer (some ⟨gb, 0, none⟩)]] w fun e w' => ∃ v0_ : Value, e = .returned v0_ ∧ Kd.R k41 41 w' w0.heap.size (fun k_ => (P0_ k_ ∨ w.heap.size ≤ k_)) v0_ r ∧ Below w0.heap.size w0 w' ∧ Kept w w' (fun k_ => P0_ k_) := by
  cases h
  have eg := enters_of Try.func35 (by kernel_rfl) rfl
  have kept : ∀ W, w.grownBy W u9000_.ownBlock → Kept w W (fun k_ => P0_ k_) := fun W hg => ⟨hg.size, fun i hi hn => hg.block i hi (fun e => hn (ho0.1 i e.symm))⟩
  refine (DeleteFuncPair 35 #[.pointer (some ⟨gb, 0, none⟩)] eg (fun p => decide (p.name = a1)) w0.heap.size P0_ u9000_ l0 w ho0 (withDel1 l0 hb (Kd.R_ne ho0 hb (by decide)))).mono ?_
  rintro e w' ⟨v, rfl, hR, hg, hv⟩
  exact ⟨v, rfl, Kd.R_mono hR (fun k hk => .inl hk), pw_below_grown hB _ hB.size hg (fun k hk => Kd.R_base ho0 k hk), kept w' hg⟩
end Go.Proofs.Ytdanihbbnepjpaa.H
namespace Go.Proofs.Ytdanihbbnepjpaa.H
open Go.RowKit Go.Proofs.YtdanihbbnepjpaaW.PrintWords Go.Proofs.YtdanihbbnepjpaaW.PrintLast Go.Proofs.YtdanihbbnepjpaaW.PrintMore
set_option linter.unusedVariables false
theorem withIdx1 {w : World} {gx : Nat} {s : ByteArray} (l : List Pair) (hb : w.heap[gx]? = some (.cells #[.string s] 9 (0, 0))) :
    PredA Try.prog 36 #[.pointer (some ⟨gx, 0, none⟩)] k41 (fun p => after p.name s) w l := by
  intro W x cs _ hg hK
  have hu := Try.underlying41
  obtain rfl := k41_open hK
  have e1 : W.cell? ⟨gx, 0, none⟩ = some (.string s) := (blk_cell (blk_below hb hg) 0).trans rfl
  have hB : gx < W.heap.size := World.block_lt_of_cell? _ _ e1
  clear hb hK hg
  go_enter Try.func36, Try.ntmps36
  go_wp2
  go_ret
  exact ⟨rfl, below_alloc (Below.refl _ _) _⟩
def GWithIdx.f (l : List Pair) (s : ByteArray) : Option Int := some (idxP (fun p => after p.name s) l 0)
theorem GWithIdx.calls (A0 : Option Addr) (c0 : Nat) (l0 : List Pair) (a1 : ByteArray) (r : Int) (w : World) {gb : Nat} (hr0 : Kd.C k41 w A0 l0.length l0) (hc0 : l0.length ≤ c0)
    (hb : w.heap[gb]? = some (.cells #[.string a1] 9 (0, 0))) (h : GWithIdx.f l0 a1 = some r) :
    Calls Try.prog 31 #[.slice A0 l0.length c0, .func (.func 36) #[] #[.pointer (some ⟨gb, 0, none⟩)]] w fun e w' => e = .returned (.int .i64 r) ∧ Below w.heap.size w w' := by
  cases h
  exact IndexFuncPair 36 #[.pointer (some ⟨gb, 0, none⟩)] (enters_of Try.func36 (by kernel_rfl) rfl) (fun p => after p.name a1) A0 c0 l0 w hr0 (withIdx1 l0 hb)
end Go.Proofs.Ytdanihbbnepjpaa.H
namespace Go.Proofs.Ytdanihbbnepjpaa.H
open Go.RowKit Go.Proofs.YtdanihbbnepjpaaW.PrintWords Go.Proofs.YtdanihbbnepjpaaW.PrintLast Go.Proofs.YtdanihbbnepjpaaW.PrintMore
set_option linter.unusedVariables false
theorem R_emptyP (e : Nat) (w : World) (base : Nat) (hb : base ≤ w.heap.size) : k41.R e (w.alloc (.cells #[] e)) base (fun _ => True) (.slice (some ⟨w.heap.size, 0, none⟩) 0 0) [] :=
  flatPair.row (cur := #[]) ⟨rfl, trivial, hb, blk_new _ _, Nat.le_refl _, by decide, by simp, by simp⟩
def subst_Pair_34.f (l : List Pair) : Option (List Pair) := if l.length * 48 ≤ 140737488355328 then some l else none
theorem subst_Pair_34.calls (A0 : Option Addr) (c0 : Nat) (l0 r : List Pair) (w : World) (hr0 : Kd.C k41 w A0 l0.length l0) (_ : l0.length ≤ c0) (h : subst_Pair_34.f l0 = some r) :
    Calls Try.prog 34 #[.slice A0 l0.length c0] w fun e w' => ∃ v0_ : Value, e = .returned v0_ ∧ Kd.R k41 41 w' w.heap.size (fun _ => True) v0_ r ∧ Below w.heap.size w w' := by
  unfold subst_Pair_34.f at h
  split at h
  case isFalse => cases h
  rename_i hz
  cases h
  have HR := Aside0.mk hr0
  clear hr0
  have q1 : ∀ (W : World) (n c : Nat), (binOp .eql 29 (.slice none n c) (.slice none 0 0)).run Try.prog W = .ok (.bool true) W := fun _ _ _ => rfl
  have q2 : ∀ (W : World) (a : Addr) (n c : Nat), (binOp .eql 29 (.slice (some a) n c) (.slice none 0 0)).run Try.prog W = .ok (.bool false) W := fun _ _ _ _ => rfl
  cases A0 with
  | none =>
    have h0 : l0 = [] := by
      rcases Nat.eq_zero_or_pos l0.length with h0 | h0
      · exact List.length_eq_zero_iff.1 h0
      · obtain ⟨ad, e, _⟩ := HR.out.2.2 h0
        cases e
    subst h0
    go_enter Try.func34, Try.ntmps34
    go_wp2
    go_ret
    exact ⟨_, rfl, Kd.R_nil _ _ _ _ _, Below.refl _ _⟩
  | some a =>
    go_enter Try.func34, Try.ntmps34
    have HE := Aside0.mk (R_emptyP 41 w w.heap.size (Nat.le_refl _))
    have HB := Aside0.mk (below_alloc (Below.refl w.heap.size w) (.cells #[] 41))
    go_wp2_with (at_builtin; go_must (refine Kd.R_append_rows k41 (Rr := k41.K (w.alloc (.cells #[] 41))) (w0 := w) w.heap.size rfl (.tmp 5) (.tmp 6) 29 41 _ 48 rfl Try.underlying29 info41 rfl (by decide) (by omega) (.slice (some ⟨w.heap.size, 0, none⟩) 0 0) [] l0 (some a) l0.length c0 (fun _ => True) (fun _ => False) (by go_simp) (by go_simp) HE.out (Kd.C_alloc HR.out _) (fun x cs hk => flatPair.M.2 (flatPair.K.1 hk)) (fun _ h => h.elim) (fun _ _ => trivial) HB.out (by simp) (by simp; omega) ?_); intro v1 w1 hr1 hb1 hg1 hat1; have HR1 := Aside0.mk hr1; have HB1 := Aside0.mk hb1; clear hr1 hb1 hg1 hat1)
    go_ret
    exact ⟨_, rfl, HR1.out, HB1.out⟩
end Go.Proofs.Ytdanihbbnepjpaa.H
namespace Go.Proofs.Ytdanihbbnepjpaa.H
open Go.RowKit Go.Proofs.YtdanihbbnepjpaaW.PrintWords Go.Proofs.YtdanihbbnepjpaaW.PrintLast Go.Proofs.YtdanihbbnepjpaaW.PrintMore
set_option linter.unusedVariables false
set_option linter.unusedSimpArgs false
section
variable {P : Program}
theorem append_types {t t' e e' ty : TypeId} (ht : P.underlying t = some (.slice e)) (ht' : P.underlying t' = some (.slice e')) (B : Option Addr) (n b : Nat) (A : Option Addr) (m c : Nat) (W : World) :
    (Builtin.append_ #[t, t'] ty #[.slice B n b, .slice A m c]).run P W = (Builtin.append_ #[t, t] ty #[.slice B n b, .slice A m c]).run P W := by
  simp [Builtin.append_, run_underlying ht, run_underlying ht']
theorem Flat.append {α : Type} {d : Kd α} {c : α → List Value} (F : Flat d c) {t t' e e' ty : TypeId} {z : Value} {bytes : Nat} (ht : P.underlying t = some (.slice e)) (ht' : P.underlying t' = some (.slice e'))
    (hinfo : (P.info? e).map (fun i => (i.zero, i.size, i.bytes)) = some (some z, d.sz, bytes)) (hz : z.cells.size = d.sz) (hb0 : 0 < bytes)
    {W : World} {base : Nat} {ok : Nat → Prop} {v : Value} {xs ys : List α} {ad : Addr} {m cc : Nat} (HO : d.R e W base ok v xs) (hC : d.C W (some ad) m ys) (hbase : base ≤ W.heap.size) (hl : (xs.length + m) * bytes ≤ 140737488355328) :
    ∃ v1 w1, (Builtin.append_ #[t, t'] ty #[v, .slice (some ad) m cc]).run P W = .ok v1 w1 ∧ d.R e w1 base (fun k => ok k ∨ W.heap.size ≤ k) v1 (xs ++ ys) ∧ W.grownBy w1 v.ownBlock := by
  obtain ⟨i0, hi, hzz⟩ := Option.map_eq_some_iff.1 hinfo
  simp only [Prod.mk.injEq] at hzz
  obtain ⟨hz0, hz1, hz2⟩ := hzz
  have hm : ys.length = m := hC.1
  have hlen : xs.length + m ≤ 140737488355328 := Nat.le_trans (Nat.le_mul_of_pos_right _ hb0) hl
  obtain ⟨A0, c0, rfl⟩ := Kd.R_slice HO
  obtain ⟨hok, inner, hown, hr⟩ := HO
  have hin := (F.reps (fun _ _ => F.M)).1 hr
  obtain ⟨v1, w1, hrun, h2, hg, _, hat⟩ := run_append_own_at (P := P) W base t ty e i0 z d.sz bytes ht hi hz0 hz1 hz2 hz F.pos _ xs.length inner hown ad m cc (ys.flatMap c) (by rw [F.flen, hm]) (F.cell hC) (F.fone ys) (by simp only [maxLen]; omega) hl hbase
  refine ⟨v1, w1, by rw [append_types ht ht']; exact hrun, ⟨fun k hk => ?_, inner ++ ys.flatMap c, by rw [List.length_append, hm]; exact h2, (F.reps (fun _ _ => F.M)).2 (by rw [hin, List.flatMap_append])⟩, hg⟩
  rcases hat with hat | hat
  · exact .inl (hok k (hat ▸ hk))
  · rw [hat] at hk
    injection hk with hk
    exact .inr (by omega)
end
theorem Flat.some {α : Type} {d : Kd α} {c : α → List Value} (F : Flat d c) {e : Nat} {w : World} {base : Nat} {ok : Nat → Prop} {v : Value} {xs : List α} (h : d.R e w base ok v xs) (hp : 0 < xs.length) : ∃ g cap cur, v = .slice (Option.some ⟨g, 0, none⟩) xs.length cap ∧ Blk d c e w base ok g xs.length cap xs cur := by
  obtain ⟨g, cap, rfl, _⟩ := Kd.R_form h hp
  obtain ⟨cur, B⟩ := F.blk h
  exact ⟨g, cap, cur, rfl, B⟩
/-- cells of a block of one's own -/
theorem Blk.cell {α : Type} {d : Kd α} {c : α → List Value} {e : Nat} {w : World} {base : Nat} {ok : Nat → Prop} {g n cap : Nat} {xs : List α} {cur : Array Value} (B : Blk d c e w base ok g n cap xs cur) : ∀ j u, (xs.flatMap c)[j]? = Option.some u → w.cell? ⟨g, j, none⟩ = Option.some u := by
  intro j u hj
  rw [← B.take, List.getElem?_take] at hj
  split at hj
  · rw [blk_cell B.heap]; simpa using hj
  · cases hj
theorem Blk.has {α : Type} {d : Kd α} {c : α → List Value} {e : Nat} {w : World} {base : Nat} {ok : Nat → Prop} {g n cap : Nat} {xs : List α} {cur : Array Value} (B : Blk d c e w base ok g n cap xs cur) {j : Nat} (hj : j < cap * d.sz) : (w.cell? ⟨g, j, none⟩).isSome = true := by
  rw [blk_cell B.heap, Array.getElem?_eq_getElem (by rw [B.size]; exact hj)]; rfl
section
variable {P : Program}
theorem wpList_copy_run (w : World) {ops : Array Oper} {rest : List Oper} {o : Oper} {a : Act} {Q : Exit → Act → World → Prop} (hgd : o.guard = none) (d s : Operand) (t t' : TypeId)
    (ho : o.op = .call { callee := .builtin .copy, args := #[d, s], argTypes := #[t, t'] }) (v u : Value) (hd : a.eval d = v) (hs : a.eval s = u) {v' : Value} {w' : World}
    (hr : (Builtin.copy_ #[t, t'] o.type #[v, u]).run P w = .ok v' w') (h : wpList P ops Q rest (a.put o.dst v') w') : wpList P ops Q (o :: rest) a w := by
  refine wpList_plain hgd fun K hK => ?_
  unfold Oper.wp execOp
  simp only [ho, resolve, invoke, builtin, Sem.run_bind, Sem.run_pure, Result.andThen_ok, List.map_toArray, List.map_cons, List.map_nil, hd, hs, hr]
  exact hK _ _ h
theorem step_copy_run {ops : Array Oper} {o : Oper} {a : Act} {w : World} {K : Act → World → Prop} {Q : Exit → Act → World → Prop} {E : Prop}
    (hg : o.guard = none) (d x : Operand) (dT sT : TypeId) (hop : o.op = Op.call { callee := Callee.builtin Builtin.copy, args := #[d, x], argTypes := #[dT, sT] })
    (v u : Value) (hd : a.eval d = v) (hx : a.eval x = u) {v' : Value} {w' : World} (hr : (Builtin.copy_ #[dT, sT] o.type #[v, u]).run P w = .ok v' w') (hK : K (a.put o.dst v') w') :
    if Region.wanted o (yielded ops a.tmps) = true then Oper.wp P o a w K Q else E := by
  have hw : Region.wanted o (yielded ops a.tmps) = true := by simp [Region.wanted, hg]
  rw [if_pos hw]
  unfold Oper.wp
  simp [execOp, hop, resolve, invoke, builtin, hd, hx, hr, Result.andThen]
  exact hK
end
theorem heap_setCells (b : Nat) : ∀ (vs : List Value) (o : Nat) (W W' : World), W.heap = W'.heap → (W.setCells b o vs).heap = (W'.setCells b o vs).heap
  | [], _, _, _, h => h
  | v :: r, o, W, W', h => heap_setCells b r (o + 1) _ _ (by simp [World.setCell, h])
def insOf (l : List Pair) (i : Nat) (x : Pair) : List Pair := l.take i ++ x :: l.drop i
theorem ins_cells (l : List Pair) (i : Nat) (x : Pair) : (insOf l i x).flatMap cPair = (l.flatMap cPair).take (i * 4) ++ cPair x ++ (l.flatMap cPair).drop (i * 4) := by
  have e1 := flatPair.ftake l i
  have e2 := flatPair.fdrop l i
  rw [show k41.sz = 4 from rfl] at e1 e2
  rw [e1, e2]
  simp [insOf]
set_option maxHeartbeats 4000000 in
set_option maxRecDepth 100000 in
/-- slices.Insert of one: within, no room -/
theorem insert_grow (w : World) (base : Nat) (ok okv : Nat → Prop) (g gv i cap cv : Nat) (l : List Pair) (x : Pair) (cur curv : Array Value) (B : Blk k41 cPair 41 w base ok g l.length cap l cur) (V : Blk k41 cPair 41 w base okv gv 1 cv [x] curv)
    (hi : i < l.length) (hroom : cap < l.length + 1) (hbig : (l.length + 1) * 48 ≤ 140737488355328) (hbase : base ≤ w.heap.size) :
    Calls Try.prog 37 #[.slice (some ⟨g, 0, none⟩) l.length cap, .int .i64 i, .slice (some ⟨gv, 0, none⟩) 1 cv] w fun e w' => ∃ v', e = .returned v' ∧ Kd.R k41 41 w' base (fun k => ok k ∨ w.heap.size ≤ k) v' (insOf l i x) ∧ w.grownBy w' (some g) := by
  obtain ⟨i0, hi0, hzz⟩ := Option.map_eq_some_iff.1 info41
  simp only [Prod.mk.injEq] at hzz
  obtain ⟨hz0, hzs, hzb⟩ := hzz
  have hsz : (Try.prog.info? 41).map (·.size) = some 4 := by rw [hi0]; simp [hzs]
  have hu := Try.underlying41
  have L29 := Try.underlying29
  have hcap := B.le
  have hmax : cap ≤ 9223372036854775807 := B.max
  have fl : (l.flatMap cPair).length = l.length * 4 := flatPair.flen l
  have fx : (cPair x).length = 4 := rfl
  have hbw : g < w.heap.size := blk_lt B.heap
  have hvw : gv < w.heap.size := blk_lt V.heap
  have hkk : (l.length : Int) + 1 - (i : Int) = ((l.length + 1 - i : Nat) : Int) := by omega
  have hik : i + (l.length + 1 - i) = l.length + 1 := by omega
  have hcs : ∀ j v, (l.flatMap cPair)[j]? = some v → w.cell? ⟨g, j, none⟩ = some v := B.cell
  have hvs : ∀ j v, (cPair x)[j]? = some v → w.cell? ⟨gv, j, none⟩ = some v := fun j v h => V.cell j v (by simpa using h)
  have htk : ((l.flatMap cPair).take (i * 4)).length = i * 4 := by rw [List.length_take, fl]; omega
  have hold : (Builtin.firstCells i0.size i (.slice (some ⟨g, 0, none⟩) i cap)).run Try.prog w.drew = .ok ((l.flatMap cPair).take (i * 4)).toArray w.drew := by
    rw [hzs]
    exact run_firstCells_some w.drew 4 i ⟨g, 0, none⟩ i cap _ htk (fun j v hj => by
      rw [add_plain]
      rw [List.getElem?_take] at hj
      split at hj
      · exact hcs j v hj
      · cases hj)
  have hrz : (Builtin.append_ #[29, 3] 29 #[.slice (some ⟨g, 0, none⟩) i cap, .int .i64 ((l.length : Int) + 1 - (i : Int))]).run Try.prog w =
      .ok (.slice (some ⟨w.heap.size, 0, none⟩) (l.length + 1) (grownCap w (l.length + 1) cap 41)) (w.drew.alloc (.cells (((l.flatMap cPair).take (i * 4)).toArray ++ Builtin.zeroCells (Value.agg #[(.string ⟨#[]⟩), (.bool false), (.string ⟨#[]⟩), (.int .i64 0)]).cells (l.length + 1 - i) ++ Builtin.zeroCells (Value.agg #[(.string ⟨#[]⟩), (.bool false), (.string ⟨#[]⟩), (.int .i64 0)]).cells (grownCap w (l.length + 1) cap 41 - (l.length + 1))) 41)) := by
    have h := Lib.run_append_grow_zeros w 29 3 29 41 i0 _ .i64 .i64 L29 Try.underlying3 hi0 hz0 (some ⟨g, 0, none⟩) i cap _ hold (l.length + 1 - i) (by omega) (by omega) (by omega) (by omega) (by rw [hzb]; omega) (by rw [hzb, hik]; exact growslice_fits hroom hbig)
    rw [hik] at h
    rw [hkk]
    exact h
  obtain ⟨G, hG⟩ : ∃ G, G = grownCap w (l.length + 1) cap 41 := ⟨_, rfl⟩
  have hGn : l.length + 1 ≤ G := by rw [hG]; exact grownCap_ge w _ _ _
  have hGm : G ≤ maxLen := by rw [hG]; exact grownCap_le_maxLen w (l.length + 1) cap 41 (by unfold maxLen; omega)
  have hG63 : G ≤ 9223372036854775807 := hGm
  rw [← hG] at hrz
  obtain ⟨ROW, hROW⟩ : ∃ ROW : Array Value, ROW = ((l.flatMap cPair).take (i * 4)).toArray ++ Builtin.zeroCells (Value.agg #[(.string ⟨#[]⟩), (.bool false), (.string ⟨#[]⟩), (.int .i64 0)]).cells (l.length + 1 - i) ++ Builtin.zeroCells (Value.agg #[(.string ⟨#[]⟩), (.bool false), (.string ⟨#[]⟩), (.int .i64 0)]).cells (G - (l.length + 1)) := ⟨_, rfl⟩
  rw [← hROW] at hrz
  have hRs : ROW.size = G * 4 := by
    rw [hROW]
    simp [Builtin.zeroCells, Value.cells, fl]
    omega
  have hRt : ROW.toList.take (i * 4) = (l.flatMap cPair).take (i * 4) := by
    rw [hROW, Array.toList_append, Array.toList_append, List.append_assoc, List.take_append_of_le_length (by simp [fl]; omega), List.take_of_length_le (by simp [fl]; omega)]
  clear hROW hold hzs hzb hz0 hi0
  obtain ⟨W1, hW1⟩ : ∃ W1, W1 = w.drew.alloc (.cells ROW 41) := ⟨_, rfl⟩
  have HN : W1.heap[w.heap.size]? = some (.cells ROW 41 (0, 0)) := by rw [hW1]; exact blk_new w.drew _
  rw [← hW1] at hrz
  obtain ⟨cur1, h1a, h1b, h1c⟩ := setCells_heap (cPair x) (i * 4) W1 ROW HN (by rw [fx, hRs]; omega)
  have hdl : ((l.flatMap cPair).drop (i * 4)).length = (l.length - i) * 4 := by rw [List.length_drop, fl]; omega
  obtain ⟨cur2, h2a, h2b, h2c⟩ := setCells_heap ((l.flatMap cPair).drop (i * 4)) ((i + 1) * 4) _ cur1 h1a (by rw [hdl, h1b, hRs]; omega)
  have hg1 := setCells_grown w.heap.size (cPair x) (i * 4) W1
  have hg2 := setCells_grown w.heap.size ((l.flatMap cPair).drop (i * 4)) ((i + 1) * 4) (W1.setCells w.heap.size (i * 4) (cPair x))
  have hB1 : Below w.heap.size w W1 := by rw [hW1]; exact below_alloc (below_drew (Below.refl _ _)) _
  have hfin : w.grownBy ((W1.setCells w.heap.size (i * 4) (cPair x)).setCells w.heap.size ((i + 1) * 4) ((l.flatMap cPair).drop (i * 4))) (some g) := by
    have h12 := grown_trans hg1 hg2
    have h0 := grown_of_below hB1 (some g)
    exact ⟨h12.os.trans h0.os, h12.tape.trans h0.tape, h12.output.trans h0.output, Nat.le_trans h0.size h12.size, fun j hj hne => (h12.block j (Nat.lt_of_lt_of_le hj h0.size) (by intro e; injection e with e; omega)).trans (h0.block j hj hne)⟩
  have hRfin : Kd.R k41 41 ((W1.setCells w.heap.size (i * 4) (cPair x)).setCells w.heap.size ((i + 1) * 4) ((l.flatMap cPair).drop (i * 4))) base (fun k => ok k ∨ w.heap.size ≤ k) (.slice (some ⟨w.heap.size, 0, none⟩) (l.length + 1) G) (insOf l i x) := by
    refine flatPair.row ⟨by simp [insOf]; omega, .inr (Nat.le_refl _), hbase, h2a, hGn, hGm, by rw [h2b, h1b, hRs]; rfl, ?_⟩
    rw [ins_cells, h2c, h1c, show k41.sz = 4 from rfl]
    have e1 : (ROW.toList.take (i * 4) ++ cPair x ++ ROW.toList.drop (i * 4 + (cPair x).length)).take ((i + 1) * 4) = (l.flatMap cPair).take (i * 4) ++ cPair x := by
      rw [hRt, List.take_append_of_le_length (by rw [List.length_append, htk, fx]; omega), List.take_of_length_le (by rw [List.length_append, htk, fx]; omega)]
    rw [e1, List.take_append_of_le_length (by rw [List.length_append, List.length_append, htk, fx, hdl]; omega), List.take_of_length_le (by rw [List.length_append, List.length_append, htk, fx, hdl]; omega)]
  have hOv : ∀ j v, (cPair x)[j]? = some v → W1.cell? ⟨gv, j, none⟩ = some v := fun j v h => by rw [hB1.cell (p := ⟨gv, j, none⟩) hvw]; exact hvs j v h
  have hOb : ∀ j v, (l.flatMap cPair)[j]? = some v → (W1.setCells w.heap.size (i * 4) (cPair x)).cell? ⟨g, j, none⟩ = some v := fun j v h => by
    rw [World.cell?_setCells_out _ _ _ _ _ (fun h _ => absurd h (by intro e; simp at e; omega)), hB1.cell (p := ⟨g, j, none⟩) hbw]; exact hcs j v h
  have hcpA : ∀ (W : World), (∀ x, W.cell? x = W1.cell? x) → (∀ x, W.frozen? x = W1.frozen? x) → ∀ ty dc, (Builtin.copy_ #[29, 28] ty #[.slice (some ⟨w.heap.size, i * 4, none⟩) (l.length + 1 - i) dc, .slice (some ⟨gv, 0, none⟩) 1 cv]).run Try.prog W = .ok (goInt (1 : Nat)) (W.setCells w.heap.size (i * 4) (cPair x)) := fun W hWc hWf ty dc =>
    run_copy_sz W _ _ ty 41 w.heap.size (i * 4) (l.length + 1 - i) dc ⟨gv, 0, none⟩ 1 cv 4 1 (cPair x) L29 hsz (by simp only [Nat.min_def]; split <;> omega) rfl
      (fun j v hj => by rw [add_plain, hWc]; exact hOv j v hj)
      (fun j hj => by rw [hWc, blk_cell HN, Array.getElem?_eq_getElem (by rw [hRs]; rw [fx] at hj; omega)]; rfl) (fun j hj => by rw [hWf]; exact blk_frozen HN _) (flatPair.one x)
  have hcpB : ∀ (W : World), (∀ y, W.cell? y = (W1.setCells w.heap.size (i * 4) (cPair x)).cell? y) → (∀ y, W.frozen? y = (W1.setCells w.heap.size (i * 4) (cPair x)).frozen? y) → ∀ ty dc sc, (Builtin.copy_ #[29, 29] ty #[.slice (some ⟨w.heap.size, (i + 1) * 4, none⟩) (l.length + 1 - (i + 1)) dc, .slice (some ⟨g, i * 4, none⟩) (l.length - i) sc]).run Try.prog W = .ok (goInt (l.length - i : Nat)) (W.setCells w.heap.size ((i + 1) * 4) ((l.flatMap cPair).drop (i * 4))) := fun W hWc hWf ty dc sc =>
    run_copy_sz W _ _ ty 41 w.heap.size ((i + 1) * 4) (l.length + 1 - (i + 1)) dc ⟨g, i * 4, none⟩ (l.length - i) sc 4 (l.length - i) _ L29 hsz (by simp only [Nat.min_def]; split <;> omega) hdl
      (fun j v hj => by rw [Addr.add_lit, hWc]; exact hOb _ v (by rwa [List.getElem?_drop] at hj))
      (fun j hj => by rw [hWc, blk_cell h1a, Array.getElem?_eq_getElem (by rw [h1b, hRs]; rw [hdl] at hj; omega)]; rfl) (fun j hj => by rw [hWf]; exact blk_frozen h1a _) (fun v hv => flatPair.fone l v (List.mem_of_mem_drop hv))
  have HR := Aside0.mk hRfin
  have HG := Aside0.mk hfin
  have hz2 : ¬ ((i : Int) = (l.length : Int)) := by omega
  have hz3 : (cap : Int) < (l.length : Int) + 1 := by omega
  have hGi : ¬ (G = i) := by omega
  have hGim : ¬ (G = i + 1) := by omega
  have hci : ¬ (cap = i) := by omega
  have hw1 : IntKind.i64.wrap ((i : Int) + 1) = (i : Int) + 1 := by rw [IntKind.wrap_i64]; omega
  have hb1 : (0 : Int) ≤ (i : Int) + 1 := by omega
  have hin : i ≤ l.length := by omega
  have htn : ((i : Int) + 1).toNat = i + 1 := by omega
  have hb3 : (i : Int) ≤ (l.length : Int) := by omega
  subst hW1
  have hE1 : ∀ y, ((w.alloc (.cells ROW 41)).drew).cell? y = (w.drew.alloc (.cells ROW 41)).cell? y := fun y => rfl
  have hE2 : ∀ y, ((w.alloc (.cells ROW 41)).drew).frozen? y = (w.drew.alloc (.cells ROW 41)).frozen? y := fun y => rfl
  have hF1 : ∀ y, (((w.alloc (.cells ROW 41)).drew.setCells w.heap.size (i * 4) (cPair x)).drew).cell? y = ((w.drew.alloc (.cells ROW 41)).setCells w.heap.size (i * 4) (cPair x)).cell? y := fun y => rfl
  have hF2 : ∀ y, (((w.alloc (.cells ROW 41)).drew.setCells w.heap.size (i * 4) (cPair x)).drew).frozen? y = ((w.drew.alloc (.cells ROW 41)).setCells w.heap.size (i * 4) (cPair x)).frozen? y := fun y => rfl
  have hcA := hcpA _ hE1 hE2
  have hcB := hcpB _ (fun _ => rfl) (fun _ => rfl)
  have hcB2 := hcpB _ hF1 hF2
  clear hkk hik hRs hRt HN h1a h1b h1c h2a h2b h2c hg1 hg2 hB1 hfin hRfin hOv hOb hcpA hcpB hcs hvs htk hdl fl fx B V hG
  go_enter Try.func37, Try.ntmps37
  go_wp2_with (first
    | (at_builtin; refine Lib.wpList_append_run _ rfl _ _ _ _ rfl _ _ rfl rfl _ _ hrz ?_)
    | (at_builtin; refine wpList_copy_run _ rfl _ _ 29 28 rfl _ _ rfl rfl (hcA _ _) ?_)
    | (at_builtin; refine wpList_copy_run _ rfl _ _ 29 29 rfl _ _ rfl rfl (hcB _ _ _) ?_))
  go_region_law (refine step_copy_run rfl _ _ 29 29 rfl (.slice (some ⟨w.heap.size, (i + 1) * 4, none⟩) (l.length + 1 - (i + 1)) (G - (i + 1))) (.slice (some ⟨g, i * 4, none⟩) (l.length - i) (cap - i)) (by simp [Act.eval, Act.put]) (by simp [Act.eval, Act.put]) (hcB2 3 (G - (i + 1)) (cap - i)) ?_)
  go_wp2
  go_ret
  have hh : (((w.alloc (.cells ROW 41)).drew.setCells w.heap.size (i * 4) (cPair x)).drew.setCells w.heap.size ((i + 1) * 4) ((l.flatMap cPair).drop (i * 4))).heap = (((w.drew.alloc (.cells ROW 41)).setCells w.heap.size (i * 4) (cPair x)).setCells w.heap.size ((i + 1) * 4) ((l.flatMap cPair).drop (i * 4))).heap := heap_setCells _ _ _ _ _ rfl
  have hg2 := setCells_grown w.heap.size ((l.flatMap cPair).drop (i * 4)) ((i + 1) * 4) ((w.alloc (.cells ROW 41)).drew.setCells w.heap.size (i * 4) (cPair x)).drew
  exact ⟨_, rfl, Kd.R_move HR.out (fun k _ => by rw [hh]), ⟨hg2.os, hg2.tape, hg2.output, by rw [hh]; exact HG.out.size, fun j hj hne => by rw [hh]; exact HG.out.block j hj hne⟩⟩
set_option maxHeartbeats 4000000 in
set_option maxRecDepth 100000 in
/-- slices.Insert of one: within, there is room -/
theorem insert_shift (w : World) (base : Nat) (ok okv : Nat → Prop) (g gv i cap cv : Nat) (l : List Pair) (x : Pair) (cur curv : Array Value) (B : Blk k41 cPair 41 w base ok g l.length cap l cur) (V : Blk k41 cPair 41 w base okv gv 1 cv [x] curv) (hne : gv ≠ g)
    (hi : i < l.length) (hroom : l.length + 1 ≤ cap) :
    Calls Try.prog 37 #[.slice (some ⟨g, 0, none⟩) l.length cap, .int .i64 i, .slice (some ⟨gv, 0, none⟩) 1 cv] w fun e w' => ∃ v', e = .returned v' ∧ Kd.R k41 41 w' base (fun k => ok k ∨ w.heap.size ≤ k) v' (insOf l i x) ∧ w.grownBy w' (some g) := by
  have hsz : (Try.prog.info? 41).map (·.size) = some 4 := by
    obtain ⟨i0, hi0, hzz⟩ := Option.map_eq_some_iff.1 info41
    simp only [Prod.mk.injEq] at hzz
    rw [hi0]; simp [hzz.2.1]
  have hu := Try.underlying41
  have L29 := Try.underlying29
  have L28 := Try.underlying28
  have hmax : cap ≤ 9223372036854775807 := B.max
  have fl : (l.flatMap cPair).length = l.length * 4 := flatPair.flen l
  have fx : (cPair x).length = 4 := rfl
  have hcur : cur.size = cap * 4 := B.size
  have hcs : ∀ j v, (l.flatMap cPair)[j]? = some v → w.cell? ⟨g, j, none⟩ = some v := B.cell
  have hvs : ∀ j v, (cPair x)[j]? = some v → w.cell? ⟨gv, j, none⟩ = some v := fun j v h => V.cell j v (by simpa using h)
  have htk : ((l.flatMap cPair).take (i * 4)).length = i * 4 := by rw [List.length_take, fl]; omega
  have hdl : ((l.flatMap cPair).drop (i * 4)).length = (l.length - i) * 4 := by rw [List.length_drop, fl]; omega
  obtain ⟨cur1, h1a, h1b, h1c⟩ := setCells_heap ((l.flatMap cPair).drop (i * 4)) ((i + 1) * 4) w.drew cur (show w.drew.heap[g]? = _ from B.heap) (by rw [hdl, hcur]; omega)
  obtain ⟨cur2, h2a, h2b, h2c⟩ := setCells_heap (cPair x) (i * 4) _ cur1 h1a (by rw [fx, h1b, hcur]; omega)
  have hg0 : w.grownBy w.drew (some g) := grown_of_below (below_drew (Below.refl _ _)) _
  have hfin := grown_trans hg0 (grown_trans (setCells_grown g ((l.flatMap cPair).drop (i * 4)) ((i + 1) * 4) w.drew) (setCells_grown g (cPair x) (i * 4) _))
  have hct : cur.toList.take (i * 4) = (l.flatMap cPair).take (i * 4) := by
    have h := congrArg (List.take (i * 4)) B.take
    rw [show k41.sz = 4 from rfl, List.take_take, Nat.min_eq_left (by omega)] at h
    exact h
  have hRfin : Kd.R k41 41 ((w.drew.setCells g ((i + 1) * 4) ((l.flatMap cPair).drop (i * 4))).setCells g (i * 4) (cPair x)) base (fun k => ok k ∨ w.heap.size ≤ k) (.slice (some ⟨g, 0, none⟩) (l.length + 1) cap) (insOf l i x) := by
    refine flatPair.row ⟨by simp [insOf]; omega, .inl B.okg, B.bas, h2a, hroom, B.max, by rw [h2b, h1b, hcur]; rfl, ?_⟩
    rw [ins_cells, h2c, h1c, show k41.sz = 4 from rfl, fx]
    have ht : (cur.toList.take ((i + 1) * 4)).length = (i + 1) * 4 := by rw [List.length_take, Array.length_toList, hcur]; omega
    have e0 : (cur.toList.take ((i + 1) * 4) ++ (l.flatMap cPair).drop (i * 4) ++ cur.toList.drop ((i + 1) * 4 + ((l.flatMap cPair).drop (i * 4)).length)).take (i * 4) = (l.flatMap cPair).take (i * 4) := by
      rw [List.append_assoc, List.take_append_of_le_length (by rw [ht]; omega), List.take_take, Nat.min_eq_left (by omega), hct]
    have e1 : (cur.toList.take ((i + 1) * 4) ++ (l.flatMap cPair).drop (i * 4) ++ cur.toList.drop ((i + 1) * 4 + ((l.flatMap cPair).drop (i * 4)).length)).drop (i * 4 + 4) = (l.flatMap cPair).drop (i * 4) ++ cur.toList.drop ((i + 1) * 4 + ((l.flatMap cPair).drop (i * 4)).length) := by
      rw [List.append_assoc, List.drop_append, List.drop_eq_nil_of_le (by rw [ht]; omega), ht, show i * 4 + 4 - (i + 1) * 4 = 0 by omega]; rfl
    rw [e0, e1, ← List.append_assoc, List.take_append_of_le_length (by rw [List.length_append, List.length_append, htk, fx, hdl]; omega), List.take_of_length_le (by rw [List.length_append, List.length_append, htk, fx, hdl]; omega)]
  have hov : ∀ lb cb, (callFunc 44 #[.slice (some ⟨gv, 0, none⟩) 1 cv, .slice (some ⟨g, (i + 1) * 4, none⟩) lb cb]).run Try.prog w = .ok (.value (.bool false)) w := fun lb cb => by
    rw [run_callFunc_extern Try.func44 (by kernel_rfl) (by kernel_rfl) (by kernel_rfl) (e := Extern.SlicesOverlaps.overlaps #[28, 28] #[4]) (by kernel_rfl),
      Lib.run_overlaps_apart w 28 4 41 L28 4 (by intro w; kernel_rfl) ⟨gv, 0, none⟩ ⟨g, (i + 1) * 4, none⟩ 1 cv lb cb hne 41 41 curv.size cur.size (by simp [World.shape?, V.heap]) (by simp [World.shape?, B.heap]) (by rw [hcur]; omega) (blk_frozen V.heap _) (blk_frozen V.heap _)]
    rfl
  have hcp1 : ∀ ty dc sc, (Builtin.copy_ #[29, 29] ty #[.slice (some ⟨g, (i + 1) * 4, none⟩) (l.length + 1 - (i + 1)) dc, .slice (some ⟨g, i * 4, none⟩) (l.length + 1 - i) sc]).run Try.prog w.drew = .ok (goInt (l.length - i : Nat)) (w.drew.setCells g ((i + 1) * 4) ((l.flatMap cPair).drop (i * 4))) := fun ty dc sc =>
    run_copy_sz w.drew _ _ ty 41 g ((i + 1) * 4) (l.length + 1 - (i + 1)) dc ⟨g, i * 4, none⟩ (l.length + 1 - i) sc 4 (l.length - i) _ L29 hsz (by simp only [Nat.min_def]; split <;> omega) hdl
      (fun j v hj => by rw [Addr.add_lit]; exact hcs _ v (by rwa [List.getElem?_drop] at hj))
      (fun j hj => by rw [show w.drew.cell? ⟨g, (i + 1) * 4 + j, none⟩ = w.cell? ⟨g, (i + 1) * 4 + j, none⟩ from rfl, blk_cell B.heap, Array.getElem?_eq_getElem (by rw [hcur]; rw [hdl] at hj; omega)]; rfl) (fun j hj => by exact blk_frozen (w := w.drew) B.heap _) (fun v hv => flatPair.fone l v (List.mem_of_mem_drop hv))
  have hvb : gv < w.heap.size := blk_lt V.heap
  have hcp2 : ∀ (W : World), (∀ y, W.cell? y = (w.drew.setCells g ((i + 1) * 4) ((l.flatMap cPair).drop (i * 4))).cell? y) → (∀ y, W.frozen? y = (w.drew.setCells g ((i + 1) * 4) ((l.flatMap cPair).drop (i * 4))).frozen? y) → ∀ ty dc, (Builtin.copy_ #[29, 28] ty #[.slice (some ⟨g, i * 4, none⟩) (l.length + 1 - i) dc, .slice (some ⟨gv, 0, none⟩) 1 cv]).run Try.prog W = .ok (goInt (1 : Nat)) (W.setCells g (i * 4) (cPair x)) := fun W hWc hWf ty dc =>
    run_copy_sz W _ _ ty 41 g (i * 4) (l.length + 1 - i) dc ⟨gv, 0, none⟩ 1 cv 4 1 (cPair x) L29 hsz (by simp only [Nat.min_def]; split <;> omega) rfl
      (fun j v hj => by rw [add_plain, hWc, World.cell?_setCells_out _ _ _ _ _ (fun h _ => absurd h hne)]; exact hvs j v hj)
      (fun j hj => by rw [hWc, blk_cell h1a, Array.getElem?_eq_getElem (by rw [h1b, hcur]; rw [fx] at hj; omega)]; rfl) (fun j hj => by rw [hWf]; exact blk_frozen h1a _) (flatPair.one x)
  have hc2 := hcp2 _ (fun _ => rfl) (fun _ => rfl)
  have HR := Aside0.mk hRfin
  have HG := Aside0.mk hfin
  have hz2 : ¬ ((i : Int) = (l.length : Int)) := by omega
  have hz3 : ¬ (cap : Int) < (l.length : Int) + 1 := by omega
  have hci : ¬ (cap = i) := by omega
  have hci1 : ¬ (cap = i + 1) := by omega
  have hw1 : IntKind.i64.wrap ((i : Int) + 1) = (i : Int) + 1 := by rw [IntKind.wrap_i64]; omega
  have hb1 : (0 : Int) ≤ (i : Int) + 1 := by omega
  have hin : i ≤ l.length := by omega
  have htn : ((i : Int) + 1).toNat = i + 1 := by omega
  have hb3 : (i : Int) ≤ (l.length : Int) + 1 := by omega
  have hb4 : (i : Int) ≤ (l.length : Int) := by omega
  clear h1a h1b h1c h2a h2b h2c hg0 hfin hRfin hct hcs hvs htk hdl fl fx B V hcur hcp2
  go_enter Try.func37, Try.ntmps37
  go_wp2_with (simp only [hov])
  go_region_law (refine step_copy_run rfl _ _ 29 29 rfl (.slice (some ⟨g, (i + 1) * 4, none⟩) (l.length + 1 - (i + 1)) (cap - (i + 1))) (.slice (some ⟨g, i * 4, none⟩) (l.length + 1 - i) (cap - i)) (by simp [Act.eval, Act.put]) (by simp [Act.eval, Act.put]) (hcp1 3 (cap - (i + 1)) (cap - i)) ?_)
  go_wp2_with (at_builtin; refine wpList_copy_run _ rfl _ _ 29 28 rfl _ _ rfl rfl (hc2 _ _) ?_)
  go_ret
  exact ⟨_, rfl, HR.out, HG.out⟩
set_option maxHeartbeats 4000000 in
set_option maxRecDepth 100000 in
/-- slices.Insert of one: at the end -/
theorem insert_end (w : World) (base : Nat) (ok okv : Nat → Prop) (u : Value) (gv cv : Nat) (l : List Pair) (x : Pair) (curv : Array Value) (HO : Kd.R k41 41 w base ok u l) (V : Blk k41 cPair 41 w base okv gv 1 cv [x] curv)
    (hbig : (l.length + 1) * 48 ≤ 140737488355328) (hbase : base ≤ w.heap.size) :
    Calls Try.prog 37 #[u, .int .i64 l.length, .slice (some ⟨gv, 0, none⟩) 1 cv] w fun e w' => ∃ v', e = .returned v' ∧ Kd.R k41 41 w' base (fun k => ok k ∨ w.heap.size ≤ k) v' (insOf l l.length x) ∧ w.grownBy w' u.ownBlock := by
  have hC := (Kd.R_reads' (flatPair.row V)).2.2
  obtain ⟨v1, w1, hrun, hR, hg⟩ := flatPair.append (P := Try.prog) (ty := 29) (cc := cv) Try.underlying29 Try.underlying28 info41 rfl (by decide) HO hC hbase hbig
  have e1 : insOf l l.length x = l ++ [x] := by simp [insOf]
  rw [← e1] at hR
  have HR := Aside0.mk hR
  have HG := Aside0.mk hg
  obtain ⟨A, c, rfl, hlc, hCC⟩ := Kd.R_reads HO
  have hl : l.length ≤ 9223372036854775807 := hCC.2.1
  clear hR hg HO V hC hCC e1
  go_enter Try.func37, Try.ntmps37
  cases A with
  | none =>
    go_wp2_with (at_builtin; go_must (refine Lib.wpList_append_run _ rfl _ _ _ _ rfl _ _ rfl rfl _ _ hrun ?_))
    go_ret
    exact ⟨_, rfl, HR.out, HG.out⟩
  | some a =>
    go_wp2_with (at_builtin; go_must (refine Lib.wpList_append_run _ rfl _ _ _ _ rfl _ _ rfl rfl _ _ hrun ?_))
    all_goals
      go_ret
      exact ⟨_, rfl, HR.out, HG.out⟩
def subst_Pair_37.f (l : List Pair) (i : Int) (v : List Pair) : Option (List Pair) := match v with
  | [x] => if 0 ≤ i ∧ i ≤ (l.length : Int) ∧ (l.length + 1) * 48 ≤ 140737488355328 then some (insOf l i.toNat x) else none
  | _ => none
theorem subst_Pair_37.calls (P0_ : Nat → Prop) (u9000_ : Value) (l0 : List Pair) (a1 : Int) (P2_ : Nat → Prop) (u9001_ : Value) (l2 r : List Pair) (w0 w : World) (hB : Below w0.heap.size w0 w)
    (ho0 : Kd.R k41 41 w w0.heap.size P0_ u9000_ l0) (hp0_2 : ∀ k_, P0_ k_ → ¬ P2_ k_) (ho2 : Kd.R k41 41 w w0.heap.size P2_ u9001_ l2) (hp2_0 : ∀ k_, P2_ k_ → ¬ P0_ k_) (h : subst_Pair_37.f l0 a1 l2 = some r) :
    Calls Try.prog 37 #[u9000_, .int .i64 a1, u9001_] w fun e w' => ∃ v0_ : Value, e = .returned v0_ ∧ Kd.R k41 41 w' w0.heap.size (fun k_ => ((P0_ k_ ∨ P2_ k_) ∨ w.heap.size ≤ k_)) v0_ r ∧ Below w0.heap.size w0 w' ∧ Kept w w' (fun k_ => (P0_ k_ ∨ P2_ k_)) := by
  unfold subst_Pair_37.f at h
  split at h
  case h_2 => cases h
  rename_i x
  split at h
  case isFalse => cases h
  rename_i hc
  obtain ⟨h1, h2, h3⟩ := hc
  cases h
  obtain ⟨i, rfl⟩ := Int.eq_ofNat_of_zero_le h1
  rw [Int.toNat_natCast]
  obtain ⟨gv, cv, curv, rfl, V⟩ := flatPair.some ho2 (by simp)
  have fin : ∀ {e : Ending} {w' : World}, (∃ v', e = .returned v' ∧ Kd.R k41 41 w' w0.heap.size (fun k => P0_ k ∨ w.heap.size ≤ k) v' (insOf l0 i x) ∧ w.grownBy w' u9000_.ownBlock) →
      ∃ v0_ : Value, e = .returned v0_ ∧ Kd.R k41 41 w' w0.heap.size (fun k_ => ((P0_ k_ ∨ P2_ k_) ∨ w.heap.size ≤ k_)) v0_ (insOf l0 i x) ∧ Below w0.heap.size w0 w' ∧ Kept w w' (fun k_ => (P0_ k_ ∨ P2_ k_)) := by
    rintro e w' ⟨v, rfl, hR, hg⟩
    exact ⟨v, rfl, Kd.R_mono hR (fun k hk => hk.imp_left .inl), pw_below_grown hB _ hB.size hg (fun k hk => Kd.R_base ho0 k hk), ⟨hg.size, fun i hi hn => hg.block i hi (fun e => hn (.inl (ho0.1 i e.symm)))⟩⟩
  rcases Nat.lt_or_ge i l0.length with hi | hi
  · obtain ⟨g, cap, cur, rfl, B⟩ := flatPair.some ho0 (by omega)
    rcases Nat.lt_or_ge cap (l0.length + 1) with hr | hr
    · exact (insert_grow w w0.heap.size P0_ P2_ g gv i cap cv l0 x cur curv B V hi hr h3 hB.size).mono fun e w' h => fin h
    · exact (insert_shift w w0.heap.size P0_ P2_ g gv i cap cv l0 x cur curv B V (fun e => hp0_2 g B.okg (e ▸ V.okg)) hi hr).mono fun e w' h => fin h
  · obtain rfl : i = l0.length := by omega
    exact (insert_end w w0.heap.size P0_ P2_ u9000_ gv cv l0 x curv ho0 V h3 hB.size).mono fun e w' h => fin h
end Go.Proofs.Ytdanihbbnepjpaa.H
namespace Go.Proofs.Ytdanihbbnepjpaa.H
open Go.RowKit Go.Proofs.YtdanihbbnepjpaaW.PrintWords Go.Proofs.YtdanihbbnepjpaaW.PrintLast Go.Proofs.YtdanihbbnepjpaaW.PrintMore
attribute [local go_sem] max2_int min2_int max_two min_two max_three min_three max_four min_four
set_option linter.unusedVariables false
set_option linter.unusedSimpArgs false
def subst_Env_With.f (l0 : List (Pair)) (a1 : ByteArray) (a2_0 : Bool) (a2_1 : ByteArray) (a2_2 : Int) : Option ((List (Pair))) := (subst_Pair_34.f l0).bind fun t103 => ((GWithDel.f t103 a1).bind fun t106 => ((GWithIdx.f t106 a1).bind fun t109 => (if t109 < 0 then ((subst_bare.f a2_0 a2_1 a2_2).bind fun bt110 => ((subst_Pair_37.f t106 (t106.length : Int) (([(⟨a1, (⟨bt110.1, bt110.2.1, bt110.2.2⟩ : Val)⟩ : Pair)] : List (Pair)))).bind fun t116 => (some t116))) else ((subst_bare.f a2_0 a2_1 a2_2).bind fun bt119 => ((subst_Pair_37.f t106 t109 (([(⟨a1, (⟨bt119.1, bt119.2.1, bt119.2.2⟩ : Val)⟩ : Pair)] : List (Pair)))).bind fun t125 => (some t125))))))
def subst_Env_With.T5 : Bool × List (List Nat × List Nat) := (true, [([], []), ([], []), ([], []), ([], []), ([3], [3]), ([2, 4], [2, 4]), ([5], [5]), ([0, 1, 6, 4], [0, 1, 6]), ([7, 7, 0, 1, 2, 3, 4, 5, 6, 7], [7])])
def subst_Env_With.B5 : List Nat := [0, 0, 0, 0, 8, 28, 60, 127, 255]
theorem subst_Env_With.tab5 : rtab .any (opsOf Try.f18 5) = subst_Env_With.T5 := by kernel_rfl
theorem subst_Env_With.bits5 : waitsOk subst_Env_With.T5.2 subst_Env_With.B5 = true := by kernel_rfl
set_option maxHeartbeats 8000000 in
set_option maxRecDepth 100000 in
theorem subst_Env_With.calls (A0 : Option Addr) (c0 : Nat) (l0 : List (Pair)) (a1 : ByteArray) (a2_0 : Bool) (a2_1 : ByteArray) (a2_2 : Int) (r : List (Pair)) (w : World) (hr0 : Kd.C k41 w A0 l0.length l0) (hc0 : l0.length ≤ c0) (h : subst_Env_With.f l0 a1 a2_0 a2_1 a2_2 = some r) :
  Calls Try.prog 18 #[.slice A0 l0.length c0, .string a1, .agg #[.bool a2_0, .string a2_1, .int .i64 a2_2]] w fun e w' => ∃ v0_ : Value, e = .returned (v0_) ∧ Kd.R k41 41 w' w.heap.size (fun _ => True) v0_ r ∧ Below w.heap.size w w' := by
 have hu24 := Try.underlying24
 have hu41 := Try.underlying41
 have HR0 := am hr0
 have HC0 := am hc0
 clear hr0 hc0
 have HB := am (Below.refl w.heap.size w)
 have H : ((subst_Pair_34.f l0).bind fun t103 => ((GWithDel.f t103 a1).bind fun t106 => ((GWithIdx.f t106 a1).bind fun t109 => (if t109 < 0 then ((subst_bare.f a2_0 a2_1 a2_2).bind fun bt110 => ((subst_Pair_37.f t106 (t106.length : Int) (([(⟨a1, (⟨bt110.1, bt110.2.1, bt110.2.2⟩ : Val)⟩ : Pair)] : List (Pair)))).bind fun t116 => (some t116))) else ((subst_bare.f a2_0 a2_1 a2_2).bind fun bt119 => ((subst_Pair_37.f t106 t109 (([(⟨a1, (⟨bt119.1, bt119.2.1, bt119.2.2⟩ : Val)⟩ : Pair)] : List (Pair)))).bind fun t125 => (some t125))))))) = some r := h
 clear h
 replace H := Option.bind_eq_some_iff.mp H
 obtain ⟨t103, A40, H⟩ := H
 replace H : ((GWithDel.f t103 a1).bind fun t106 => ((GWithIdx.f t106 a1).bind fun t109 => (if t109 < 0 then ((subst_bare.f a2_0 a2_1 a2_2).bind fun bt110 => ((subst_Pair_37.f t106 (t106.length : Int) (([(⟨a1, (⟨bt110.1, bt110.2.1, bt110.2.2⟩ : Val)⟩ : Pair)] : List (Pair)))).bind fun t116 => (some t116))) else ((subst_bare.f a2_0 a2_1 a2_2).bind fun bt119 => ((subst_Pair_37.f t106 t109 (([(⟨a1, (⟨bt119.1, bt119.2.1, bt119.2.2⟩ : Val)⟩ : Pair)] : List (Pair)))).bind fun t125 => (some t125)))))) = some r := H
 have A4 := am A40
 clear A40
 replace H := Option.bind_eq_some_iff.mp H
 obtain ⟨t106, A50, H⟩ := H
 replace H : ((GWithIdx.f t106 a1).bind fun t109 => (if t109 < 0 then ((subst_bare.f a2_0 a2_1 a2_2).bind fun bt110 => ((subst_Pair_37.f t106 (t106.length : Int) (([(⟨a1, (⟨bt110.1, bt110.2.1, bt110.2.2⟩ : Val)⟩ : Pair)] : List (Pair)))).bind fun t116 => (some t116))) else ((subst_bare.f a2_0 a2_1 a2_2).bind fun bt119 => ((subst_Pair_37.f t106 t109 (([(⟨a1, (⟨bt119.1, bt119.2.1, bt119.2.2⟩ : Val)⟩ : Pair)] : List (Pair)))).bind fun t125 => (some t125))))) = some r := H
 have A5 := am A50
 clear A50
 replace H := Option.bind_eq_some_iff.mp H
 obtain ⟨t109, A60, H⟩ := H
 replace H : (if t109 < 0 then ((subst_bare.f a2_0 a2_1 a2_2).bind fun bt110 => ((subst_Pair_37.f t106 (t106.length : Int) (([(⟨a1, (⟨bt110.1, bt110.2.1, bt110.2.2⟩ : Val)⟩ : Pair)] : List (Pair)))).bind fun t116 => (some t116))) else ((subst_bare.f a2_0 a2_1 a2_2).bind fun bt119 => ((subst_Pair_37.f t106 t109 (([(⟨a1, (⟨bt119.1, bt119.2.1, bt119.2.2⟩ : Val)⟩ : Pair)] : List (Pair)))).bind fun t125 => (some t125)))) = some r := H
 have A6 := am A60
 clear A60
 by_cases c7 : t109 < 0
 ·rw [if_pos c7] at H
  have c7b0 : decide (t109 < 0) = true := decide_eq_true c7
  clear c7
  replace H := Option.bind_eq_some_iff.mp H
  obtain ⟨⟨t110, t111, t112⟩, A80, H⟩ := H
  replace H : ((subst_Pair_37.f t106 (t106.length : Int) (([(⟨a1, (⟨t110, t111, t112⟩ : Val)⟩ : Pair)] : List (Pair)))).bind fun t116 => (some t116)) = some r := H
  have A8 := am A80
  clear A80
  obtain ⟨y113, hy113⟩ : ∃ y_ : List (Pair), y_ = (([(⟨a1, (⟨t110, t111, t112⟩ : Val)⟩ : Pair)] : List (Pair))) := ⟨_, rfl⟩
  replace H : ((subst_Pair_37.f t106 (t106.length : Int) y113).bind fun t116 => (some t116)) = some r := by first | (rw [hy113]; with_reducible exact H) | (have H2_ := (Option.bind_some _ _).symm.trans H; rw [hy113]; with_reducible exact H2_) | (have H2_ := (Option.bind_some _ _).symm.trans H; with_reducible exact H2_) | with_reducible exact H | (rw [hy113]; exact H) | exact H
  have Ny113 := am hy113
  clear hy113
  replace H := Option.bind_eq_some_iff.mp H
  obtain ⟨t116, A90, H⟩ := H
  replace H : (some t116) = some r := H
  have A9 := am A90
  clear A90
  obtain rfl := Option.some.inj H
  go_enter Try.func18, Try.ntmps18
  try go_wp2_with (first | ((with_reducible refine gate_dst (N := 4) rfl ?_); refine box_event ?hg (N := 4) ?hd (cs := #[.string a1]) (t := 9) ?hr ?_; (case hd => rfl); (case hg => rfl); (case hr => first | (go_simp; done) | (go_simp; rfl)); intro gb101 hg w10 hbox hb; have BK101 := am (hbox); have GW101 := am ((by rw [hg]; exact (below_size (by repeat (first | (with_reducible first | exact HB.out | apply lA | apply lN | apply lD) | exact HB.out))) : w.heap.size ≤ gb101)); have GE101 := am ((by rw [hg]; exact (below_size (by repeat (first | (with_reducible first | exact HB.out | apply lA | apply lN | apply lD) | exact HB.out))) : w.heap.size ≤ gb101)); replace HB := am (below_step (by repeat (first | (with_reducible first | exact HB.out | apply lA | apply lN | apply lD) | exact HB.out)) hb); clear hb hbox hg) | ((with_reducible refine gate_dst (N := 5) rfl ?_); refine box_event ?hg (N := 5) ?hd (cs := #[.bool a2_0, .string a2_1, .int .i64 a2_2]) (t := 24) ?hr ?_; (case hd => rfl); (case hg => rfl); (case hr => first | (go_simp; done) | (go_simp; rfl)); intro gb102 hg w11 hbox hb; have BK102 := am (hbox); have GW102 := am ((by rw [hg]; exact (below_size (by repeat (first | (with_reducible first | exact HB.out | apply lA | apply lN | apply lD | refine lS ?_ GE101.out) | exact HB.out))) : w.heap.size ≤ gb102)); have GE102 := am ((by rw [hg]; exact (below_size (by repeat (first | (with_reducible first | exact HB.out | apply lA | apply lN | apply lD | refine lS ?_ GE101.out) | exact HB.out))) : w.heap.size ≤ gb102)); replace HB := am (below_step (by repeat (first | (with_reducible first | exact HB.out | apply lA | apply lN | apply lD | refine lS ?_ GE101.out) | exact HB.out)) hb); have NB101_102 := am ((by rw [hg]; exact Nat.ne_of_lt (blk_lt (g := gb101) (o := .cells #[.string a1] 9 (0, 0)) (by (with_reducible repeat (first | refine bN ?_ _ | refine bD ?_ | refine bA ?_ _)); exact BK101.out)) : gb101 ≠ gb102)); have NB102_101 := am ((by rw [hg]; exact Nat.ne_of_gt (blk_lt (g := gb101) (o := .cells #[.string a1] 9 (0, 0)) (by (with_reducible repeat (first | refine bN ?_ _ | refine bD ?_ | refine bA ?_ _)); exact BK101.out)) : gb102 ≠ gb101)); replace BK101 := am (blk_below (g := gb101) (o := .cells #[.string a1] 9 (0, 0)) (by (with_reducible repeat (first | refine bN ?_ _ | refine bD ?_ | refine bA ?_ _)); exact BK101.out) hb); clear hb hbox hg) | ((with_reducible refine gate_callee (f := 34) rfl ?_); refine goesL_ (some 10) rfl rfl Try.func34 (by kernel_rfl) rfl #[.slice A0 l0.length c0] rfl (by (try simp only [List.map_toArray, List.map_cons, List.map_nil]); first | done | rfl | (simp only [List.length_drop, List.length_take]; rfl)) ?_; (with_reducible refine (subst_Pair_34.calls _ _ l0 t103 _ ?side1 ?side2 A4.out).mono ?_); (case side1 => repeat (first | exact (Kd.C_below HR0.out HB.out) | (with_reducible refine Kd.C_alloc ?_ _) | (with_reducible refine Kd.C_drewN ?_ _) | (with_reducible refine Kd.C_drew ?_))); (case side2 => exact HC0.out); rintro e w12 ⟨v104, rfl, ho0, hb⟩; refine ⟨_, rfl, ?_⟩; have HO105 := am (Kd.R_lower ho0 (below_size (by repeat (first | (with_reducible first | exact HB.out | apply lA | apply lN | apply lD | refine lS ?_ GE101.out | refine lS ?_ GE102.out) | exact HB.out)))); replace BK101 := am (blk_below (g := gb101) (o := .cells #[.string a1] 9 (0, 0)) (by (with_reducible repeat (first | refine bN ?_ _ | refine bD ?_ | refine bA ?_ _)); exact BK101.out) hb); replace BK102 := am (blk_below (g := gb102) (o := .cells #[.bool a2_0, .string a2_1, .int .i64 a2_2] 24 (0, 0)) (by (with_reducible repeat (first | refine bN ?_ _ | refine bD ?_ | refine bA ?_ _)); exact BK102.out) hb); replace HB := am (below_step (by repeat (first | (with_reducible first | exact HB.out | apply lA | apply lN | apply lD | refine lS ?_ GE101.out | refine lS ?_ GE102.out) | exact HB.out)) hb); (try clear hb); (try clear hb2); (try clear hk); (try clear hi); (try clear ho0); obtain ⟨Ao13, co13, eo13⟩ := Kd.R_slice HO105.out; subst eo13) | ((with_reducible refine gate_callee (f := 33) rfl ?_); refine goesL_ (some 12) rfl rfl Try.func33 (by kernel_rfl) rfl #[.slice Ao13 t103.length co13, .func (.func 35) #[] #[.pointer (some ⟨gb101, 0, none⟩)]] rfl (by (try simp only [List.map_toArray, List.map_cons, List.map_nil]); first | done | rfl | (simp only [List.length_drop, List.length_take]; rfl)) ?_; (refine (GWithDel.calls (fun k_ => some k_ = (.slice Ao13 t103.length co13 : Value).ownBlock) (.slice Ao13 t103.length co13) t103 a1 t106 w _ ?side1 ?side2 ?side3 A5.out).mono ?_); (case side1 => repeat (first | (with_reducible first | exact HB.out | apply lA | apply lN | apply lD | refine lS ?_ GE101.out | refine lS ?_ GE102.out) | exact HB.out)); (case side2 => exact Kd.R_tight rfl HO105.out); (case side3 => (with_reducible repeat (first | refine bN ?_ _ | refine bD ?_ | refine bA ?_ _)); exact BK101.out); rintro e w14 ⟨v107, rfl, ho0, hb, hkp⟩; refine ⟨_, rfl, ?_⟩; replace BK101 := am (blk_kept (by (with_reducible repeat (first | refine bN ?_ _ | refine bD ?_ | refine bA ?_ _)); exact BK101.out) hkp (fun hs_ => (fun e_ => (Kd.R_ne HO105.out BK101.out (by decide)) e_) hs_)); replace BK102 := am (blk_kept (by (with_reducible repeat (first | refine bN ?_ _ | refine bD ?_ | refine bA ?_ _)); exact BK102.out) hkp (fun hs_ => (fun e_ => (Kd.R_ne HO105.out BK102.out (by decide)) e_) hs_)); have HO108 := am (Kd.R_mono (ok' := fun k_ => True) ho0 (fun k_ hk_ => trivial)); replace HB := am (hb); clear HO105; (try clear hb); (try clear hkp); (try clear ho0); obtain ⟨Ao15, co15, eo15⟩ := Kd.R_slice HO108.out; subst eo15) | ((with_reducible refine gate_callee (f := 31) rfl ?_); refine goesL_ (some 15) rfl rfl Try.func31 (by kernel_rfl) rfl #[.slice Ao15 t106.length co15, .func (.func 36) #[] #[.pointer (some ⟨gb101, 0, none⟩)]] rfl (by (try simp only [List.map_toArray, List.map_cons, List.map_nil]); first | done | rfl | (simp only [List.length_drop, List.length_take]; rfl)) ?_; (refine (GWithIdx.calls _ _ t106 a1 t109 _ ?side1 ?side2 ?side3 A6.out).mono ?_); (case side1 => repeat (first | exact (Kd.R_reads' HO108.out).2.2 | (with_reducible refine Kd.C_alloc ?_ _) | (with_reducible refine Kd.C_drewN ?_ _) | (with_reducible refine Kd.C_drew ?_))); (case side2 => exact (Kd.R_reads' HO108.out).2.1); (case side3 => (with_reducible repeat (first | refine bN ?_ _ | refine bD ?_ | refine bA ?_ _)); exact BK101.out); rintro e w16 ⟨rfl, hb⟩; refine ⟨_, rfl, ?_⟩; replace HO108 := am (Kd.R_below (by (with_reducible repeat (first | apply Ra | apply Rn | apply Rd)); exact HO108.out) hb); replace BK101 := am (blk_below (g := gb101) (o := .cells #[.string a1] 9 (0, 0)) (by (with_reducible repeat (first | refine bN ?_ _ | refine bD ?_ | refine bA ?_ _)); exact BK101.out) hb); replace BK102 := am (blk_below (g := gb102) (o := .cells #[.bool a2_0, .string a2_1, .int .i64 a2_2] 24 (0, 0)) (by (with_reducible repeat (first | refine bN ?_ _ | refine bD ?_ | refine bA ?_ _)); exact BK102.out) hb); replace HB := am (below_step (by repeat (first | (with_reducible first | exact HB.out | apply lA | apply lN | apply lD | refine lS ?_ GE101.out | refine lS ?_ GE102.out) | exact HB.out)) hb); (try clear hb); (try clear hb2); (try clear hk); (try clear hi)))
  replace HO108 := am (Kd.R_drew HO108.out)
  replace BK101 := am (blk_drew BK101.out)
  replace BK102 := am (blk_drew BK102.out)
  replace HB := am (below_drew1 HB.out)
  refine start_ (n := 9) (S := fun w' => w'.cell? ⟨gb101, 0, none⟩ = some (.string a1) ∧ w'.cell? ⟨gb102, 0, none⟩ = some (.bool a2_0) ∧ w'.cell? ⟨gb102, 1, none⟩ = some (.string a2_1) ∧ w'.cell? ⟨gb102, 2, none⟩ = some (.int .i64 a2_2)) (ds := []) (bl 9 0) (by kernel_rfl) rfl rfl ⟨(blk_cell BK101.out 0).trans rfl, (blk_cell BK102.out 0).trans rfl, (blk_cell BK102.out 1).trans rfl, (blk_cell BK102.out 2).trans rfl⟩ (fun hHeld => ?_); refine with_tabW subst_Env_With.tab5 subst_Env_With.bits5 (fun HT_ HW_ => ?_)
  generalize w16.drew = w17 at HO108 BK101 BK102 HB hHeld ⊢
  refine pure_ (i := 0) (N := some 20) (v := ?_) (a' := ?_) (bl 9 1) rfl rfl (any_of HT_.out (by kernel_rfl)) (fun _ _ _ h => h) (Or.inl ⟨by rfl, ?_⟩) ?_ ?_
  rotate_left
  ·intro w'
   go_simp
   with_reducible rfl
  rotate_left
  ·simp only [Act.put, sA, sZ, sS, i64_w, i32_w]
   rfl
  refine pure_ (i := 1) (N := some 21) (v := ?_) (a' := ?_) (bl 9 3) rfl rfl (any_of HT_.out (by kernel_rfl)) (fun _ _ _ h => h) (Or.inl ⟨by rfl, ?_⟩) ?_ ?_
  rotate_left
  ·intro w'
   go_simp
   with_reducible rfl
  rotate_left
  ·simp only [Act.put, sA, sZ, sS, i64_w, i32_w]
   rfl
  refine take_ (i := 2) (N := some 22) (v := ?_) (a' := ?_) (bl 9 7) rfl rfl (take_ofW HT_.out HW_.out (by kernel_rfl)) (fun _ _ _ h => h) (Or.inl ⟨by rfl, ?_⟩) hHeld ?_ ?_
  rotate_left
  ·rintro w' ⟨s0, s1, s2, s3⟩
   go_simp
   with_reducible rfl
  rotate_left
  ·simp only [Act.put, sA, sZ, sS, i64_w, i32_w]
   rfl
  refine take_ (i := 3) (N := some 23) (v := ?_) (a' := ?_) (bl 9 15) rfl rfl (take_ofW HT_.out HW_.out (by kernel_rfl)) (fun _ _ _ h => h) (Or.inl ⟨by rfl, ?_⟩) hHeld ?_ ?_
  rotate_left
  ·rintro w' ⟨s0, s1, s2, s3⟩
   go_simp
   with_reducible rfl
  rotate_left
  ·simp only [Act.put, sA, sZ, sS, i64_w, i32_w]
   rfl
  refine one_ (i := 4) (N := some 24) (bl 9 31) rfl rfl (one_of HT_.out (by kernel_rfl)) (by decide) (fun K hK => ?_)
  refine goes_ Try.func38 (by kernel_rfl) rfl #[.agg #[.bool a2_0, .string a2_1, .int .i64 a2_2]] (by rfl) rfl rfl (by (try simp only [List.map_toArray, List.map_cons, List.map_nil]); first | done | rfl | (simp only [List.length_drop, List.length_take]; rfl)) ?_
  with_reducible refine (subst_bare.calls a2_0 a2_1 a2_2 t110 t111 t112 _ A8.out).mono ?_
  rintro e w18 ⟨rfl, hb⟩
  refine ⟨_, rfl, ?_⟩
  replace HO108 := am (Kd.R_below (by (with_reducible repeat (first | apply Ra | apply Rn | apply Rd)); exact HO108.out) hb)
  replace BK101 := am (blk_below (g := gb101) (o := .cells #[.string a1] 9 (0, 0)) (by (with_reducible repeat (first | refine bN ?_ _ | refine bD ?_ | refine bA ?_ _)); exact BK101.out) hb)
  replace BK102 := am (blk_below (g := gb102) (o := .cells #[.bool a2_0, .string a2_1, .int .i64 a2_2] 24 (0, 0)) (by (with_reducible repeat (first | refine bN ?_ _ | refine bD ?_ | refine bA ?_ _)); exact BK102.out) hb)
  replace HB := am (below_step (by repeat (first | (with_reducible first | exact HB.out | apply lA | apply lN | apply lD | refine lS ?_ GE101.out | refine lS ?_ GE102.out) | exact HB.out)) hb)
  (try clear hb)
  (try clear hb2)
  (try clear hk)
  (try clear hi)
  refine hK.out _ _ ⟨(blk_cell BK101.out 0).trans rfl, (blk_cell BK102.out 0).trans rfl, (blk_cell BK102.out 1).trans rfl, (blk_cell BK102.out 2).trans rfl⟩ (fun hHeld => ?_)
  clear hK K
  refine norm_ (a' := ?_) ?_ ?_
  rotate_left
  ·show Act.put _ (some 24) _ = _
   simp only [Act.put, sA, sZ, sS, i64_w, i32_w]
   rfl
  refine pure_ (i := 5) (N := some 25) (v := ?_) (a' := ?_) (bl 9 63) rfl rfl (any_of HT_.out (by kernel_rfl)) (fun _ _ _ h => h) (Or.inl ⟨by rfl, ?_⟩) ?_ ?_
  rotate_left
  ·intro w'
   go_simp
   with_reducible rfl
  rotate_left
  ·simp only [Act.put, sA, sZ, sS, i64_w, i32_w]
   rfl
  refine one_ (i := 6) (N := some 26) (bl 9 127) rfl rfl (one_of HT_.out (by kernel_rfl)) (by decide) (fun K hK => ?_)
  refine Kd.R_lit_step k41 _ 41 ?hg (N := 26) ?hd (xs := ([(⟨a1, (⟨t110, t111, t112⟩ : Val)⟩ : Pair)] : List (Pair))) (inner := [.string a1, .bool t110, .string t111, .int .i64 t112]) (ok := fun _ => True) (okp := fun _ => True) ?hr ?hp (fun _ hk => hk) trivial (Below.refl _ _) (Nat.le_refl _) (by simp) ?_; (case hd => rfl); (case hg => rfl); (case hr => first | (go_simp; done) | (go_simp; rfl)); (case hp => exact (Reps.c4 (show Kd.M k41 _ _ _ (⟨a1, (⟨t110, t111, t112⟩ : Val)⟩ : Pair) [.string a1, .bool t110, .string t111, .int .i64 t112] from (k41_mkM _ _ _ (⟨a1, (⟨t110, t111, t112⟩ : Val)⟩ : Pair) )) (Reps.none _ _)))
  intro v114 w19 ho20 hb hg_ hnew_
  clear hg_ hnew_
  (first | rw [← Ny113.out] at ho20 | (simp only [Int.reduceToNat] at ho20; rw [← Ny113.out] at ho20))
  have HO115 := am (Kd.R_lower (Kd.R_new' ho20 (Kd.R_lt (by (with_reducible repeat (first | apply Ra | apply Rn | apply Rd)); exact HO108.out))) (below_size (by repeat (first | (with_reducible first | exact HB.out | apply lA | apply lN | apply lD | refine lS ?_ GE101.out | refine lS ?_ GE102.out) | exact HB.out))))
  replace HO108 := am (Kd.R_elder' (by (with_reducible repeat (first | apply Ra | apply Rn | apply Rd)); exact HO108.out) (Kd.R_base ho20) hb)
  replace BK101 := am (blk_below (g := gb101) (o := .cells #[.string a1] 9 (0, 0)) (by (with_reducible repeat (first | refine bN ?_ _ | refine bD ?_ | refine bA ?_ _)); exact BK101.out) hb)
  replace BK102 := am (blk_below (g := gb102) (o := .cells #[.bool a2_0, .string a2_1, .int .i64 a2_2] 24 (0, 0)) (by (with_reducible repeat (first | refine bN ?_ _ | refine bD ?_ | refine bA ?_ _)); exact BK102.out) hb)
  replace HB := am (below_step (by repeat (first | (with_reducible first | exact HB.out | apply lA | apply lN | apply lD | refine lS ?_ GE101.out | refine lS ?_ GE102.out) | exact HB.out)) hb)
  clear hb ho20
  obtain ⟨Ao21, co21, eo21⟩ := Kd.R_slice HO115.out
  (first | subst eo21 | (injection eo21 with f1_ f2_ f3_; have f4_ := f1_.symm; have f5_ := f3_.symm; clear f1_ f2_ f3_; subst f4_; subst f5_))
  refine hK.out _ _ ⟨(blk_cell BK101.out 0).trans rfl, (blk_cell BK102.out 0).trans rfl, (blk_cell BK102.out 1).trans rfl, (blk_cell BK102.out 2).trans rfl⟩ (fun hHeld => ?_)
  clear hK K
  refine norm_ (a' := ?_) ?_ ?_
  rotate_left
  ·show Act.put _ (some 26) _ = _
   simp only [Act.put, sA, sZ, sS, i64_w, i32_w]
   rfl
  refine one_ (i := 7) (N := some 27) (bl 9 255) rfl rfl (one_of HT_.out (by kernel_rfl)) (by decide) (fun K hK => ?_)
  refine goes_ Try.func37 (by kernel_rfl) rfl #[.slice Ao15 t106.length co15, .int .i64 (t106.length : Int), .slice Ao21 y113.length co21] (by rfl) rfl rfl (by (try simp only [List.map_toArray, List.map_cons, List.map_nil]); first | done | rfl | (simp only [List.length_drop, List.length_take]; rfl)) ?_
  with_reducible refine (subst_Pair_37.calls (fun k_ => some k_ = (.slice Ao15 t106.length co15 : Value).ownBlock) (.slice Ao15 t106.length co15) t106 (t106.length : Int) (fun k_ => some k_ = (.slice Ao21 y113.length co21 : Value).ownBlock) (.slice Ao21 y113.length co21) y113 t116 w _ ?side1 ?side2 ?side3 ?side4 ?side5 A9.out).mono ?_
  (case side1 => repeat (first | (with_reducible first | exact HB.out | apply lA | apply lN | apply lD | refine lS ?_ GE101.out | refine lS ?_ GE102.out) | exact HB.out))
  (case side2 => exact Kd.R_tight rfl HO108.out)
  (case side3 => exact fun k_ e_ => (HO108.out.1 k_ e_.symm).2)
  (case side4 => exact Kd.R_tight rfl HO115.out)
  (case side5 => exact fun k_ e_ => (HO115.out.1 k_ e_.symm).2)
  rintro e w22 ⟨v117, rfl, ho0, hb, hkp⟩
  refine ⟨_, rfl, ?_⟩
  replace BK101 := am (blk_kept (by (with_reducible repeat (first | refine bN ?_ _ | refine bD ?_ | refine bA ?_ _)); exact BK101.out) hkp (fun hs_ => Or.elim hs_ (fun e_ => (fun e_ => (Kd.R_ne HO108.out BK101.out (by decide)) e_) e_) (fun e_ => (fun e_ => (Kd.R_ne HO115.out BK101.out (by decide)) e_) e_)))
  replace BK102 := am (blk_kept (by (with_reducible repeat (first | refine bN ?_ _ | refine bD ?_ | refine bA ?_ _)); exact BK102.out) hkp (fun hs_ => Or.elim hs_ (fun e_ => (fun e_ => (Kd.R_ne HO108.out BK102.out (by decide)) e_) e_) (fun e_ => (fun e_ => (Kd.R_ne HO115.out BK102.out (by decide)) e_) e_)))
  have HO118 := am (Kd.R_mono (ok' := fun k_ => True) ho0 (fun k_ hk_ => trivial))
  replace HB := am (hb)
  clear HO108 HO115
  (try clear hb)
  (try clear hkp)
  (try clear ho0)
  refine hK.out _ _ ⟨(blk_cell BK101.out 0).trans rfl, (blk_cell BK102.out 0).trans rfl, (blk_cell BK102.out 1).trans rfl, (blk_cell BK102.out 2).trans rfl⟩ (fun hHeld => ?_)
  clear hK K
  refine norm_ (a' := ?_) ?_ ?_
  rotate_left
  ·show Act.put _ (some 27) _ = _
   simp only [Act.put, sA, sZ, sS, i64_w, i32_w]
   rfl
  refine pure_ (i := 8) (N := some 6) (v := ?_) (a' := ?_) (bl 9 511) rfl rfl (any_of HT_.out (by kernel_rfl)) (fun _ _ _ h => h) (Or.inl ⟨by rfl, ?_⟩) ?_ ?_
  rotate_left
  ·intro w'
   go_simp
   with_reducible rfl
  rotate_left
  ·simp only [Act.put, sA, sZ, sS, i64_w, i32_w]
   rfl
  refine done_ (done_of HT_.out (by kernel_rfl)) ?_
  try go_wp2
  go_ret
  exact ⟨_, by first | rfl | (simp [errW_none, errW_some] <;> rfl) | (simp [*, errW_none, errW_some] <;> rfl), by (with_reducible repeat (first | apply Ra | apply Rn | apply Rd)); exact HO118.out, by repeat (first | (with_reducible first | exact HB.out | apply lA | apply lN | apply lD | refine lS ?_ GE101.out | refine lS ?_ GE102.out) | exact HB.out)⟩
 ·rw [if_neg c7] at H
  have c7b0 : decide (t109 < 0) = false := decide_eq_false c7
  clear c7
  replace H := Option.bind_eq_some_iff.mp H
  obtain ⟨⟨t119, t120, t121⟩, A230, H⟩ := H
  replace H : ((subst_Pair_37.f t106 t109 (([(⟨a1, (⟨t119, t120, t121⟩ : Val)⟩ : Pair)] : List (Pair)))).bind fun t125 => (some t125)) = some r := H
  have A23 := am A230
  clear A230
  obtain ⟨y122, hy122⟩ : ∃ y_ : List (Pair), y_ = (([(⟨a1, (⟨t119, t120, t121⟩ : Val)⟩ : Pair)] : List (Pair))) := ⟨_, rfl⟩
  replace H : ((subst_Pair_37.f t106 t109 y122).bind fun t125 => (some t125)) = some r := by first | (rw [hy122]; with_reducible exact H) | (have H2_ := (Option.bind_some _ _).symm.trans H; rw [hy122]; with_reducible exact H2_) | (have H2_ := (Option.bind_some _ _).symm.trans H; with_reducible exact H2_) | with_reducible exact H | (rw [hy122]; exact H) | exact H
  have Ny122 := am hy122
  clear hy122
  replace H := Option.bind_eq_some_iff.mp H
  obtain ⟨t125, A240, H⟩ := H
  replace H : (some t125) = some r := H
  have A24 := am A240
  clear A240
  obtain rfl := Option.some.inj H
  go_enter Try.func18, Try.ntmps18
  try go_wp2_with (first | ((with_reducible refine gate_dst (N := 4) rfl ?_); refine box_event ?hg (N := 4) ?hd (cs := #[.string a1]) (t := 9) ?hr ?_; (case hd => rfl); (case hg => rfl); (case hr => first | (go_simp; done) | (go_simp; rfl)); intro gb101 hg w25 hbox hb; have BK101 := am (hbox); have GW101 := am ((by rw [hg]; exact (below_size (by repeat (first | (with_reducible first | exact HB.out | apply lA | apply lN | apply lD) | exact HB.out))) : w.heap.size ≤ gb101)); have GE101 := am ((by rw [hg]; exact (below_size (by repeat (first | (with_reducible first | exact HB.out | apply lA | apply lN | apply lD) | exact HB.out))) : w.heap.size ≤ gb101)); replace HB := am (below_step (by repeat (first | (with_reducible first | exact HB.out | apply lA | apply lN | apply lD) | exact HB.out)) hb); clear hb hbox hg) | ((with_reducible refine gate_dst (N := 5) rfl ?_); refine box_event ?hg (N := 5) ?hd (cs := #[.bool a2_0, .string a2_1, .int .i64 a2_2]) (t := 24) ?hr ?_; (case hd => rfl); (case hg => rfl); (case hr => first | (go_simp; done) | (go_simp; rfl)); intro gb102 hg w26 hbox hb; have BK102 := am (hbox); have GW102 := am ((by rw [hg]; exact (below_size (by repeat (first | (with_reducible first | exact HB.out | apply lA | apply lN | apply lD | refine lS ?_ GE101.out) | exact HB.out))) : w.heap.size ≤ gb102)); have GE102 := am ((by rw [hg]; exact (below_size (by repeat (first | (with_reducible first | exact HB.out | apply lA | apply lN | apply lD | refine lS ?_ GE101.out) | exact HB.out))) : w.heap.size ≤ gb102)); replace HB := am (below_step (by repeat (first | (with_reducible first | exact HB.out | apply lA | apply lN | apply lD | refine lS ?_ GE101.out) | exact HB.out)) hb); have NB101_102 := am ((by rw [hg]; exact Nat.ne_of_lt (blk_lt (g := gb101) (o := .cells #[.string a1] 9 (0, 0)) (by (with_reducible repeat (first | refine bN ?_ _ | refine bD ?_ | refine bA ?_ _)); exact BK101.out)) : gb101 ≠ gb102)); have NB102_101 := am ((by rw [hg]; exact Nat.ne_of_gt (blk_lt (g := gb101) (o := .cells #[.string a1] 9 (0, 0)) (by (with_reducible repeat (first | refine bN ?_ _ | refine bD ?_ | refine bA ?_ _)); exact BK101.out)) : gb102 ≠ gb101)); replace BK101 := am (blk_below (g := gb101) (o := .cells #[.string a1] 9 (0, 0)) (by (with_reducible repeat (first | refine bN ?_ _ | refine bD ?_ | refine bA ?_ _)); exact BK101.out) hb); clear hb hbox hg) | ((with_reducible refine gate_callee (f := 34) rfl ?_); refine goesL_ (some 10) rfl rfl Try.func34 (by kernel_rfl) rfl #[.slice A0 l0.length c0] rfl (by (try simp only [List.map_toArray, List.map_cons, List.map_nil]); first | done | rfl | (simp only [List.length_drop, List.length_take]; rfl)) ?_; (with_reducible refine (subst_Pair_34.calls _ _ l0 t103 _ ?side1 ?side2 A4.out).mono ?_); (case side1 => repeat (first | exact (Kd.C_below HR0.out HB.out) | (with_reducible refine Kd.C_alloc ?_ _) | (with_reducible refine Kd.C_drewN ?_ _) | (with_reducible refine Kd.C_drew ?_))); (case side2 => exact HC0.out); rintro e w27 ⟨v104, rfl, ho0, hb⟩; refine ⟨_, rfl, ?_⟩; have HO105 := am (Kd.R_lower ho0 (below_size (by repeat (first | (with_reducible first | exact HB.out | apply lA | apply lN | apply lD | refine lS ?_ GE101.out | refine lS ?_ GE102.out) | exact HB.out)))); replace BK101 := am (blk_below (g := gb101) (o := .cells #[.string a1] 9 (0, 0)) (by (with_reducible repeat (first | refine bN ?_ _ | refine bD ?_ | refine bA ?_ _)); exact BK101.out) hb); replace BK102 := am (blk_below (g := gb102) (o := .cells #[.bool a2_0, .string a2_1, .int .i64 a2_2] 24 (0, 0)) (by (with_reducible repeat (first | refine bN ?_ _ | refine bD ?_ | refine bA ?_ _)); exact BK102.out) hb); replace HB := am (below_step (by repeat (first | (with_reducible first | exact HB.out | apply lA | apply lN | apply lD | refine lS ?_ GE101.out | refine lS ?_ GE102.out) | exact HB.out)) hb); (try clear hb); (try clear hb2); (try clear hk); (try clear hi); (try clear ho0); obtain ⟨Ao28, co28, eo28⟩ := Kd.R_slice HO105.out; subst eo28) | ((with_reducible refine gate_callee (f := 33) rfl ?_); refine goesL_ (some 12) rfl rfl Try.func33 (by kernel_rfl) rfl #[.slice Ao28 t103.length co28, .func (.func 35) #[] #[.pointer (some ⟨gb101, 0, none⟩)]] rfl (by (try simp only [List.map_toArray, List.map_cons, List.map_nil]); first | done | rfl | (simp only [List.length_drop, List.length_take]; rfl)) ?_; (refine (GWithDel.calls (fun k_ => some k_ = (.slice Ao28 t103.length co28 : Value).ownBlock) (.slice Ao28 t103.length co28) t103 a1 t106 w _ ?side1 ?side2 ?side3 A5.out).mono ?_); (case side1 => repeat (first | (with_reducible first | exact HB.out | apply lA | apply lN | apply lD | refine lS ?_ GE101.out | refine lS ?_ GE102.out) | exact HB.out)); (case side2 => exact Kd.R_tight rfl HO105.out); (case side3 => (with_reducible repeat (first | refine bN ?_ _ | refine bD ?_ | refine bA ?_ _)); exact BK101.out); rintro e w29 ⟨v107, rfl, ho0, hb, hkp⟩; refine ⟨_, rfl, ?_⟩; replace BK101 := am (blk_kept (by (with_reducible repeat (first | refine bN ?_ _ | refine bD ?_ | refine bA ?_ _)); exact BK101.out) hkp (fun hs_ => (fun e_ => (Kd.R_ne HO105.out BK101.out (by decide)) e_) hs_)); replace BK102 := am (blk_kept (by (with_reducible repeat (first | refine bN ?_ _ | refine bD ?_ | refine bA ?_ _)); exact BK102.out) hkp (fun hs_ => (fun e_ => (Kd.R_ne HO105.out BK102.out (by decide)) e_) hs_)); have HO108 := am (Kd.R_mono (ok' := fun k_ => True) ho0 (fun k_ hk_ => trivial)); replace HB := am (hb); clear HO105; (try clear hb); (try clear hkp); (try clear ho0); obtain ⟨Ao30, co30, eo30⟩ := Kd.R_slice HO108.out; subst eo30) | ((with_reducible refine gate_callee (f := 31) rfl ?_); refine goesL_ (some 15) rfl rfl Try.func31 (by kernel_rfl) rfl #[.slice Ao30 t106.length co30, .func (.func 36) #[] #[.pointer (some ⟨gb101, 0, none⟩)]] rfl (by (try simp only [List.map_toArray, List.map_cons, List.map_nil]); first | done | rfl | (simp only [List.length_drop, List.length_take]; rfl)) ?_; (refine (GWithIdx.calls _ _ t106 a1 t109 _ ?side1 ?side2 ?side3 A6.out).mono ?_); (case side1 => repeat (first | exact (Kd.R_reads' HO108.out).2.2 | (with_reducible refine Kd.C_alloc ?_ _) | (with_reducible refine Kd.C_drewN ?_ _) | (with_reducible refine Kd.C_drew ?_))); (case side2 => exact (Kd.R_reads' HO108.out).2.1); (case side3 => (with_reducible repeat (first | refine bN ?_ _ | refine bD ?_ | refine bA ?_ _)); exact BK101.out); rintro e w31 ⟨rfl, hb⟩; refine ⟨_, rfl, ?_⟩; replace HO108 := am (Kd.R_below (by (with_reducible repeat (first | apply Ra | apply Rn | apply Rd)); exact HO108.out) hb); replace BK101 := am (blk_below (g := gb101) (o := .cells #[.string a1] 9 (0, 0)) (by (with_reducible repeat (first | refine bN ?_ _ | refine bD ?_ | refine bA ?_ _)); exact BK101.out) hb); replace BK102 := am (blk_below (g := gb102) (o := .cells #[.bool a2_0, .string a2_1, .int .i64 a2_2] 24 (0, 0)) (by (with_reducible repeat (first | refine bN ?_ _ | refine bD ?_ | refine bA ?_ _)); exact BK102.out) hb); replace HB := am (below_step (by repeat (first | (with_reducible first | exact HB.out | apply lA | apply lN | apply lD | refine lS ?_ GE101.out | refine lS ?_ GE102.out) | exact HB.out)) hb); (try clear hb); (try clear hb2); (try clear hk); (try clear hi)))
  replace HO108 := am (Kd.R_drew HO108.out)
  replace BK101 := am (blk_drew BK101.out)
  replace BK102 := am (blk_drew BK102.out)
  replace HB := am (below_drew1 HB.out)
  refine start_ (n := 9) (S := fun w' => w'.cell? ⟨gb101, 0, none⟩ = some (.string a1) ∧ w'.cell? ⟨gb102, 0, none⟩ = some (.bool a2_0) ∧ w'.cell? ⟨gb102, 1, none⟩ = some (.string a2_1) ∧ w'.cell? ⟨gb102, 2, none⟩ = some (.int .i64 a2_2)) (ds := []) (bl 9 0) (by kernel_rfl) rfl rfl ⟨(blk_cell BK101.out 0).trans rfl, (blk_cell BK102.out 0).trans rfl, (blk_cell BK102.out 1).trans rfl, (blk_cell BK102.out 2).trans rfl⟩ (fun hHeld => ?_); refine with_tabW subst_Env_With.tab5 subst_Env_With.bits5 (fun HT_ HW_ => ?_)
  generalize w31.drew = w32 at HO108 BK101 BK102 HB hHeld ⊢
  refine pure_ (i := 0) (N := some 20) (v := ?_) (a' := ?_) (bl 9 1) rfl rfl (any_of HT_.out (by kernel_rfl)) (fun _ _ _ h => h) (Or.inl ⟨by rfl, ?_⟩) ?_ ?_
  rotate_left
  ·intro w'
   go_simp
   with_reducible rfl
  rotate_left
  ·simp only [Act.put, sA, sZ, sS, i64_w, i32_w]
   rfl
  refine pure_ (i := 1) (N := some 21) (v := ?_) (a' := ?_) (bl 9 3) rfl rfl (any_of HT_.out (by kernel_rfl)) (fun _ _ _ h => h) (Or.inl ⟨by rfl, ?_⟩) ?_ ?_
  rotate_left
  ·intro w'
   go_simp
   with_reducible rfl
  rotate_left
  ·simp only [Act.put, sA, sZ, sS, i64_w, i32_w]
   rfl
  refine take_ (i := 2) (N := some 22) (v := ?_) (a' := ?_) (bl 9 7) rfl rfl (take_ofW HT_.out HW_.out (by kernel_rfl)) (fun _ _ _ h => h) (Or.inl ⟨by rfl, ?_⟩) hHeld ?_ ?_
  rotate_left
  ·rintro w' ⟨s0, s1, s2, s3⟩
   go_simp
   with_reducible rfl
  rotate_left
  ·simp only [Act.put, sA, sZ, sS, i64_w, i32_w]
   rfl
  refine take_ (i := 3) (N := some 23) (v := ?_) (a' := ?_) (bl 9 15) rfl rfl (take_ofW HT_.out HW_.out (by kernel_rfl)) (fun _ _ _ h => h) (Or.inl ⟨by rfl, ?_⟩) hHeld ?_ ?_
  rotate_left
  ·rintro w' ⟨s0, s1, s2, s3⟩
   go_simp
   with_reducible rfl
  rotate_left
  ·simp only [Act.put, sA, sZ, sS, i64_w, i32_w]
   rfl
  refine one_ (i := 4) (N := some 24) (bl 9 31) rfl rfl (one_of HT_.out (by kernel_rfl)) (by decide) (fun K hK => ?_)
  refine goes_ Try.func38 (by kernel_rfl) rfl #[.agg #[.bool a2_0, .string a2_1, .int .i64 a2_2]] (by rfl) rfl rfl (by (try simp only [List.map_toArray, List.map_cons, List.map_nil]); first | done | rfl | (simp only [List.length_drop, List.length_take]; rfl)) ?_
  with_reducible refine (subst_bare.calls a2_0 a2_1 a2_2 t119 t120 t121 _ A23.out).mono ?_
  rintro e w33 ⟨rfl, hb⟩
  refine ⟨_, rfl, ?_⟩
  replace HO108 := am (Kd.R_below (by (with_reducible repeat (first | apply Ra | apply Rn | apply Rd)); exact HO108.out) hb)
  replace BK101 := am (blk_below (g := gb101) (o := .cells #[.string a1] 9 (0, 0)) (by (with_reducible repeat (first | refine bN ?_ _ | refine bD ?_ | refine bA ?_ _)); exact BK101.out) hb)
  replace BK102 := am (blk_below (g := gb102) (o := .cells #[.bool a2_0, .string a2_1, .int .i64 a2_2] 24 (0, 0)) (by (with_reducible repeat (first | refine bN ?_ _ | refine bD ?_ | refine bA ?_ _)); exact BK102.out) hb)
  replace HB := am (below_step (by repeat (first | (with_reducible first | exact HB.out | apply lA | apply lN | apply lD | refine lS ?_ GE101.out | refine lS ?_ GE102.out) | exact HB.out)) hb)
  (try clear hb)
  (try clear hb2)
  (try clear hk)
  (try clear hi)
  refine hK.out _ _ ⟨(blk_cell BK101.out 0).trans rfl, (blk_cell BK102.out 0).trans rfl, (blk_cell BK102.out 1).trans rfl, (blk_cell BK102.out 2).trans rfl⟩ (fun hHeld => ?_)
  clear hK K
  refine norm_ (a' := ?_) ?_ ?_
  rotate_left
  ·show Act.put _ (some 24) _ = _
   simp only [Act.put, sA, sZ, sS, i64_w, i32_w]
   rfl
  refine pure_ (i := 5) (N := some 25) (v := ?_) (a' := ?_) (bl 9 63) rfl rfl (any_of HT_.out (by kernel_rfl)) (fun _ _ _ h => h) (Or.inl ⟨by rfl, ?_⟩) ?_ ?_
  rotate_left
  ·intro w'
   go_simp
   with_reducible rfl
  rotate_left
  ·simp only [Act.put, sA, sZ, sS, i64_w, i32_w]
   rfl
  refine one_ (i := 6) (N := some 26) (bl 9 127) rfl rfl (one_of HT_.out (by kernel_rfl)) (by decide) (fun K hK => ?_)
  refine Kd.R_lit_step k41 _ 41 ?hg (N := 26) ?hd (xs := ([(⟨a1, (⟨t119, t120, t121⟩ : Val)⟩ : Pair)] : List (Pair))) (inner := [.string a1, .bool t119, .string t120, .int .i64 t121]) (ok := fun _ => True) (okp := fun _ => True) ?hr ?hp (fun _ hk => hk) trivial (Below.refl _ _) (Nat.le_refl _) (by simp) ?_; (case hd => rfl); (case hg => rfl); (case hr => first | (go_simp; done) | (go_simp; rfl)); (case hp => exact (Reps.c4 (show Kd.M k41 _ _ _ (⟨a1, (⟨t119, t120, t121⟩ : Val)⟩ : Pair) [.string a1, .bool t119, .string t120, .int .i64 t121] from (k41_mkM _ _ _ (⟨a1, (⟨t119, t120, t121⟩ : Val)⟩ : Pair) )) (Reps.none _ _)))
  intro v123 w34 ho35 hb hg_ hnew_
  clear hg_ hnew_
  (first | rw [← Ny122.out] at ho35 | (simp only [Int.reduceToNat] at ho35; rw [← Ny122.out] at ho35))
  have HO124 := am (Kd.R_lower (Kd.R_new' ho35 (Kd.R_lt (by (with_reducible repeat (first | apply Ra | apply Rn | apply Rd)); exact HO108.out))) (below_size (by repeat (first | (with_reducible first | exact HB.out | apply lA | apply lN | apply lD | refine lS ?_ GE101.out | refine lS ?_ GE102.out) | exact HB.out))))
  replace HO108 := am (Kd.R_elder' (by (with_reducible repeat (first | apply Ra | apply Rn | apply Rd)); exact HO108.out) (Kd.R_base ho35) hb)
  replace BK101 := am (blk_below (g := gb101) (o := .cells #[.string a1] 9 (0, 0)) (by (with_reducible repeat (first | refine bN ?_ _ | refine bD ?_ | refine bA ?_ _)); exact BK101.out) hb)
  replace BK102 := am (blk_below (g := gb102) (o := .cells #[.bool a2_0, .string a2_1, .int .i64 a2_2] 24 (0, 0)) (by (with_reducible repeat (first | refine bN ?_ _ | refine bD ?_ | refine bA ?_ _)); exact BK102.out) hb)
  replace HB := am (below_step (by repeat (first | (with_reducible first | exact HB.out | apply lA | apply lN | apply lD | refine lS ?_ GE101.out | refine lS ?_ GE102.out) | exact HB.out)) hb)
  clear hb ho35
  obtain ⟨Ao36, co36, eo36⟩ := Kd.R_slice HO124.out
  (first | subst eo36 | (injection eo36 with f1_ f2_ f3_; have f4_ := f1_.symm; have f5_ := f3_.symm; clear f1_ f2_ f3_; subst f4_; subst f5_))
  refine hK.out _ _ ⟨(blk_cell BK101.out 0).trans rfl, (blk_cell BK102.out 0).trans rfl, (blk_cell BK102.out 1).trans rfl, (blk_cell BK102.out 2).trans rfl⟩ (fun hHeld => ?_)
  clear hK K
  refine norm_ (a' := ?_) ?_ ?_
  rotate_left
  ·show Act.put _ (some 26) _ = _
   simp only [Act.put, sA, sZ, sS, i64_w, i32_w]
   rfl
  refine one_ (i := 7) (N := some 27) (bl 9 255) rfl rfl (one_of HT_.out (by kernel_rfl)) (by decide) (fun K hK => ?_)
  refine goes_ Try.func37 (by kernel_rfl) rfl #[.slice Ao30 t106.length co30, .int .i64 t109, .slice Ao36 y122.length co36] (by rfl) rfl rfl (by (try simp only [List.map_toArray, List.map_cons, List.map_nil]); first | done | rfl | (simp only [List.length_drop, List.length_take]; rfl)) ?_
  with_reducible refine (subst_Pair_37.calls (fun k_ => some k_ = (.slice Ao30 t106.length co30 : Value).ownBlock) (.slice Ao30 t106.length co30) t106 t109 (fun k_ => some k_ = (.slice Ao36 y122.length co36 : Value).ownBlock) (.slice Ao36 y122.length co36) y122 t125 w _ ?side1 ?side2 ?side3 ?side4 ?side5 A24.out).mono ?_
  (case side1 => repeat (first | (with_reducible first | exact HB.out | apply lA | apply lN | apply lD | refine lS ?_ GE101.out | refine lS ?_ GE102.out) | exact HB.out))
  (case side2 => exact Kd.R_tight rfl HO108.out)
  (case side3 => exact fun k_ e_ => (HO108.out.1 k_ e_.symm).2)
  (case side4 => exact Kd.R_tight rfl HO124.out)
  (case side5 => exact fun k_ e_ => (HO124.out.1 k_ e_.symm).2)
  rintro e w37 ⟨v126, rfl, ho0, hb, hkp⟩
  refine ⟨_, rfl, ?_⟩
  replace BK101 := am (blk_kept (by (with_reducible repeat (first | refine bN ?_ _ | refine bD ?_ | refine bA ?_ _)); exact BK101.out) hkp (fun hs_ => Or.elim hs_ (fun e_ => (fun e_ => (Kd.R_ne HO108.out BK101.out (by decide)) e_) e_) (fun e_ => (fun e_ => (Kd.R_ne HO124.out BK101.out (by decide)) e_) e_)))
  replace BK102 := am (blk_kept (by (with_reducible repeat (first | refine bN ?_ _ | refine bD ?_ | refine bA ?_ _)); exact BK102.out) hkp (fun hs_ => Or.elim hs_ (fun e_ => (fun e_ => (Kd.R_ne HO108.out BK102.out (by decide)) e_) e_) (fun e_ => (fun e_ => (Kd.R_ne HO124.out BK102.out (by decide)) e_) e_)))
  have HO127 := am (Kd.R_mono (ok' := fun k_ => True) ho0 (fun k_ hk_ => trivial))
  replace HB := am (hb)
  clear HO108 HO124
  (try clear hb)
  (try clear hkp)
  (try clear ho0)
  refine hK.out _ _ ⟨(blk_cell BK101.out 0).trans rfl, (blk_cell BK102.out 0).trans rfl, (blk_cell BK102.out 1).trans rfl, (blk_cell BK102.out 2).trans rfl⟩ (fun hHeld => ?_)
  clear hK K
  refine norm_ (a' := ?_) ?_ ?_
  rotate_left
  ·show Act.put _ (some 27) _ = _
   simp only [Act.put, sA, sZ, sS, i64_w, i32_w]
   rfl
  refine pure_ (i := 8) (N := some 6) (v := ?_) (a' := ?_) (bl 9 511) rfl rfl (any_of HT_.out (by kernel_rfl)) (fun _ _ _ h => h) (Or.inl ⟨by rfl, ?_⟩) ?_ ?_
  rotate_left
  ·intro w'
   go_simp
   with_reducible rfl
  rotate_left
  ·simp only [Act.put, sA, sZ, sS, i64_w, i32_w]
   rfl
  refine done_ (done_of HT_.out (by kernel_rfl)) ?_
  try go_wp2
  go_ret
  exact ⟨_, by first | rfl | (simp [errW_none, errW_some] <;> rfl) | (simp [*, errW_none, errW_some] <;> rfl), by (with_reducible repeat (first | apply Ra | apply Rn | apply Rd)); exact HO127.out, by repeat (first | (with_reducible first | exact HB.out | apply lA | apply lN | apply lD | refine lS ?_ GE101.out | refine lS ?_ GE102.out) | exact HB.out)⟩
end Go.Proofs.Ytdanihbbnepjpaa.H
namespace Go.Proofs.Ytdanihbbnepjpaa.H
open Go.RowKit Go.Proofs.YtdanihbbnepjpaaW.PrintWords Go.Proofs.YtdanihbbnepjpaaW.PrintLast Go.Proofs.YtdanihbbnepjpaaW.PrintMore
def subst_Env_Get.f (l : List Pair) (s : ByteArray) : Option (Bool × ByteArray × Int × Bool) := some (match getOf l s with
  | some v => (v.isSym, v.sym, v.n, true)
  | none => (false, ⟨#[]⟩, 0, false))
theorem subst_Env_Get.calls (A0 : Option Addr) (c0 : Nat) (l0 : List Pair) (a1 : ByteArray) (r1 : Bool) (r2 : ByteArray) (r3 : Int) (r4 : Bool) (w : World) (hr0 : Kd.C k41 w A0 l0.length l0) (_ : l0.length ≤ c0)
    (h : subst_Env_Get.f l0 a1 = some (r1, r2, r3, r4)) :
    Calls Try.prog 12 #[.slice A0 l0.length c0, .string a1] w fun e w' => e = .returned (.tuple #[.agg #[.bool r1, .string r2, .int .i64 r3], .bool r4]) ∧ Below w.heap.size w w' := by
  refine (subst_Get w A0 c0 l0 a1 hr0).mono ?_
  rintro e w' ⟨h1, h2⟩
  unfold subst_Env_Get.f at h
  cases hg : getOf l0 a1 with
  | none => rw [hg] at h h1; cases h; exact ⟨h1, h2⟩
  | some v => rw [hg] at h h1; cases h; exact ⟨h1, h2⟩
end Go.Proofs.Ytdanihbbnepjpaa.H
namespace Go.Proofs.Ytdanihbbnepjpaa.H
open Go.RowKit Go.Proofs.YtdanihbbnepjpaaW.PrintWords Go.Proofs.YtdanihbbnepjpaaW.PrintLast Go.Proofs.YtdanihbbnepjpaaW.PrintMore
attribute [local go_sem] max2_int min2_int max_two min_two max_three min_three max_four min_four
set_option linter.unusedVariables false
set_option linter.unusedSimpArgs false
def subst_Of.l0 : Nat → List (Pair) → List (Pair) → Int → Int → Option ((List (Pair)))
 | 0, _, _, _, _ => none
 | k + 1, x3, x8, x9, x10 => if x10 < x9 then (if 0 ≤ x10 then (if x10 < (x8.length : Int) then ((subst_Env_Get.f x3 ((rd_T41 x8 x10).name)).bind fun bt103 => (if bt103.2.2.2 = true then (subst_Of.l0 k x3 x8 x9 (wrap64 (x10 + 1))) else ((subst_Env_With.f x3 ((rd_T41 x8 x10).name) ((rd_T41 x8 x10).val.isSym) ((rd_T41 x8 x10).val.sym) ((rd_T41 x8 x10).val.n)).bind fun t108 => (subst_Of.l0 k t108 x8 x9 (wrap64 (x10 + 1)))))) else (none)) else (none)) else (some x3)
def subst_Of.f (k : Nat) (l0 : List (Pair)) : Option ((List (Pair))) := subst_Of.l0 k ([] : List (Pair)) l0 (l0.length : Int) 0
theorem subst_Of.mono_l : ∀ k, (∀ y0 y1 y2 y3, LeO (subst_Of.l0 k y0 y1 y2 y3) (subst_Of.l0 (k + 1) y0 y1 y2 y3))
 | 0 => fun _ _ _ _ r h => by simp [subst_Of.l0] at h
 | k + 1 => by
  have ih0 := subst_Of.mono_l k
  ·intro y0 y1 y2 y3
   unfold subst_Of.l0
   repeat' first
   | (with_reducible exact ih0 _ _ _ _)
   | (with_reducible exact LeO.refl _)
   | (with_reducible exact LeO.none _)
   | (with_reducible refine LeO.ite ?_ ?_)
   | (with_reducible refine LeO.bind ?_ (fun _ => ?_))
   | exact ih0 _ _ _ _
   | exact LeO.none _
   | refine LeO.ite ?_ ?_
   | refine LeO.bind ?_ (fun _ => ?_)
theorem subst_Of.mono : ∀ a0 k, LeO (subst_Of.f k a0) (subst_Of.f (k + 1) a0) := by
 intro a0 k
 have ih0 := subst_Of.mono_l k
 unfold subst_Of.f
 repeat' first
   | (with_reducible exact ih0 _ _ _ _)
   | (with_reducible exact LeO.refl _)
   | (with_reducible exact LeO.none _)
   | (with_reducible refine LeO.ite ?_ ?_)
   | (with_reducible refine LeO.bind ?_ (fun _ => ?_))
   | exact ih0 _ _ _ _
   | exact LeO.none _
   | refine LeO.ite ?_ ?_
   | refine LeO.bind ?_ (fun _ => ?_)
set_option maxHeartbeats 8000000 in
set_option maxRecDepth 100000 in
theorem subst_Of.calls (k : Nat) (A0 : Option Addr) (c0 : Nat) (l0 : List (Pair)) (r : List (Pair)) (w : World) (hr0 : Kd.C k41 w A0 l0.length l0) (hc0 : l0.length ≤ c0) (h : subst_Of.f k l0 = some r) :
  Calls Try.prog 16 #[.slice A0 l0.length c0] w fun e w' => ∃ v0_ : Value, e = .returned (v0_) ∧ Kd.R k41 41 w' w.heap.size (fun _ => True) v0_ r ∧ Below w.heap.size w w' := by
 have hu41 := Try.underlying41
 have hu24 := Try.underlying24
 have HR0 := am hr0
 have HC0 := am hc0
 clear hr0 hc0
 have HB := am (Below.refl w.heap.size w)
 have H : (subst_Of.l0 k ([] : List (Pair)) l0 (l0.length : Int) 0) = some r := h
 clear h
 have H' := am H
 clear H
 go_enter Try.func16, Try.ntmps16
 go_wp2
 go_loopg [3, 10] k (fun kq v3 v10 w' => ∃ (x3_1 : List (Pair)) (x10_1 : Int), v10 = .int .i64 x10_1 ∧ Aside0 (subst_Of.l0 kq x3_1 l0 (l0.length : Int) x10_1 = some r) ∧ Aside0 (kq ≤ k) ∧ Aside0 (Kd.R k41 41 w' w.heap.size (fun _ => True) v3 x3_1) ∧ Aside0 (Below w.heap.size w w'))
 case atStart => exact ⟨(([] : List (Pair))), (0), (by first | rfl | (simp; done) | (simp [*]; done)), H', ⟨Nat.le_refl _⟩, ⟨by first | exact Kd.R_nil _ _ _ _ _ | exact Kd.N_nil _ _ _ _ _ | exact Kd.V_nil _ _ _ _ _ | exact Kd.Q_nil _ _ _ _ _ | exact Kd.S_nil _ _ _ _ _⟩, ⟨by repeat (first | (with_reducible first | exact HB.out | apply lA | apply lN | apply lD) | exact HB.out)⟩⟩
 case round =>
  clear H'
  try clear c1
  obtain ⟨x3_1, x10_1, rfl, HA, HK1, HO_3, HB⟩ := hrel
  cases gk with
  | zero => exact absurd HA.out (by simp [subst_Of.l0])
  | succ k1 =>
   have H := HA.out
   clear HA
   simp only [subst_Of.l0] at H
   by_cases c2 : x10_1 < (l0.length : Int)
   ·rw [if_pos c2] at H
    have c2b0 : decide (x10_1 < (l0.length : Int)) = true := decide_eq_true c2
    clear c2
    by_cases c3 : 0 ≤ x10_1
    ·rw [if_pos c3] at H
     have c3b0 : decide (0 ≤ x10_1) = true := decide_eq_true c3
     clear c3
     by_cases c4 : x10_1 < (l0.length : Int)
     ·rw [if_pos c4] at H
      have c4b0 : decide (x10_1 < (l0.length : Int)) = true := decide_eq_true c4
      clear c4
      replace H := Option.bind_eq_some_iff.mp H
      obtain ⟨⟨t103, t104, t105, t106⟩, A50, H⟩ := H
      replace H : (if t106 = true then (subst_Of.l0 k1 x3_1 l0 (l0.length : Int) (wrap64 (x10_1 + 1))) else ((subst_Env_With.f x3_1 ((rd_T41 l0 x10_1).name) ((rd_T41 l0 x10_1).val.isSym) ((rd_T41 l0 x10_1).val.sym) ((rd_T41 l0 x10_1).val.n)).bind fun t108 => (subst_Of.l0 k1 t108 l0 (l0.length : Int) (wrap64 (x10_1 + 1))))) = some r := H
      have A5 := am A50
      clear A50
      by_cases c6 : t106 = true
      ·subst c6
       have H1 : (subst_Of.l0 k1 x3_1 l0 (l0.length : Int) (wrap64 (x10_1 + 1))) = some r := by rw [if_pos rfl] at H; exact H
       clear H
       have H := H1
       clear H1
       have H' := am H
       clear H
       have p101 : 0 ≤ (x10_1 : Int) := of_decide_eq_true (by first | (with_reducible assumption) | assumption)
       have q101 : x10_1 < (l0.length : Int) := of_decide_eq_true (by first | (with_reducible assumption) | assumption)
       obtain ⟨ad101, e101, hx101_0, hx101_1, hx101_2, hx101_3⟩ := at_T41 HR0.out x10_1 p101 q101
       cases e101
       replace hx101_0 := (HB.out.cell (blt_ hx101_0)).trans hx101_0
       replace hx101_1 := (HB.out.cell (blt_ hx101_1)).trans hx101_1
       replace hx101_2 := (HB.out.cell (blt_ hx101_2)).trans hx101_2
       replace hx101_3 := (HB.out.cell (blt_ hx101_3)).trans hx101_3
       replace p101 := eq_true p101
       replace q101 := eq_true q101
       go_wp2_with (first | ((with_reducible refine gate_dst (N := 5) rfl ?_); refine box_event ?hg (N := 5) ?hd (cs := #[.string (⟨#[]⟩ : ByteArray), .bool false, .string (⟨#[]⟩ : ByteArray), .int .i64 0]) (t := 41) ?hr ?_; (case hd => rfl); (case hg => rfl); (case hr => first | (go_simp; done) | (go_simp; rfl)); intro gb102 hg w7 hbox hb; replace HO_3 := am (Kd.R_below (Kd.R_elderB (by (with_reducible repeat (first | apply Ra | apply Rn | apply Rd)); exact HO_3.out) gb102 (Nat.le_of_eq hg.symm)) hb); have BK102 := am (hbox); have GW102 := am ((by rw [hg]; exact (below_size (by repeat (first | (with_reducible first | exact HB.out | apply lA | apply lN | apply lD) | exact HB.out))) : w.heap.size ≤ gb102)); have GE102 := am ((by rw [hg]; exact (below_size (by repeat (first | (with_reducible first | exact HB.out | apply lA | apply lN | apply lD) | exact HB.out))) : w.heap.size ≤ gb102)); replace HB := am (below_step (by repeat (first | (with_reducible first | exact HB.out | apply lA | apply lN | apply lD) | exact HB.out)) hb); clear hb hbox hg; have hcz8_0 : w7.cell? ⟨gb102, 0, none⟩ = some (.string (⟨#[]⟩ : ByteArray)) := (blk_cell BK102.out 0).trans rfl; have hcz8_1 : w7.cell? ⟨gb102, 1, none⟩ = some (.bool false) := (blk_cell BK102.out 1).trans rfl; have hcz8_2 : w7.cell? ⟨gb102, 2, none⟩ = some (.string (⟨#[]⟩ : ByteArray)) := (blk_cell BK102.out 2).trans rfl; have hcz8_3 : w7.cell? ⟨gb102, 3, none⟩ = some (.int .i64 0) := (blk_cell BK102.out 3).trans rfl; have hfz8_0 := blk_frozen BK102.out 0; have hfz8_1 := blk_frozen BK102.out 1; have hfz8_2 := blk_frozen BK102.out 2; have hfz8_3 := blk_frozen BK102.out 3; obtain ⟨Ao9, co9, eo9⟩ := Kd.R_slice HO_3.out; subst eo9) | ((with_reducible refine gate_callee (f := 12) rfl ?_); refine goesL_ (some 18) rfl rfl Try.func12 (by kernel_rfl) rfl #[.slice Ao9 x3_1.length co9, .string ((rd_T41 l0 x10_1).name)] rfl (by (try simp only [List.map_toArray, List.map_cons, List.map_nil]); first | done | rfl | (simp only [List.length_drop, List.length_take]; rfl)) ?_; (with_reducible refine (subst_Env_Get.calls _ _ x3_1 ((rd_T41 l0 x10_1).name) t103 t104 t105 true _ ?side1 ?side2 A5.out).mono ?_); (case side1 => refine (Kd.R_reads' (e := 41) (base := w.heap.size) (ok := fun k_ => (True ∧ k_ ≠ gb102)) (n := x3_1.length) (c := co9) ?_).2.2; exact (by (with_reducible repeat (first | apply Ra | apply Rn | apply Rd)); exact (Kd.R_mono (Kd.R_far (p := ⟨gb102, 3, none⟩) (Kd.R_far (p := ⟨gb102, 2, none⟩) (Kd.R_far (p := ⟨gb102, 1, none⟩) (Kd.R_far (p := ⟨gb102, 0, none⟩) (Kd.R_mono HO_3.out (fun k_ hk => (⟨hk, hk.2⟩ : _ ∧ k_ ≠ gb102))) (fun _ hk => hk.2) _) (fun _ hk => hk.2) _) (fun _ hk => hk.2) _) (fun _ hk => hk.2) _) (fun _ h_ => h_.1)))); (case side2 => exact (Kd.R_reads' HO_3.out).2.1); rintro e w10 ⟨rfl, hb⟩; refine ⟨_, rfl, ?_⟩; replace HO_3 := am (Kd.R_below (by (with_reducible repeat (first | apply Ra | apply Rn | apply Rd)); exact (Kd.R_mono (Kd.R_far (p := ⟨gb102, 3, none⟩) (Kd.R_far (p := ⟨gb102, 2, none⟩) (Kd.R_far (p := ⟨gb102, 1, none⟩) (Kd.R_far (p := ⟨gb102, 0, none⟩) (Kd.R_mono HO_3.out (fun k_ hk => (⟨hk, hk.2⟩ : _ ∧ k_ ≠ gb102))) (fun _ hk => hk.2) _) (fun _ hk => hk.2) _) (fun _ hk => hk.2) _) (fun _ hk => hk.2) _) (fun _ h_ => h_.1))) hb); replace BK102 := am (blk_below (g := gb102) (o := .cells #[.string ((rd_T41 l0 x10_1).name), .bool ((rd_T41 l0 x10_1).val.isSym), .string ((rd_T41 l0 x10_1).val.sym), .int .i64 ((rd_T41 l0 x10_1).val.n)] 41 (0, 0)) (by (with_reducible repeat (first | refine bN ?_ _ | refine bD ?_ | refine bA ?_ _)); refine blk_put (cs := #[.string ((rd_T41 l0 x10_1).name), .bool ((rd_T41 l0 x10_1).val.isSym), .string ((rd_T41 l0 x10_1).val.sym), .int .i64 0]) ?_ 3 _ rfl; (with_reducible repeat (first | refine bN ?_ _ | refine bD ?_ | refine bA ?_ _)); refine blk_put (cs := #[.string ((rd_T41 l0 x10_1).name), .bool ((rd_T41 l0 x10_1).val.isSym), .string (⟨#[]⟩ : ByteArray), .int .i64 0]) ?_ 2 _ rfl; (with_reducible repeat (first | refine bN ?_ _ | refine bD ?_ | refine bA ?_ _)); refine blk_put (cs := #[.string ((rd_T41 l0 x10_1).name), .bool false, .string (⟨#[]⟩ : ByteArray), .int .i64 0]) ?_ 1 _ rfl; (with_reducible repeat (first | refine bN ?_ _ | refine bD ?_ | refine bA ?_ _)); refine blk_put (cs := #[.string (⟨#[]⟩ : ByteArray), .bool false, .string (⟨#[]⟩ : ByteArray), .int .i64 0]) ?_ 0 _ rfl; (with_reducible repeat (first | refine bN ?_ _ | refine bD ?_ | refine bA ?_ _)); exact BK102.out) hb); replace HB := am (below_step (by repeat (first | (with_reducible first | exact HB.out | apply lA | apply lN | apply lD | refine lS ?_ GE102.out) | exact HB.out)) hb); (try clear hb); (try clear hb2); (try clear hk); (try clear hi)) | ((with_reducible refine gate_dst (N := 6) rfl ?_); refine box_event ?hg (N := 6) ?hd (cs := #[.bool false, .string (⟨#[]⟩ : ByteArray), .int .i64 0]) (t := 24) ?hr ?_; (case hd => rfl); (case hg => rfl); (case hr => first | (go_simp; done) | (go_simp; rfl)); intro gb107 hg w11 hbox hb; replace HO_3 := am (Kd.R_below (by (with_reducible repeat (first | apply Ra | apply Rn | apply Rd)); exact HO_3.out) hb); have BK107 := am (hbox); have GW107 := am ((by rw [hg]; exact (below_size (by repeat (first | (with_reducible first | exact HB.out | apply lA | apply lN | apply lD | refine lS ?_ GE102.out) | exact HB.out))) : w.heap.size ≤ gb107)); have GE107 := am ((by rw [hg]; exact (below_size (by repeat (first | (with_reducible first | exact HB.out | apply lA | apply lN | apply lD | refine lS ?_ GE102.out) | exact HB.out))) : w.heap.size ≤ gb107)); replace HB := am (below_step (by repeat (first | (with_reducible first | exact HB.out | apply lA | apply lN | apply lD | refine lS ?_ GE102.out) | exact HB.out)) hb); have NB102_107 := am ((by rw [hg]; exact Nat.ne_of_lt (blk_lt (g := gb102) (o := .cells #[.string ((rd_T41 l0 x10_1).name), .bool ((rd_T41 l0 x10_1).val.isSym), .string ((rd_T41 l0 x10_1).val.sym), .int .i64 ((rd_T41 l0 x10_1).val.n)] 41 (0, 0)) (by (with_reducible repeat (first | refine bN ?_ _ | refine bD ?_ | refine bA ?_ _)); exact BK102.out)) : gb102 ≠ gb107)); have NB107_102 := am ((by rw [hg]; exact Nat.ne_of_gt (blk_lt (g := gb102) (o := .cells #[.string ((rd_T41 l0 x10_1).name), .bool ((rd_T41 l0 x10_1).val.isSym), .string ((rd_T41 l0 x10_1).val.sym), .int .i64 ((rd_T41 l0 x10_1).val.n)] 41 (0, 0)) (by (with_reducible repeat (first | refine bN ?_ _ | refine bD ?_ | refine bA ?_ _)); exact BK102.out)) : gb107 ≠ gb102)); replace BK102 := am (blk_below (g := gb102) (o := .cells #[.string ((rd_T41 l0 x10_1).name), .bool ((rd_T41 l0 x10_1).val.isSym), .string ((rd_T41 l0 x10_1).val.sym), .int .i64 ((rd_T41 l0 x10_1).val.n)] 41 (0, 0)) (by (with_reducible repeat (first | refine bN ?_ _ | refine bD ?_ | refine bA ?_ _)); exact BK102.out) hb); clear hb hbox hg; have hnb12 := NB107_102.out; have hnc12 := NB102_107.out; have hcz13_0 : w11.cell? ⟨gb107, 0, none⟩ = some (.bool false) := (blk_cell BK107.out 0).trans rfl; have hcz13_1 : w11.cell? ⟨gb107, 1, none⟩ = some (.string (⟨#[]⟩ : ByteArray)) := (blk_cell BK107.out 1).trans rfl; have hcz13_2 : w11.cell? ⟨gb107, 2, none⟩ = some (.int .i64 0) := (blk_cell BK107.out 2).trans rfl; have hfz13_0 := blk_frozen BK107.out 0; have hfz13_1 := blk_frozen BK107.out 1; have hfz13_2 := blk_frozen BK107.out 2))
       go_roundg k1
       case measure => have := HK1.out; omega
       case rel => exact ⟨(x3_1), (wrap64 (x10_1 + 1)), (by first | rfl | (simp; done) | (simp [*]; done)), H', ⟨by have := HK1.out; omega⟩, ⟨by (with_reducible repeat (first | apply Ra | apply Rn | apply Rd)); exact Kd.R_mono (Kd.R_far (p := ⟨gb107, 2, none⟩) (Kd.R_far (p := ⟨gb107, 1, none⟩) (Kd.R_far (p := ⟨gb107, 0, none⟩) (Kd.R_types HO_3.out BK107.out (by decide)) (fun _ hk => hk.2) _) (fun _ hk => hk.2) _) (fun _ hk => hk.2) _) (fun _ hk => trivial)⟩, ⟨by repeat (first | (with_reducible first | exact HB.out | apply lA | apply lN | apply lD | refine lS ?_ GE102.out | refine lS ?_ GE107.out) | exact HB.out)⟩⟩
      ·replace c6 := Bool.eq_false_iff.mpr c6
       subst c6
       have H1 : ((subst_Env_With.f x3_1 ((rd_T41 l0 x10_1).name) ((rd_T41 l0 x10_1).val.isSym) ((rd_T41 l0 x10_1).val.sym) ((rd_T41 l0 x10_1).val.n)).bind fun t108 => (subst_Of.l0 k1 t108 l0 (l0.length : Int) (wrap64 (x10_1 + 1)))) = some r := by rw [if_neg (show ¬ (false = true) by decide)] at H; exact H
       clear H
       have H := H1
       clear H1
       replace H := Option.bind_eq_some_iff.mp H
       obtain ⟨t108, A140, H⟩ := H
       replace H : (subst_Of.l0 k1 t108 l0 (l0.length : Int) (wrap64 (x10_1 + 1))) = some r := H
       have A14 := am A140
       clear A140
       have H' := am H
       clear H
       have p101 : 0 ≤ (x10_1 : Int) := of_decide_eq_true (by first | (with_reducible assumption) | assumption)
       have q101 : x10_1 < (l0.length : Int) := of_decide_eq_true (by first | (with_reducible assumption) | assumption)
       obtain ⟨ad101, e101, hx101_0, hx101_1, hx101_2, hx101_3⟩ := at_T41 HR0.out x10_1 p101 q101
       cases e101
       replace hx101_0 := (HB.out.cell (blt_ hx101_0)).trans hx101_0
       replace hx101_1 := (HB.out.cell (blt_ hx101_1)).trans hx101_1
       replace hx101_2 := (HB.out.cell (blt_ hx101_2)).trans hx101_2
       replace hx101_3 := (HB.out.cell (blt_ hx101_3)).trans hx101_3
       replace p101 := eq_true p101
       replace q101 := eq_true q101
       go_wp2_with (first | ((with_reducible refine gate_dst (N := 5) rfl ?_); refine box_event ?hg (N := 5) ?hd (cs := #[.string (⟨#[]⟩ : ByteArray), .bool false, .string (⟨#[]⟩ : ByteArray), .int .i64 0]) (t := 41) ?hr ?_; (case hd => rfl); (case hg => rfl); (case hr => first | (go_simp; done) | (go_simp; rfl)); intro gb102 hg w15 hbox hb; replace HO_3 := am (Kd.R_below (Kd.R_elderB (by (with_reducible repeat (first | apply Ra | apply Rn | apply Rd)); exact HO_3.out) gb102 (Nat.le_of_eq hg.symm)) hb); have BK102 := am (hbox); have GW102 := am ((by rw [hg]; exact (below_size (by repeat (first | (with_reducible first | exact HB.out | apply lA | apply lN | apply lD) | exact HB.out))) : w.heap.size ≤ gb102)); have GE102 := am ((by rw [hg]; exact (below_size (by repeat (first | (with_reducible first | exact HB.out | apply lA | apply lN | apply lD) | exact HB.out))) : w.heap.size ≤ gb102)); replace HB := am (below_step (by repeat (first | (with_reducible first | exact HB.out | apply lA | apply lN | apply lD) | exact HB.out)) hb); clear hb hbox hg; have hcz16_0 : w15.cell? ⟨gb102, 0, none⟩ = some (.string (⟨#[]⟩ : ByteArray)) := (blk_cell BK102.out 0).trans rfl; have hcz16_1 : w15.cell? ⟨gb102, 1, none⟩ = some (.bool false) := (blk_cell BK102.out 1).trans rfl; have hcz16_2 : w15.cell? ⟨gb102, 2, none⟩ = some (.string (⟨#[]⟩ : ByteArray)) := (blk_cell BK102.out 2).trans rfl; have hcz16_3 : w15.cell? ⟨gb102, 3, none⟩ = some (.int .i64 0) := (blk_cell BK102.out 3).trans rfl; have hfz16_0 := blk_frozen BK102.out 0; have hfz16_1 := blk_frozen BK102.out 1; have hfz16_2 := blk_frozen BK102.out 2; have hfz16_3 := blk_frozen BK102.out 3; obtain ⟨Ao17, co17, eo17⟩ := Kd.R_slice HO_3.out; subst eo17) | ((with_reducible refine gate_callee (f := 12) rfl ?_); refine goesL_ (some 18) rfl rfl Try.func12 (by kernel_rfl) rfl #[.slice Ao17 x3_1.length co17, .string ((rd_T41 l0 x10_1).name)] rfl (by (try simp only [List.map_toArray, List.map_cons, List.map_nil]); first | done | rfl | (simp only [List.length_drop, List.length_take]; rfl)) ?_; (with_reducible refine (subst_Env_Get.calls _ _ x3_1 ((rd_T41 l0 x10_1).name) t103 t104 t105 false _ ?side1 ?side2 A5.out).mono ?_); (case side1 => refine (Kd.R_reads' (e := 41) (base := w.heap.size) (ok := fun k_ => (True ∧ k_ ≠ gb102)) (n := x3_1.length) (c := co17) ?_).2.2; exact (by (with_reducible repeat (first | apply Ra | apply Rn | apply Rd)); exact (Kd.R_mono (Kd.R_far (p := ⟨gb102, 3, none⟩) (Kd.R_far (p := ⟨gb102, 2, none⟩) (Kd.R_far (p := ⟨gb102, 1, none⟩) (Kd.R_far (p := ⟨gb102, 0, none⟩) (Kd.R_mono HO_3.out (fun k_ hk => (⟨hk, hk.2⟩ : _ ∧ k_ ≠ gb102))) (fun _ hk => hk.2) _) (fun _ hk => hk.2) _) (fun _ hk => hk.2) _) (fun _ hk => hk.2) _) (fun _ h_ => h_.1)))); (case side2 => exact (Kd.R_reads' HO_3.out).2.1); rintro e w18 ⟨rfl, hb⟩; refine ⟨_, rfl, ?_⟩; replace HO_3 := am (Kd.R_below (by (with_reducible repeat (first | apply Ra | apply Rn | apply Rd)); exact (Kd.R_mono (Kd.R_far (p := ⟨gb102, 3, none⟩) (Kd.R_far (p := ⟨gb102, 2, none⟩) (Kd.R_far (p := ⟨gb102, 1, none⟩) (Kd.R_far (p := ⟨gb102, 0, none⟩) (Kd.R_mono HO_3.out (fun k_ hk => (⟨hk, hk.2⟩ : _ ∧ k_ ≠ gb102))) (fun _ hk => hk.2) _) (fun _ hk => hk.2) _) (fun _ hk => hk.2) _) (fun _ hk => hk.2) _) (fun _ h_ => h_.1))) hb); replace BK102 := am (blk_below (g := gb102) (o := .cells #[.string ((rd_T41 l0 x10_1).name), .bool ((rd_T41 l0 x10_1).val.isSym), .string ((rd_T41 l0 x10_1).val.sym), .int .i64 ((rd_T41 l0 x10_1).val.n)] 41 (0, 0)) (by (with_reducible repeat (first | refine bN ?_ _ | refine bD ?_ | refine bA ?_ _)); refine blk_put (cs := #[.string ((rd_T41 l0 x10_1).name), .bool ((rd_T41 l0 x10_1).val.isSym), .string ((rd_T41 l0 x10_1).val.sym), .int .i64 0]) ?_ 3 _ rfl; (with_reducible repeat (first | refine bN ?_ _ | refine bD ?_ | refine bA ?_ _)); refine blk_put (cs := #[.string ((rd_T41 l0 x10_1).name), .bool ((rd_T41 l0 x10_1).val.isSym), .string (⟨#[]⟩ : ByteArray), .int .i64 0]) ?_ 2 _ rfl; (with_reducible repeat (first | refine bN ?_ _ | refine bD ?_ | refine bA ?_ _)); refine blk_put (cs := #[.string ((rd_T41 l0 x10_1).name), .bool false, .string (⟨#[]⟩ : ByteArray), .int .i64 0]) ?_ 1 _ rfl; (with_reducible repeat (first | refine bN ?_ _ | refine bD ?_ | refine bA ?_ _)); refine blk_put (cs := #[.string (⟨#[]⟩ : ByteArray), .bool false, .string (⟨#[]⟩ : ByteArray), .int .i64 0]) ?_ 0 _ rfl; (with_reducible repeat (first | refine bN ?_ _ | refine bD ?_ | refine bA ?_ _)); exact BK102.out) hb); replace HB := am (below_step (by repeat (first | (with_reducible first | exact HB.out | apply lA | apply lN | apply lD | refine lS ?_ GE102.out) | exact HB.out)) hb); (try clear hb); (try clear hb2); (try clear hk); (try clear hi)) | ((with_reducible refine gate_dst (N := 6) rfl ?_); refine box_event ?hg (N := 6) ?hd (cs := #[.bool false, .string (⟨#[]⟩ : ByteArray), .int .i64 0]) (t := 24) ?hr ?_; (case hd => rfl); (case hg => rfl); (case hr => first | (go_simp; done) | (go_simp; rfl)); intro gb107 hg w19 hbox hb; replace HO_3 := am (Kd.R_below (by (with_reducible repeat (first | apply Ra | apply Rn | apply Rd)); exact HO_3.out) hb); have BK107 := am (hbox); have GW107 := am ((by rw [hg]; exact (below_size (by repeat (first | (with_reducible first | exact HB.out | apply lA | apply lN | apply lD | refine lS ?_ GE102.out) | exact HB.out))) : w.heap.size ≤ gb107)); have GE107 := am ((by rw [hg]; exact (below_size (by repeat (first | (with_reducible first | exact HB.out | apply lA | apply lN | apply lD | refine lS ?_ GE102.out) | exact HB.out))) : w.heap.size ≤ gb107)); replace HB := am (below_step (by repeat (first | (with_reducible first | exact HB.out | apply lA | apply lN | apply lD | refine lS ?_ GE102.out) | exact HB.out)) hb); have NB102_107 := am ((by rw [hg]; exact Nat.ne_of_lt (blk_lt (g := gb102) (o := .cells #[.string ((rd_T41 l0 x10_1).name), .bool ((rd_T41 l0 x10_1).val.isSym), .string ((rd_T41 l0 x10_1).val.sym), .int .i64 ((rd_T41 l0 x10_1).val.n)] 41 (0, 0)) (by (with_reducible repeat (first | refine bN ?_ _ | refine bD ?_ | refine bA ?_ _)); exact BK102.out)) : gb102 ≠ gb107)); have NB107_102 := am ((by rw [hg]; exact Nat.ne_of_gt (blk_lt (g := gb102) (o := .cells #[.string ((rd_T41 l0 x10_1).name), .bool ((rd_T41 l0 x10_1).val.isSym), .string ((rd_T41 l0 x10_1).val.sym), .int .i64 ((rd_T41 l0 x10_1).val.n)] 41 (0, 0)) (by (with_reducible repeat (first | refine bN ?_ _ | refine bD ?_ | refine bA ?_ _)); exact BK102.out)) : gb107 ≠ gb102)); replace BK102 := am (blk_below (g := gb102) (o := .cells #[.string ((rd_T41 l0 x10_1).name), .bool ((rd_T41 l0 x10_1).val.isSym), .string ((rd_T41 l0 x10_1).val.sym), .int .i64 ((rd_T41 l0 x10_1).val.n)] 41 (0, 0)) (by (with_reducible repeat (first | refine bN ?_ _ | refine bD ?_ | refine bA ?_ _)); exact BK102.out) hb); clear hb hbox hg; have hnb20 := NB107_102.out; have hnc20 := NB102_107.out; have hcz21_0 : w19.cell? ⟨gb107, 0, none⟩ = some (.bool false) := (blk_cell BK107.out 0).trans rfl; have hcz21_1 : w19.cell? ⟨gb107, 1, none⟩ = some (.string (⟨#[]⟩ : ByteArray)) := (blk_cell BK107.out 1).trans rfl; have hcz21_2 : w19.cell? ⟨gb107, 2, none⟩ = some (.int .i64 0) := (blk_cell BK107.out 2).trans rfl; have hfz21_0 := blk_frozen BK107.out 0; have hfz21_1 := blk_frozen BK107.out 1; have hfz21_2 := blk_frozen BK107.out 2; have hcz22_0 : w19.cell? ⟨gb102, 0, none⟩ = some (.string ((rd_T41 l0 x10_1).name)) := (blk_cell BK102.out 0).trans rfl; have hcz22_1 : w19.cell? ⟨gb102, 1, none⟩ = some (.bool ((rd_T41 l0 x10_1).val.isSym)) := (blk_cell BK102.out 1).trans rfl; have hcz22_2 : w19.cell? ⟨gb102, 2, none⟩ = some (.string ((rd_T41 l0 x10_1).val.sym)) := (blk_cell BK102.out 2).trans rfl; have hcz22_3 : w19.cell? ⟨gb102, 3, none⟩ = some (.int .i64 ((rd_T41 l0 x10_1).val.n)) := (blk_cell BK102.out 3).trans rfl; have hfz22_0 := blk_frozen BK102.out 0; have hfz22_1 := blk_frozen BK102.out 1; have hfz22_2 := blk_frozen BK102.out 2; have hfz22_3 := blk_frozen BK102.out 3) | ((with_reducible refine gate_callee (f := 18) rfl ?_); refine goesL_ (some 28) rfl rfl Try.func18 (by kernel_rfl) rfl #[.slice Ao17 x3_1.length co17, .string ((rd_T41 l0 x10_1).name), .agg #[.bool ((rd_T41 l0 x10_1).val.isSym), .string ((rd_T41 l0 x10_1).val.sym), .int .i64 ((rd_T41 l0 x10_1).val.n)]] rfl (by (try simp only [List.map_toArray, List.map_cons, List.map_nil]); first | done | rfl | (simp only [List.length_drop, List.length_take]; rfl)) ?_; (with_reducible refine (subst_Env_With.calls _ _ x3_1 ((rd_T41 l0 x10_1).name) ((rd_T41 l0 x10_1).val.isSym) ((rd_T41 l0 x10_1).val.sym) ((rd_T41 l0 x10_1).val.n) t108 _ ?side1 ?side2 A14.out).mono ?_); (case side1 => refine (Kd.R_reads' (e := 41) (base := w.heap.size) (ok := fun k_ => (True ∧ k_ ≠ gb102)) (n := x3_1.length) (c := co17) ?_).2.2; exact (by (with_reducible repeat (first | apply Ra | apply Rn | apply Rd)); exact (Kd.R_mono (Kd.R_far (p := ⟨gb107, 2, none⟩) (Kd.R_far (p := ⟨gb107, 1, none⟩) (Kd.R_far (p := ⟨gb107, 0, none⟩) (Kd.R_types HO_3.out BK107.out (by decide)) (fun _ hk => hk.2) _) (fun _ hk => hk.2) _) (fun _ hk => hk.2) _) (fun _ h_ => h_.1)))); (case side2 => exact (Kd.R_reads' HO_3.out).2.1); rintro e w23 ⟨v109, rfl, ho0, hb⟩; refine ⟨_, rfl, ?_⟩; have HO110 := am (Kd.R_lower (Kd.R_newB (Kd.R_new' ho0 (Kd.R_lt (by (with_reducible repeat (first | apply Ra | apply Rn | apply Rd)); exact (Kd.R_mono (Kd.R_far (p := ⟨gb107, 2, none⟩) (Kd.R_far (p := ⟨gb107, 1, none⟩) (Kd.R_far (p := ⟨gb107, 0, none⟩) (Kd.R_types HO_3.out BK107.out (by decide)) (fun _ hk => hk.2) _) (fun _ hk => hk.2) _) (fun _ hk => hk.2) _) (fun _ h_ => h_.1))))) (g := gb102) (o := .cells #[.string ((rd_T41 l0 x10_1).name), .bool ((rd_T41 l0 x10_1).val.isSym), .string ((rd_T41 l0 x10_1).val.sym), .int .i64 ((rd_T41 l0 x10_1).val.n)] 41 (0, 0)) (by repeat (first | (with_reducible first | exact BK102.out | refine bN ?_ _ | refine bD ?_ | refine bA ?_ _) | refine blk_far ?_ NB102_107.out _ | exact BK102.out))) (below_size (by repeat (first | (with_reducible first | exact HB.out | apply lA | apply lN | apply lD | refine lS ?_ GE102.out | refine lS ?_ GE107.out) | exact HB.out)))); replace HO_3 := am (Kd.R_elder' (by (with_reducible repeat (first | apply Ra | apply Rn | apply Rd)); exact (Kd.R_mono (Kd.R_far (p := ⟨gb107, 2, none⟩) (Kd.R_far (p := ⟨gb107, 1, none⟩) (Kd.R_far (p := ⟨gb107, 0, none⟩) (Kd.R_types HO_3.out BK107.out (by decide)) (fun _ hk => hk.2) _) (fun _ hk => hk.2) _) (fun _ hk => hk.2) _) (fun _ h_ => h_.1))) (Kd.R_base ho0) hb); replace BK102 := am (blk_below (g := gb102) (o := .cells #[.string ((rd_T41 l0 x10_1).name), .bool ((rd_T41 l0 x10_1).val.isSym), .string ((rd_T41 l0 x10_1).val.sym), .int .i64 ((rd_T41 l0 x10_1).val.n)] 41 (0, 0)) (by repeat (first | (with_reducible first | exact BK102.out | refine bN ?_ _ | refine bD ?_ | refine bA ?_ _) | refine blk_far ?_ NB102_107.out _ | exact BK102.out)) hb); replace BK107 := am (blk_below (g := gb107) (o := .cells #[.bool t103, .string t104, .int .i64 t105] 24 (0, 0)) (by (with_reducible repeat (first | refine bN ?_ _ | refine bD ?_ | refine bA ?_ _)); refine blk_put (cs := #[.bool t103, .string t104, .int .i64 0]) ?_ 2 _ rfl; (with_reducible repeat (first | refine bN ?_ _ | refine bD ?_ | refine bA ?_ _)); refine blk_put (cs := #[.bool t103, .string (⟨#[]⟩ : ByteArray), .int .i64 0]) ?_ 1 _ rfl; (with_reducible repeat (first | refine bN ?_ _ | refine bD ?_ | refine bA ?_ _)); refine blk_put (cs := #[.bool false, .string (⟨#[]⟩ : ByteArray), .int .i64 0]) ?_ 0 _ rfl; (with_reducible repeat (first | refine bN ?_ _ | refine bD ?_ | refine bA ?_ _)); exact BK107.out) hb); replace HB := am (below_step (by repeat (first | (with_reducible first | exact HB.out | apply lA | apply lN | apply lD | refine lS ?_ GE102.out | refine lS ?_ GE107.out) | exact HB.out)) hb); (try clear hb); (try clear hb2); (try clear hk); (try clear hi); (try clear ho0)))
       go_roundg k1
       case measure => have := HK1.out; omega
       case rel => exact ⟨(t108), (wrap64 (x10_1 + 1)), (by first | rfl | (simp; done) | (simp [*]; done)), H', ⟨by have := HK1.out; omega⟩, ⟨by (with_reducible repeat (first | apply Ra | apply Rn | apply Rd)); exact Kd.R_mono HO110.out (fun _ hk => trivial)⟩, ⟨by repeat (first | (with_reducible first | exact HB.out | apply lA | apply lN | apply lD | refine lS ?_ GE102.out | refine lS ?_ GE107.out) | exact HB.out)⟩⟩
     ·rw [if_neg c4] at H
      exact absurd H (by simp)
    ·rw [if_neg c3] at H
     exact absurd H (by simp)
   ·rw [if_neg c2] at H
    have c2b0 : decide (x10_1 < (l0.length : Int)) = false := decide_eq_false c2
    clear c2
    obtain rfl := Option.some.inj H
    go_wp2
    go_ret
    exact ⟨_, by first | rfl | (simp [errW_none, errW_some] <;> rfl) | (simp [*, errW_none, errW_some] <;> rfl), by (with_reducible repeat (first | apply Ra | apply Rn | apply Rd)); exact HO_3.out, by repeat (first | (with_reducible first | exact HB.out | apply lA | apply lN | apply lD) | exact HB.out)⟩
end Go.Proofs.Ytdanihbbnepjpaa.H
namespace Go.Proofs.Ytdanihbbnepjpaa.H
open Go.RowKit Go.Proofs.YtdanihbbnepjpaaW.PrintWords Go.Proofs.YtdanihbbnepjpaaW.PrintLast Go.Proofs.YtdanihbbnepjpaaW.PrintMore
attribute [local go_sem] max2_int min2_int max_two min_two max_three min_three max_four min_four
set_option linter.unusedVariables false
set_option linter.unusedSimpArgs false
def lambrequinlaw12_few.f (l0 : List (RPair)) : Option (Bool) := some (decide ((l0.length : Int) ≤ 30))
set_option maxHeartbeats 8000000 in
set_option maxRecDepth 100000 in
theorem lambrequinlaw12_few.calls (A0 : Option Addr) (c0 : Nat) (l0 : List (RPair)) (r : Bool) (w : World) (hr0 : Kd.C k69 w A0 l0.length l0) (hc0 : l0.length ≤ c0) (h : lambrequinlaw12_few.f l0 = some r) :
  Calls Try.prog 10 #[.slice A0 l0.length c0] w fun e w' => e = .returned (.bool r) ∧ Drawn0 w w' := by
 have HR0 := Aside0.mk hr0
 have HC0 := Aside0.mk hc0
 clear hr0 hc0
 have H : (some (decide ((l0.length : Int) ≤ 30))) = some r := h
 clear h
 obtain rfl := Option.some.inj H
 go_enter Try.func10, Try.ntmps10
 go_wp2
 go_ret
 exact ⟨by first | rfl | (simp; done) | (simp [*]; done), by repeat (first | exact Drawn0.refl _ | apply Drawn0.step)⟩
end Go.Proofs.Ytdanihbbnepjpaa.H
namespace Go.Proofs.Ytdanihbbnepjpaa.H
open Go.RowKit Go.Proofs.YtdanihbbnepjpaaW.PrintWords
set_option linter.unusedVariables false
set_option linter.unusedSimpArgs false
def toP (p : RPair) : Pair := ⟨p.name, p.val⟩
def toR (p : Pair) : RPair := ⟨p.name, p.val⟩
theorem toP_toR (p : Pair) : toP (toR p) = p := rfl
theorem toR_toP (p : RPair) : toR (toP p) = p := rfl
theorem map_toP_toR (l : List Pair) : (l.map toR).map toP = l := by rw [List.map_map]; exact List.map_id' l
theorem map_toR_toP (l : List RPair) : (l.map toP).map toR = l := by rw [List.map_map]; exact List.map_id' l
theorem env_l0 (l : List RPair) (hl : l.length ≤ 1000000) : ∀ (r : List RPair) (n : Nat) (acc : List Pair), l.drop n = r → n ≤ l.length → acc.length ≤ n → Ev (fun k => lambrequinlaw12_env.l0 k l acc n) (acc ++ r.map toP)
  | [], n, acc, h, hn, hc => by
    refine Ev.step (fun k => by rw [lambrequinlaw12_env.l0]) ?_
    exact Ev.neg (drop_end h) (Ev.some (by simp))
  | y :: r, n, acc, h, hn, hc => by
    obtain ⟨h1, h2, h3, h4, h5⟩ := drop_more h (by omega)
    refine Ev.step (fun k => by rw [lambrequinlaw12_env.l0]) ?_
    refine Ev.pos h1 (Ev.pos h2 (Ev.pos (by omega) ?_))
    rw [show rd_T69 l n = y from h3 _, h5]
    refine Ev.iff (env_l0 l hl r (n + 1) _ h4 (by omega) (by simp; omega)) (by simp [toP])
theorem env_ev (l : List RPair) (hl : l.length ≤ 1000000) : Ev (fun k => lambrequinlaw12_env.f k l) (l.map toP) := Ev.iff (env_l0 l hl l 0 [] rfl (by omega) (by simp)) (by simp)
theorem back_l0 (l : List Pair) (hl : l.length ≤ 1000000) : ∀ (r : List Pair) (n : Nat) (acc : List RPair), l.drop n = r → n ≤ l.length → acc.length ≤ n → Ev (fun k => lambrequinlaw12_back.l0 k l acc n) (acc ++ r.map toR)
  | [], n, acc, h, hn, hc => by
    refine Ev.step (fun k => by rw [lambrequinlaw12_back.l0]) ?_
    exact Ev.neg (drop_end h) (Ev.some (by simp))
  | y :: r, n, acc, h, hn, hc => by
    obtain ⟨h1, h2, h3, h4, h5⟩ := drop_more h (by omega)
    refine Ev.step (fun k => by rw [lambrequinlaw12_back.l0]) ?_
    refine Ev.pos h1 (Ev.pos h2 (Ev.pos (by omega) ?_))
    rw [show rd_T41 l n = y from h3 _, h5]
    refine Ev.iff (back_l0 l hl r (n + 1) _ h4 (by omega) (by simp; omega)) (by simp [toR])
theorem back_ev (l : List Pair) (hl : l.length ≤ 1000000) : Ev (fun k => lambrequinlaw12_back.f k l) (l.map toR) := Ev.iff (back_l0 l hl l 0 [] rfl (by omega) (by simp)) (by simp)
theorem rPair_eq (a b : RPair) : (!((a.name.toList) == (b.name.toList)) || ((!(a.val.isSym == b.val.isSym)) || (!((a.val.sym.toList) == (b.val.sym.toList)) || (!(a.val.n == b.val.n))))) = !decide (a = b) := by
  rcases a with ⟨n, s, t, u⟩; rcases b with ⟨n', s', t', u'⟩
  rw [Bool.eq_iff_iff]
  simp [lib_ba_eq]
theorem rSame_l0 (a b : List RPair) (ha : a.length ≤ 1000000) : ∀ (r s : List RPair) (n : Nat), a.drop n = r → b.drop n = s → r.length = s.length → Ev (fun k => lambrequinref12_Same.l0 k a b n) (decide (r = s))
  | [], [], n, h, h', hl => by
    refine Ev.step (fun k => by rw [lambrequinref12_Same.l0]) ?_
    exact Ev.neg (drop_end h) (Ev.some (by simp))
  | [], _ :: _, n, h, h', hl => by simp at hl
  | _ :: _, [], n, h, h', hl => by simp at hl
  | x :: r, y :: s, n, h, h', hl => by
    obtain ⟨h1, h2, h3, h4, h5⟩ := drop_more h (by omega)
    have hb : b.length ≤ 1000000 := by
      have e1 := congrArg List.length h
      have e2 := congrArg List.length h'
      simp at e1 e2 hl
      omega
    obtain ⟨g1, g2, g3, g4, g5⟩ := drop_more h' (by omega)
    refine Ev.step (fun k => by rw [lambrequinref12_Same.l0]) ?_
    refine Ev.pos h1 (Ev.pos h2 (Ev.pos g1 ?_))
    rw [show rd_T69 a n = x from h3 _, show rd_T69 b n = y from g3 _, h5, rPair_eq]
    by_cases c : x = y
    · rw [decide_eq_true c]
      exact Ev.neg (by simp) (Ev.iff (rSame_l0 a b ha r s (n + 1) h4 g4 (by simpa using hl)) (by simp [c]))
    · rw [decide_eq_false c]
      exact Ev.pos rfl (Ev.some (by simp [c]))
theorem rSame_ev (a b : List RPair) (ha : a.length ≤ 1000000) : Ev (fun k => lambrequinref12_Same.f k a b) (decide (a = b)) := by
  unfold lambrequinref12_Same.f
  by_cases c : (a.length : Int) = (b.length : Int)
  · exact Ev.pos c (rSame_l0 a b ha a b 0 rfl rfl (by omega))
  · refine Ev.neg c (Ev.some ?_)
    rw [decide_eq_false]
    rintro rfl
    exact c rfl
def tup (o : Option Val) : Bool × ByteArray × Int × Bool := match o with
  | some v => (v.isSym, v.sym, v.n, true)
  | none => (false, ⟨#[]⟩, 0, false)
theorem get_eq (l : List Pair) (s : ByteArray) : subst_Env_Get.f l s = some (tup (getOf l s)) := by
  unfold subst_Env_Get.f tup; rfl
theorem rGet_l0 (l : List RPair) (s : ByteArray) (hl : l.length ≤ 1000000) : ∀ (r : List RPair) (n : Nat), l.drop n = r → Ev (fun k => lambrequinref12_Get.l0 k l s n) (tup (getOf (r.map toP) s))
  | [], n, h => by
    refine Ev.step (fun k => by rw [lambrequinref12_Get.l0]) ?_
    exact Ev.neg (drop_end h) (Ev.now _)
  | y :: r, n, h => by
    obtain ⟨h1, h2, h3, h4, h5⟩ := drop_more h (by omega)
    refine Ev.step (fun k => by rw [lambrequinref12_Get.l0]) ?_
    refine Ev.pos h1 (Ev.pos h2 ?_)
    rw [show rd_T69 l n = y from h3 _, h5, List.map_cons, getOf_cons]
    by_cases c : y.name = s
    · refine Ev.pos (lib_ba_eq.2 c) (Ev.some ?_)
      rw [if_pos (show (toP y).name = s from c)]; rfl
    · refine Ev.neg (fun e => c (lib_ba_eq.1 e)) ?_
      rw [if_neg (show ¬ (toP y).name = s from c)]
      exact rGet_l0 l s hl r (n + 1) h4
theorem rGet_ev (l : List RPair) (s : ByteArray) (hl : l.length ≤ 1000000) : Ev (fun k => lambrequinref12_Get.f k l s) (tup (getOf (l.map toP) s)) := rGet_l0 l s hl l 0 rfl
theorem bare_eq (v : Val) : subst_bare.f v.isSym v.sym v.n = some ((bareOf v).isSym, (bareOf v).sym, (bareOf v).n) := by
  unfold subst_bare.f bareOf value_Sym.f value_Int.f
  cases v.isSym <;> simp
theorem rBare_eq (v : Val) : lambrequinref03_Bare.f v.isSym v.sym v.n = some ((bareOf v).isSym, (bareOf v).sym, (bareOf v).n) := by
  unfold lambrequinref03_Bare.f bareOf
  cases v.isSym <;> simp
theorem cut_all {α : Type} {p : α → Bool} {l : List α} (h : ∀ x ∈ l, p x = false) : (l.takeWhile fun x => !p x) = l ∧ (l.dropWhile fun x => !p x) = [] := by
  have h1 : (l.dropWhile fun x => !p x) = [] := by
    induction l with
    | nil => rfl
    | cons x l ih => rw [List.dropWhile_cons_of_pos (by simp [h x (by simp)])]; exact ih fun z hz => h z (by simp [hz])
  have h2 := List.takeWhile_append_dropWhile (p := fun x => !p x) (l := l)
  rw [h1, List.append_nil] at h2
  exact ⟨h2, h1⟩
theorem cut_at {α : Type} {p : α → Bool} : ∀ {l : List α} {k : Nat} {y : α}, l[k]? = some y → p y = true → (∀ x ∈ l.take k, p x = false) → (l.takeWhile fun x => !p x) = l.take k ∧ (l.dropWhile fun x => !p x) = l.drop k
  | [], k, y, h, _, _ => by simp at h
  | x :: l, 0, y, h, hp, _ => by
    simp at h
    subst h
    rw [List.takeWhile_cons_of_neg (by simp [hp]), List.dropWhile_cons_of_neg (by simp [hp])]; simp
  | x :: l, k + 1, y, h, hp, ha => by
    have hx : p x = false := ha x (by simp)
    obtain ⟨h1, h2⟩ := cut_at (l := l) (k := k) (by simpa using h) hp (fun z hz => ha z (by simp [hz]))
    rw [List.takeWhile_cons_of_pos (by simp [hx]), List.dropWhile_cons_of_pos (by simp [hx]), h1, h2]; simp
theorem with_eq (l : List Pair) (s : ByteArray) (v : Val) (hl : l.length ≤ 1000000) : subst_Env_With.f l s v.isSym v.sym v.n = some (withOf l s v) := by
  unfold subst_Env_With.f subst_Pair_34.f GWithDel.f GWithIdx.f
  have hd := dropOf_len_le l s
  rw [if_pos (by omega), bare_eq]
  simp only [Option.bind_some]
  rcases idxP_cases (fun p : Pair => after p.name s) (dropOf l s) 0 with ⟨e, ha⟩ | ⟨k, y, e, hy, hp, ha⟩
  · rw [e, if_pos (by omega)]
    obtain ⟨h1, h2⟩ := cut_all ha
    have : subst_Pair_37.f (dropOf l s) ((dropOf l s).length : Int) [⟨s, ⟨(bareOf v).isSym, (bareOf v).sym, (bareOf v).n⟩⟩] = some (withOf l s v) := by
      unfold subst_Pair_37.f
      dsimp only
      rw [if_pos ⟨by omega, by omega, by omega⟩]
      unfold withOf insOf
      rw [h1, h2, Int.toNat_natCast, List.take_length, List.drop_length]
    rw [this]; rfl
  · rw [e, Nat.zero_add, if_neg (by omega)]
    obtain ⟨h1, h2⟩ := cut_at hy hp ha
    have hk := (List.getElem?_eq_some_iff.1 hy).1
    have : subst_Pair_37.f (dropOf l s) (k : Int) [⟨s, ⟨(bareOf v).isSym, (bareOf v).sym, (bareOf v).n⟩⟩] = some (withOf l s v) := by
      unfold subst_Pair_37.f
      dsimp only
      rw [if_pos ⟨by omega, by omega, by omega⟩]
      unfold withOf insOf
      rw [h1, h2, Int.toNat_natCast]
    rw [this]; rfl
theorem rWith_l0 (l : List RPair) (s : ByteArray) (v : Val) (hl : l.length ≤ 1000000) : ∀ (r : List RPair) (n : Nat) (acc : List RPair) (done : Bool), l.drop n = r → n ≤ l.length → acc.length ≤ n + done.toNat →
    Ev (fun k => lambrequinref12_With.l0 k l s acc done n s (bareOf v).isSym (bareOf v).sym (bareOf v).n) ((rWithGo ⟨s, bareOf v⟩ done (acc.map toP) (r.map toP)).map toR)
  | [], n, acc, done, h, hn, hc => by
    have hdn : done.toNat ≤ 1 := by cases done <;> simp
    refine Ev.step (fun k => by rw [lambrequinref12_With.l0]) ?_
    refine Ev.neg (drop_end h) ?_
    cases done with
    | true => exact Ev.pos rfl (Ev.some (by rw [List.map_nil, rWithGo, if_pos rfl, map_toR_toP]))
    | false => exact Ev.neg (by simp) (Ev.pos (by omega) (Ev.some (by rw [List.map_nil, rWithGo, if_neg (by simp), List.map_append, map_toR_toP]; rfl)))
  | y :: r, n, acc, done, h, hn, hc => by
    have hdn : done.toNat ≤ 1 := by cases done <;> simp
    obtain ⟨h1, h2, h3, h4, h5⟩ := drop_more h (by omega)
    have hn' : n < l.length := by omega
    refine Ev.step (fun k => by rw [lambrequinref12_With.l0]) ?_
    refine Ev.pos h1 (Ev.pos h2 ?_)
    rw [show rd_T69 l n = y from h3 _, h5, List.map_cons, rWithGo]
    by_cases c : y.name = s
    · refine Ev.pos (lib_ba_eq.2 c) ?_
      rw [if_pos (show (toP y).name = (⟨s, bareOf v⟩ : Pair).name from c)]
      exact rWith_l0 l s v hl r (n + 1) acc done h4 (by omega) (by omega)
    · refine Ev.neg (fun e => c (lib_ba_eq.1 e)) ?_
      rw [if_neg (show ¬ (toP y).name = (⟨s, bareOf v⟩ : Pair).name from c)]
      by_cases a : Op.bytesLess s.toList y.name.toList = true
      · refine Ev.pos a ?_
        have a' : after (toP y).name s = true := a
        cases done with
        | true =>
          refine Ev.pos rfl (Ev.pos (by omega) ?_)
          rw [if_neg (by simp)]
          refine Ev.iff (rWith_l0 l s v hl r (n + 1) (acc ++ [y]) true h4 (by omega) (by simp; omega)) (by simp)
        | false =>
          refine Ev.neg (by simp) (Ev.pos (by omega) ?_)
          refine Ev.pure (a := acc ++ [⟨s, bareOf v⟩]) rfl (Ev.pos (by simp; omega) ?_)
          rw [if_pos (by simp [a'])]
          refine Ev.iff (rWith_l0 l s v hl r (n + 1) (acc ++ [⟨s, bareOf v⟩] ++ [y]) true h4 (by omega) (by simp at hc ⊢; omega)) (by simp [toP])
      · refine Ev.neg a (Ev.pos (by omega) ?_)
        have a' : ¬ after (toP y).name s = true := a
        rw [if_neg (by simp [a'])]
        refine Ev.iff (rWith_l0 l s v hl r (n + 1) (acc ++ [y]) done h4 (by omega) (by simp; omega)) (by simp)
theorem rWith_ev (l : List RPair) (s : ByteArray) (v : Val) (hl : l.length ≤ 1000000) : Ev (fun k => lambrequinref12_With.f k l s v.isSym v.sym v.n) ((withOf (l.map toP) s v).map toR) := by
  unfold lambrequinref12_With.f
  refine Ev.pure (rBare_eq v) ?_
  refine Ev.iff (rWith_l0 l s v hl l 0 [] false rfl (by omega) (by simp)) ?_
  rw [List.map_nil, rWithGo_eq, List.nil_append]; rfl
theorem tup_some {o : Option Val} : (tup o).2.2.2 = o.isSome := by cases o <;> rfl
theorem of_l0 (l : List Pair) (hl : l.length ≤ 10000) : ∀ (r : List Pair) (n : Nat) (e : List Pair), l.drop n = r → n ≤ l.length → e.length ≤ n → Ev (fun k => subst_Of.l0 k e l (l.length : Int) n) (ofGo e r)
  | [], n, e, h, hn, hc => by
    refine Ev.step (fun k => by rw [subst_Of.l0]) ?_
    exact Ev.neg (drop_end h) (Ev.now _)
  | y :: r, n, e, h, hn, hc => by
    obtain ⟨h1, h2, h3, h4, h5⟩ := drop_more h (by omega)
    refine Ev.step (fun k => by rw [subst_Of.l0]) ?_
    refine Ev.pos h1 (Ev.pos h2 (Ev.pos h1 ?_))
    rw [show rd_T41 l n = y from h3 _, h5]
    refine Ev.pure (get_eq e y.name) ?_
    rw [tup_some, ofGo]
    by_cases c : (getOf e y.name).isSome = true
    · rw [if_pos c]
      exact Ev.pos c (of_l0 l hl r (n + 1) e h4 (by omega) (by omega))
    · rw [if_neg c]
      refine Ev.neg c (Ev.pure (with_eq e y.name y.val (by omega)) ?_)
      exact of_l0 l hl r (n + 1) _ h4 (by omega) (by have := with_len_le e y.name y.val; omega)
theorem of_ev (l : List Pair) (hl : l.length ≤ 10000) : Ev (fun k => subst_Of.f k l) (ofP l) := of_l0 l hl l 0 [] rfl (by omega) (by simp)
theorem rOf_l0 (l : List RPair) (hl : l.length ≤ 10000) : ∀ (r : List RPair) (n : Nat) (e : List Pair), l.drop n = r → n ≤ l.length → e.length ≤ n → Ev (fun k => lambrequinref12_Of.l0 k l (e.map toR) n) ((ofGo e (r.map toP)).map toR)
  | [], n, e, h, hn, hc => by
    refine Ev.step (fun k => by rw [lambrequinref12_Of.l0]) ?_
    exact Ev.neg (drop_end h) (Ev.now _)
  | y :: r, n, e, h, hn, hc => by
    obtain ⟨h1, h2, h3, h4, h5⟩ := drop_more h (by omega)
    refine Ev.step (fun k => by rw [lambrequinref12_Of.l0]) ?_
    refine Ev.pos h1 (Ev.pos h2 ?_)
    rw [show rd_T69 l n = y from h3 _, h5]
    have hg := rGet_ev (e.map toR) y.name (by simp; omega)
    rw [map_toP_toR] at hg
    refine Ev.bind hg ?_
    rw [tup_some, List.map_cons, ofGo]
    by_cases c : (getOf e y.name).isSome = true
    · rw [if_pos (show (getOf e (toP y).name).isSome = true from c)]
      exact Ev.pos c (rOf_l0 l hl r (n + 1) e h4 (by omega) (by omega))
    · rw [if_neg (show ¬ (getOf e (toP y).name).isSome = true from c)]
      have hw := rWith_ev (e.map toR) y.name y.val (by simp; omega)
      rw [map_toP_toR] at hw
      refine Ev.neg c (Ev.bind hw ?_)
      exact rOf_l0 l hl r (n + 1) _ h4 (by omega) (by have := with_len_le e y.name y.val; omega)
theorem rOf_ev (l : List RPair) (hl : l.length ≤ 10000) : Ev (fun k => lambrequinref12_Of.f k l) ((ofP (l.map toP)).map toR) := rOf_l0 l hl l 0 [] rfl (by omega) (by simp)
theorem toR_inj {a b : List Pair} : a.map toR = b.map toR ↔ a = b := by
  constructor
  · intro h
    have := congrArg (List.map toP) h
    rwa [map_toP_toR, map_toP_toR] at this
  · rintro rfl; rfl
theorem few_ev (l : List RPair) : lambrequinlaw12_few.f l = some (decide ((l.length : Int) ≤ 30)) := rfl
end Go.Proofs.Ytdanihbbnepjpaa.H
namespace Go.Proofs.Ytdanihbbnepjpaa.H
open Go.RowKit Go.Proofs.YtdanihbbnepjpaaW.PrintWords Go.Proofs.YtdanihbbnepjpaaW.PrintLast Go.Proofs.YtdanihbbnepjpaaW.PrintMore
attribute [local go_sem] max2_int min2_int max_two min_two max_three min_three max_four min_four
set_option linter.unusedVariables false
set_option linter.unusedSimpArgs false
def subst_Value.f (a0_0 : Bool) (a0_1 : ByteArray) (a0_2 : Bool) (a0_3 : ByteArray) (a0_4 : Int) (l1 : List (Pair)) : Option (Bool × ByteArray × Int × Bool) := if a0_0 = true then ((subst_Env_Get.f l1 a0_1).bind fun bt103 => (some (bt103.1, bt103.2.1, bt103.2.2.1, bt103.2.2.2))) else ((subst_bare.f a0_2 a0_3 a0_4).bind fun bt107 => (some (bt107.1, bt107.2.1, bt107.2.2, true)))
set_option maxHeartbeats 8000000 in
set_option maxRecDepth 100000 in
theorem subst_Value.calls (a0_0 : Bool) (a0_1 : ByteArray) (a0_2 : Bool) (a0_3 : ByteArray) (a0_4 : Int) (A1 : Option Addr) (c1 : Nat) (l1 : List (Pair)) (r1 : Bool) (r2 : ByteArray) (r3 : Int) (r4 : Bool) (w : World) (hr1 : Kd.C k41 w A1 l1.length l1) (hc1 : l1.length ≤ c1) (h : subst_Value.f a0_0 a0_1 a0_2 a0_3 a0_4 l1 = some (r1, r2, r3, r4)) :
  Calls Try.prog 28 #[.agg #[.bool a0_0, .string a0_1, .bool a0_2, .string a0_3, .int .i64 a0_4], .slice A1 l1.length c1] w fun e w' => e = .returned (.tuple #[.agg #[.bool r1, .string r2, .int .i64 r3], .bool r4]) ∧ Below w.heap.size w w' := by
 have hu49 := Try.underlying49
 have hu24 := Try.underlying24
 have HR1 := Aside0.mk hr1
 have HC1 := Aside0.mk hc1
 clear hr1 hc1
 have HB := Aside0.mk (Below.refl w.heap.size w)
 have H : (if a0_0 = true then ((subst_Env_Get.f l1 a0_1).bind fun bt103 => (some (bt103.1, bt103.2.1, bt103.2.2.1, bt103.2.2.2))) else ((subst_bare.f a0_2 a0_3 a0_4).bind fun bt107 => (some (bt107.1, bt107.2.1, bt107.2.2, true)))) = some (r1, r2, r3, r4) := h
 clear h
 by_cases c3 : a0_0 = true
 ·subst c3
  have H1 : ((subst_Env_Get.f l1 a0_1).bind fun bt103 => (some (bt103.1, bt103.2.1, bt103.2.2.1, bt103.2.2.2))) = some (r1, r2, r3, r4) := by rw [if_pos rfl] at H; exact H
  clear H
  have H := H1
  clear H1
  replace H := Option.bind_eq_some_iff.mp H
  obtain ⟨⟨t103, t104, t105, t106⟩, A40, H⟩ := H
  replace H : (some (t103, t104, t105, t106)) = some (r1, r2, r3, r4) := H
  have A4 := Aside0.mk A40
  clear A40
  simp only [Option.some.injEq, Prod.mk.injEq] at H
  obtain ⟨rfl, rfl, rfl, rfl⟩ := H
  go_enter Try.func28, Try.ntmps28
  go_wp2_with (first | ((with_reducible refine gate_dst (N := 2) rfl ?_); refine box_event ?hg (N := 2) ?hd (cs := #[.bool true, .string a0_1, .bool a0_2, .string a0_3, .int .i64 a0_4]) (t := 49) ?hr ?_; (case hd => rfl); (case hg => rfl); (case hr => first | (go_simp; done) | (go_simp; rfl)); intro gb101 hg w5 hbox hb; have n0_ := Aside0.mk (below_step (by repeat (first | (with_reducible first | exact HB.out | apply below_alloc | apply pw_below_drewN | apply below_drew1) | exact HB.out)) hb); have n1_ := Aside0.mk (hbox); have n2_ := Aside0.mk ((by rw [hg]; exact (below_size (by repeat (first | (with_reducible first | exact HB.out | apply below_alloc | apply pw_below_drewN | apply below_drew1) | exact HB.out))) : w.heap.size ≤ gb101)); have n3_ := Aside0.mk ((by rw [hg]; exact (below_size (by repeat (first | (with_reducible first | exact HB.out | apply below_alloc | apply pw_below_drewN | apply below_drew1) | exact HB.out))) : w.heap.size ≤ gb101)); clear HB; have HB := n0_; have BK101 := n1_; have GW101 := n2_; have GE101 := n3_; clear n0_ n1_ n2_ n3_; clear hb hbox hg) | ((with_reducible refine gate_dst (N := 4) rfl ?_); refine box_event ?hg (N := 4) ?hd (cs := #[.bool false, .string (⟨#[]⟩ : ByteArray), .int .i64 0]) (t := 24) ?hr ?_; (case hd => rfl); (case hg => rfl); (case hr => first | (go_simp; done) | (go_simp; rfl)); intro gb102 hg w6 hbox hb; have n0_ := Aside0.mk (blk_below (g := gb101) (o := .cells #[.bool true, .string a0_1, .bool a0_2, .string a0_3, .int .i64 a0_4] 49 (0, 0)) (by (with_reducible repeat (first | refine blk_drewN ?_ _ | refine blk_drew ?_ | refine blk_alloc ?_ _)); exact BK101.out) hb); have n1_ := Aside0.mk (below_step (by repeat (first | (with_reducible first | exact HB.out | apply below_alloc | apply pw_below_drewN | apply below_drew1 | refine below_set ?_ GE101.out) | exact HB.out)) hb); have n2_ := Aside0.mk (hbox); have n3_ := Aside0.mk ((by rw [hg]; exact (below_size (by repeat (first | (with_reducible first | exact HB.out | apply below_alloc | apply pw_below_drewN | apply below_drew1 | refine below_set ?_ GE101.out) | exact HB.out))) : w.heap.size ≤ gb102)); have n4_ := Aside0.mk ((by rw [hg]; exact (below_size (by repeat (first | (with_reducible first | exact HB.out | apply below_alloc | apply pw_below_drewN | apply below_drew1 | refine below_set ?_ GE101.out) | exact HB.out))) : w.heap.size ≤ gb102)); have n5_ := Aside0.mk ((by rw [hg]; exact Nat.ne_of_lt (blk_lt (g := gb101) (o := .cells #[.bool true, .string a0_1, .bool a0_2, .string a0_3, .int .i64 a0_4] 49 (0, 0)) (by (with_reducible repeat (first | refine blk_drewN ?_ _ | refine blk_drew ?_ | refine blk_alloc ?_ _)); exact BK101.out)) : gb101 ≠ gb102)); have n6_ := Aside0.mk ((by rw [hg]; exact Nat.ne_of_gt (blk_lt (g := gb101) (o := .cells #[.bool true, .string a0_1, .bool a0_2, .string a0_3, .int .i64 a0_4] 49 (0, 0)) (by (with_reducible repeat (first | refine blk_drewN ?_ _ | refine blk_drew ?_ | refine blk_alloc ?_ _)); exact BK101.out)) : gb102 ≠ gb101)); clear BK101; clear HB; have BK101 := n0_; have HB := n1_; have BK102 := n2_; have GW102 := n3_; have GE102 := n4_; have NB101_102 := n5_; have NB102_101 := n6_; clear n0_ n1_ n2_ n3_ n4_ n5_ n6_; clear hb hbox hg; have hnb7 := NB101_102.out; have hnc7 := NB102_101.out; have hcz8_0 : w6.cell? ⟨gb101, 0, none⟩ = some (.bool true) := (blk_cell BK101.out 0).trans rfl; have hcz8_1 : w6.cell? ⟨gb101, 1, none⟩ = some (.string a0_1) := (blk_cell BK101.out 1).trans rfl; have hcz8_2 : w6.cell? ⟨gb101, 2, none⟩ = some (.bool a0_2) := (blk_cell BK101.out 2).trans rfl; have hcz8_3 : w6.cell? ⟨gb101, 3, none⟩ = some (.string a0_3) := (blk_cell BK101.out 3).trans rfl; have hcz8_4 : w6.cell? ⟨gb101, 4, none⟩ = some (.int .i64 a0_4) := (blk_cell BK101.out 4).trans rfl; have hfz8_0 := blk_frozen BK101.out 0; have hfz8_1 := blk_frozen BK101.out 1; have hfz8_2 := blk_frozen BK101.out 2; have hfz8_3 := blk_frozen BK101.out 3; have hfz8_4 := blk_frozen BK101.out 4) | ((with_reducible refine gate_callee (f := 12) rfl ?_); refine goesL_ (some 11) rfl rfl Try.func12 (by kernel_rfl) rfl #[.slice A1 l1.length c1, .string a0_1] rfl (by (try simp only [List.map_toArray, List.map_cons, List.map_nil]); first | done | rfl | (simp only [List.length_drop, List.length_take]; rfl)) ?_; (with_reducible refine (subst_Env_Get.calls _ _ l1 a0_1 t103 t104 t105 t106 _ ?side1 ?side2 A4.out).mono ?_); (case side1 => repeat (first | exact (Kd.C_below HR1.out HB.out) | (with_reducible refine Kd.C_alloc ?_ _) | (with_reducible refine Kd.C_drewN ?_ _) | (with_reducible refine Kd.C_drew ?_))); (case side2 => exact HC1.out); rintro e w9 ⟨rfl, hb⟩; refine ⟨_, rfl, ?_⟩; have n0_ := Aside0.mk (blk_below (g := gb101) (o := .cells #[.bool true, .string a0_1, .bool a0_2, .string a0_3, .int .i64 a0_4] 49 (0, 0)) (by (with_reducible repeat (first | refine blk_drewN ?_ _ | refine blk_drew ?_ | refine blk_alloc ?_ _)); exact BK101.out) hb); have n1_ := Aside0.mk (blk_below (g := gb102) (o := .cells #[.bool false, .string (⟨#[]⟩ : ByteArray), .int .i64 0] 24 (0, 0)) (by (with_reducible repeat (first | refine blk_drewN ?_ _ | refine blk_drew ?_ | refine blk_alloc ?_ _)); exact BK102.out) hb); have n2_ := Aside0.mk (below_step (by repeat (first | (with_reducible first | exact HB.out | apply below_alloc | apply pw_below_drewN | apply below_drew1 | refine below_set ?_ GE101.out | refine below_set ?_ GE102.out) | exact HB.out)) hb); clear BK101; clear BK102; clear HB; have BK101 := n0_; have BK102 := n1_; have HB := n2_; clear n0_ n1_ n2_; (try clear hb); (try clear hb2); (try clear hk); (try clear hi); have hcz10_0 : w9.cell? ⟨gb102, 0, none⟩ = some (.bool false) := (blk_cell BK102.out 0).trans rfl; have hcz10_1 : w9.cell? ⟨gb102, 1, none⟩ = some (.string (⟨#[]⟩ : ByteArray)) := (blk_cell BK102.out 1).trans rfl; have hcz10_2 : w9.cell? ⟨gb102, 2, none⟩ = some (.int .i64 0) := (blk_cell BK102.out 2).trans rfl; have hfz10_0 := blk_frozen BK102.out 0; have hfz10_1 := blk_frozen BK102.out 1; have hfz10_2 := blk_frozen BK102.out 2))
  refine bodyPost_ret (results_ct rfl _ _ gb102 24 #[.bool t103, .string t104, .int .i64 t105] (0, 0) _ rfl (by (with_reducible repeat (first | refine blk_drewN ?_ _ | refine blk_drew ?_ | refine blk_alloc ?_ _)); refine blk_put (cs := #[.bool t103, .string t104, .int .i64 0]) ?_ 2 _ rfl; (with_reducible repeat (first | refine blk_drewN ?_ _ | refine blk_drew ?_ | refine blk_alloc ?_ _)); refine blk_put (cs := #[.bool t103, .string (⟨#[]⟩ : ByteArray), .int .i64 0]) ?_ 1 _ rfl; (with_reducible repeat (first | refine blk_drewN ?_ _ | refine blk_drew ?_ | refine blk_alloc ?_ _)); refine blk_put (cs := #[.bool false, .string (⟨#[]⟩ : ByteArray), .int .i64 0]) ?_ 0 _ rfl; (with_reducible repeat (first | refine blk_drewN ?_ _ | refine blk_drew ?_ | refine blk_alloc ?_ _)); exact BK102.out) Try.underlying24 rfl (by kernel_rfl)) rfl ?_
  exact ⟨by first | rfl | (simp [errW_none, errW_some] <;> rfl) | (simp [*, errW_none, errW_some] <;> rfl), by repeat (first | (with_reducible first | exact HB.out | apply below_alloc | apply pw_below_drewN | apply below_drew1 | refine below_set ?_ GE101.out | refine below_set ?_ GE102.out) | exact HB.out)⟩
 ·replace c3 := Bool.eq_false_iff.mpr c3
  subst c3
  have H1 : ((subst_bare.f a0_2 a0_3 a0_4).bind fun bt107 => (some (bt107.1, bt107.2.1, bt107.2.2, true))) = some (r1, r2, r3, r4) := by rw [if_neg (show ¬ (false = true) by decide)] at H; exact H
  clear H
  have H := H1
  clear H1
  replace H := Option.bind_eq_some_iff.mp H
  obtain ⟨⟨t107, t108, t109⟩, A110, H⟩ := H
  replace H : (some (t107, t108, t109, true)) = some (r1, r2, r3, r4) := H
  have A11 := Aside0.mk A110
  clear A110
  simp only [Option.some.injEq, Prod.mk.injEq] at H
  obtain ⟨rfl, rfl, rfl, rfl⟩ := H
  go_enter Try.func28, Try.ntmps28
  go_wp2_with (first | ((with_reducible refine gate_dst (N := 2) rfl ?_); refine box_event ?hg (N := 2) ?hd (cs := #[.bool false, .string a0_1, .bool a0_2, .string a0_3, .int .i64 a0_4]) (t := 49) ?hr ?_; (case hd => rfl); (case hg => rfl); (case hr => first | (go_simp; done) | (go_simp; rfl)); intro gb101 hg w12 hbox hb; have n0_ := Aside0.mk (below_step (by repeat (first | (with_reducible first | exact HB.out | apply below_alloc | apply pw_below_drewN | apply below_drew1) | exact HB.out)) hb); have n1_ := Aside0.mk (hbox); have n2_ := Aside0.mk ((by rw [hg]; exact (below_size (by repeat (first | (with_reducible first | exact HB.out | apply below_alloc | apply pw_below_drewN | apply below_drew1) | exact HB.out))) : w.heap.size ≤ gb101)); have n3_ := Aside0.mk ((by rw [hg]; exact (below_size (by repeat (first | (with_reducible first | exact HB.out | apply below_alloc | apply pw_below_drewN | apply below_drew1) | exact HB.out))) : w.heap.size ≤ gb101)); clear HB; have HB := n0_; have BK101 := n1_; have GW101 := n2_; have GE101 := n3_; clear n0_ n1_ n2_ n3_; clear hb hbox hg) | ((with_reducible refine gate_dst (N := 4) rfl ?_); refine box_event ?hg (N := 4) ?hd (cs := #[.bool false, .string (⟨#[]⟩ : ByteArray), .int .i64 0]) (t := 24) ?hr ?_; (case hd => rfl); (case hg => rfl); (case hr => first | (go_simp; done) | (go_simp; rfl)); intro gb102 hg w13 hbox hb; have n0_ := Aside0.mk (blk_below (g := gb101) (o := .cells #[.bool false, .string a0_1, .bool a0_2, .string a0_3, .int .i64 a0_4] 49 (0, 0)) (by (with_reducible repeat (first | refine blk_drewN ?_ _ | refine blk_drew ?_ | refine blk_alloc ?_ _)); exact BK101.out) hb); have n1_ := Aside0.mk (below_step (by repeat (first | (with_reducible first | exact HB.out | apply below_alloc | apply pw_below_drewN | apply below_drew1 | refine below_set ?_ GE101.out) | exact HB.out)) hb); have n2_ := Aside0.mk (hbox); have n3_ := Aside0.mk ((by rw [hg]; exact (below_size (by repeat (first | (with_reducible first | exact HB.out | apply below_alloc | apply pw_below_drewN | apply below_drew1 | refine below_set ?_ GE101.out) | exact HB.out))) : w.heap.size ≤ gb102)); have n4_ := Aside0.mk ((by rw [hg]; exact (below_size (by repeat (first | (with_reducible first | exact HB.out | apply below_alloc | apply pw_below_drewN | apply below_drew1 | refine below_set ?_ GE101.out) | exact HB.out))) : w.heap.size ≤ gb102)); have n5_ := Aside0.mk ((by rw [hg]; exact Nat.ne_of_lt (blk_lt (g := gb101) (o := .cells #[.bool false, .string a0_1, .bool a0_2, .string a0_3, .int .i64 a0_4] 49 (0, 0)) (by (with_reducible repeat (first | refine blk_drewN ?_ _ | refine blk_drew ?_ | refine blk_alloc ?_ _)); exact BK101.out)) : gb101 ≠ gb102)); have n6_ := Aside0.mk ((by rw [hg]; exact Nat.ne_of_gt (blk_lt (g := gb101) (o := .cells #[.bool false, .string a0_1, .bool a0_2, .string a0_3, .int .i64 a0_4] 49 (0, 0)) (by (with_reducible repeat (first | refine blk_drewN ?_ _ | refine blk_drew ?_ | refine blk_alloc ?_ _)); exact BK101.out)) : gb102 ≠ gb101)); clear BK101; clear HB; have BK101 := n0_; have HB := n1_; have BK102 := n2_; have GW102 := n3_; have GE102 := n4_; have NB101_102 := n5_; have NB102_101 := n6_; clear n0_ n1_ n2_ n3_ n4_ n5_ n6_; clear hb hbox hg; have hnb14 := NB101_102.out; have hnc14 := NB102_101.out; have hcz15_0 : w13.cell? ⟨gb101, 0, none⟩ = some (.bool false) := (blk_cell BK101.out 0).trans rfl; have hcz15_1 : w13.cell? ⟨gb101, 1, none⟩ = some (.string a0_1) := (blk_cell BK101.out 1).trans rfl; have hcz15_2 : w13.cell? ⟨gb101, 2, none⟩ = some (.bool a0_2) := (blk_cell BK101.out 2).trans rfl; have hcz15_3 : w13.cell? ⟨gb101, 3, none⟩ = some (.string a0_3) := (blk_cell BK101.out 3).trans rfl; have hcz15_4 : w13.cell? ⟨gb101, 4, none⟩ = some (.int .i64 a0_4) := (blk_cell BK101.out 4).trans rfl; have hfz15_0 := blk_frozen BK101.out 0; have hfz15_1 := blk_frozen BK101.out 1; have hfz15_2 := blk_frozen BK101.out 2; have hfz15_3 := blk_frozen BK101.out 3; have hfz15_4 := blk_frozen BK101.out 4) | ((with_reducible refine gate_callee (f := 38) rfl ?_); refine goesL_ (some 16) rfl rfl Try.func38 (by kernel_rfl) rfl #[.agg #[.bool a0_2, .string a0_3, .int .i64 a0_4]] rfl (by (try simp only [List.map_toArray, List.map_cons, List.map_nil]); first | done | rfl | (simp only [List.length_drop, List.length_take]; rfl)) ?_; (with_reducible refine (subst_bare.calls a0_2 a0_3 a0_4 t107 t108 t109 _ A11.out).mono ?_); rintro e w16 ⟨rfl, hb⟩; refine ⟨_, rfl, ?_⟩; have n0_ := Aside0.mk (blk_below (g := gb101) (o := .cells #[.bool false, .string a0_1, .bool a0_2, .string a0_3, .int .i64 a0_4] 49 (0, 0)) (by (with_reducible repeat (first | refine blk_drewN ?_ _ | refine blk_drew ?_ | refine blk_alloc ?_ _)); exact BK101.out) hb); have n1_ := Aside0.mk (blk_below (g := gb102) (o := .cells #[.bool false, .string (⟨#[]⟩ : ByteArray), .int .i64 0] 24 (0, 0)) (by (with_reducible repeat (first | refine blk_drewN ?_ _ | refine blk_drew ?_ | refine blk_alloc ?_ _)); exact BK102.out) hb); have n2_ := Aside0.mk (below_step (by repeat (first | (with_reducible first | exact HB.out | apply below_alloc | apply pw_below_drewN | apply below_drew1 | refine below_set ?_ GE101.out | refine below_set ?_ GE102.out) | exact HB.out)) hb); clear BK101; clear BK102; clear HB; have BK101 := n0_; have BK102 := n1_; have HB := n2_; clear n0_ n1_ n2_; (try clear hb); (try clear hb2); (try clear hk); (try clear hi); have hcz17_0 : w16.cell? ⟨gb102, 0, none⟩ = some (.bool false) := (blk_cell BK102.out 0).trans rfl; have hcz17_1 : w16.cell? ⟨gb102, 1, none⟩ = some (.string (⟨#[]⟩ : ByteArray)) := (blk_cell BK102.out 1).trans rfl; have hcz17_2 : w16.cell? ⟨gb102, 2, none⟩ = some (.int .i64 0) := (blk_cell BK102.out 2).trans rfl; have hfz17_0 := blk_frozen BK102.out 0; have hfz17_1 := blk_frozen BK102.out 1; have hfz17_2 := blk_frozen BK102.out 2))
  refine bodyPost_ret (results_ct rfl _ _ gb102 24 #[.bool t107, .string t108, .int .i64 t109] (0, 0) _ rfl (by (with_reducible repeat (first | refine blk_drewN ?_ _ | refine blk_drew ?_ | refine blk_alloc ?_ _)); refine blk_put (cs := #[.bool t107, .string t108, .int .i64 0]) ?_ 2 _ rfl; (with_reducible repeat (first | refine blk_drewN ?_ _ | refine blk_drew ?_ | refine blk_alloc ?_ _)); refine blk_put (cs := #[.bool t107, .string (⟨#[]⟩ : ByteArray), .int .i64 0]) ?_ 1 _ rfl; (with_reducible repeat (first | refine blk_drewN ?_ _ | refine blk_drew ?_ | refine blk_alloc ?_ _)); refine blk_put (cs := #[.bool false, .string (⟨#[]⟩ : ByteArray), .int .i64 0]) ?_ 0 _ rfl; (with_reducible repeat (first | refine blk_drewN ?_ _ | refine blk_drew ?_ | refine blk_alloc ?_ _)); exact BK102.out) Try.underlying24 rfl (by kernel_rfl)) rfl ?_
  exact ⟨by first | rfl | (simp [errW_none, errW_some] <;> rfl) | (simp [*, errW_none, errW_some] <;> rfl), by repeat (first | (with_reducible first | exact HB.out | apply below_alloc | apply pw_below_drewN | apply below_drew1 | refine below_set ?_ GE101.out | refine below_set ?_ GE102.out) | exact HB.out)⟩
end Go.Proofs.Ytdanihbbnepjpaa.H
namespace Go.Proofs.Ytdanihbbnepjpaa.H
open Go.RowKit Go.Proofs.YtdanihbbnepjpaaW.PrintWords Go.Proofs.YtdanihbbnepjpaaW.PrintLast Go.Proofs.YtdanihbbnepjpaaW.PrintMore
set_option linter.unusedVariables false
/-- a row of one's own, told as one that may be shared -/
theorem Kd.R_Vr {α : Type} {d : Kd α} {e base base' : Nat} {P M C : Nat → Prop} {W : World} {v : Value} {xs : List α} (h : Kd.R d e W base (fun k => M k ∧ C k) v xs) : Kd.V d e W base' (fun k => (P k ∨ M k) ∧ C k) v xs :=
  Kd.V_mono (Kd.R_V h) (fun _ hk => ⟨.inr hk.1, hk.2⟩)
theorem Kd.R_Vr1 {α : Type} {d : Kd α} {e base base' : Nat} {P M : Nat → Prop} {W : World} {v : Value} {xs : List α} (h : Kd.R d e W base (fun k => M k) v xs) : Kd.V d e W base' (fun k => P k ∨ M k) v xs :=
  Kd.V_mono (Kd.R_V h) (fun _ hk => .inr hk)
end Go.Proofs.Ytdanihbbnepjpaa.H

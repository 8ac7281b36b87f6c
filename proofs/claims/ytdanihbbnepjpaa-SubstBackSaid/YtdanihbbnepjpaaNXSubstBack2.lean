/- RowSubstBack of the seat's law SubstBack: the law holds, under the statement's own conditions. -/
import Derived.Test.YtdanihbbnepjpaaNXSubstBack
import Derived.Test.YtdanihbbnepjpaaNXSubstBack1
namespace Go.Proofs.Ytdanihbbnepjpaa.H
open Go.RowKit Go.Proofs.YtdanihbbnepjpaaW.PrintWords Go.Proofs.YtdanihbbnepjpaaW.PrintLast Go.Proofs.YtdanihbbnepjpaaW.PrintMore
attribute [local go_sem] max2_int min2_int max_two min_two max_three min_three max_four min_four
set_option linter.unusedVariables false
set_option linter.unusedSimpArgs false
def subst_Match.l0 : Nat → List (Val) → List (Pair) → List (Term) → Int → Int → Option ((List (Pair)) × Bool)
 | 0, _, _, _, _, _ => none
 | k + 1, x1, x2, x19, x20, x21 => if x21 < x20 then (if 0 ≤ x21 then (if x21 < (x19.length : Int) then ((subst_Value.f ((rd_T49 x19 x21).isVar) ((rd_T49 x19 x21).name) ((rd_T49 x19 x21).val.isSym) ((rd_T49 x19 x21).val.sym) ((rd_T49 x19 x21).val.n) x2).bind fun bt104 => (if bt104.2.2.2 = true then (if x21 < (x1.length : Int) then ((value_Same.f k bt104.1 bt104.2.1 bt104.2.2.1 ((rd_T24 x1 x21).isSym) ((rd_T24 x1 x21).sym) ((rd_T24 x1 x21).n)).bind fun t110 => (if t110 = true then (subst_Match.l0 k x1 x2 x19 x20 (wrap64 (x21 + 1))) else (some (([] : List (Pair)), false)))) else (none)) else (if x21 < (x1.length : Int) then ((subst_Env_With.f x2 ((rd_T49 x19 x21).name) ((rd_T24 x1 x21).isSym) ((rd_T24 x1 x21).sym) ((rd_T24 x1 x21).n)).bind fun t112 => (subst_Match.l0 k x1 t112 x19 x20 (wrap64 (x21 + 1)))) else (none)))) else (none)) else (none)) else (some (x2, true))
def subst_Match.f (k : Nat) (a0_0 : ByteArray) (l0_1 : List (Term)) (l1 : List (Val)) (l2 : List (Pair)) : Option ((List (Pair)) × Bool) := if (l0_1.length : Int) = (l1.length : Int) then (subst_Match.l0 k l1 l2 l0_1 (l0_1.length : Int) 0) else (some (([] : List (Pair)), false))
theorem subst_Match.mono_l : ∀ k, (∀ y0 y1 y2 y3 y4, LeO (subst_Match.l0 k y0 y1 y2 y3 y4) (subst_Match.l0 (k + 1) y0 y1 y2 y3 y4))
 | 0 => fun _ _ _ _ _ r h => by simp [subst_Match.l0] at h
 | k + 1 => by
  have ih0 := subst_Match.mono_l k
  ·intro y0 y1 y2 y3 y4
   unfold subst_Match.l0
   repeat' first
   | (with_reducible exact ih0 _ _ _ _ _)
   | (with_reducible exact value_Same.mono _ _ _ _ _ _ _)
   | (with_reducible exact LeO.refl _)
   | (with_reducible exact LeO.none _)
   | (with_reducible refine LeO.ite ?_ ?_)
   | (with_reducible refine LeO.bind ?_ (fun _ => ?_))
   | exact ih0 _ _ _ _ _
   | exact value_Same.mono _ _ _ _ _ _ _
   | exact LeO.none _
   | refine LeO.ite ?_ ?_
   | refine LeO.bind ?_ (fun _ => ?_)
theorem subst_Match.mono : ∀ a0 a1 a2 a3 k, LeO (subst_Match.f k a0 a1 a2 a3) (subst_Match.f (k + 1) a0 a1 a2 a3) := by
 intro a0 a1 a2 a3 k
 have ih0 := subst_Match.mono_l k
 unfold subst_Match.f
 repeat' first
   | (with_reducible exact ih0 _ _ _ _ _)
   | (with_reducible exact value_Same.mono _ _ _ _ _ _ _)
   | (with_reducible exact LeO.refl _)
   | (with_reducible exact LeO.none _)
   | (with_reducible refine LeO.ite ?_ ?_)
   | (with_reducible refine LeO.bind ?_ (fun _ => ?_))
   | exact ih0 _ _ _ _ _
   | exact value_Same.mono _ _ _ _ _ _ _
   | exact LeO.none _
   | refine LeO.ite ?_ ?_
   | refine LeO.bind ?_ (fun _ => ?_)
def subst_Match.T8 : Bool × List (List Nat × List Nat) := (true, [([], []), ([], []), ([1], [1]), ([], []), ([], []), ([3, 4], [3, 4]), ([5], [5]), ([0, 2, 6], [0, 2, 6]), ([7, 7, 0, 1, 2, 3, 4, 5, 6, 7], [0, 7])])
def subst_Match.B8 : List Nat := [0, 0, 2, 0, 0, 24, 56, 127, 255]
theorem subst_Match.tab8 : rtab .any (opsOf Try.f22 8) = subst_Match.T8 := by kernel_rfl
theorem subst_Match.bits8 : waitsOk subst_Match.T8.2 subst_Match.B8 = true := by kernel_rfl
def subst_Match.T9 : Bool × List (List Nat × List Nat) := (true, [([], []), ([], []), ([], []), ([1, 2], [1, 2]), ([3], [3]), ([0, 4], [0, 4]), ([5], [5]), ([6, 5], [6])])
def subst_Match.B9 : List Nat := [0, 0, 0, 6, 14, 31, 63, 127]
theorem subst_Match.tab9 : rtab .any (opsOf Try.f22 9) = subst_Match.T9 := by kernel_rfl
theorem subst_Match.bits9 : waitsOk subst_Match.T9.2 subst_Match.B9 = true := by kernel_rfl
set_option maxHeartbeats 8000000 in
set_option maxRecDepth 100000 in
theorem subst_Match.calls (k : Nat) (a0_0 : ByteArray) (A0_1 : Option Addr) (c0_1 : Nat) (l0_1 : List (Term)) (A1 : Option Addr) (c1 : Nat) (l1 : List (Val)) (P2_ : Nat → Prop) (A2 : Option Addr) (c2 : Nat) (l2 : List (Pair)) (r1 : List (Pair)) (r2 : Bool) (w : World) (hr0_1 : Kd.C k49 w A0_1 l0_1.length l0_1) (hc0_1 : l0_1.length ≤ c0_1) (hr1 : Kd.C k24 w A1 l1.length l1) (hc1 : l1.length ≤ c1) (hs2 : Kd.V k41 41 w w.heap.size (fun k_ => P2_ k_) (.slice A2 l2.length c2) l2) (h : subst_Match.f k a0_0 l0_1 l1 l2 = some (r1, r2)) :
  Calls Try.prog 22 #[.agg #[.string a0_0, .slice A0_1 l0_1.length c0_1], .slice A1 l1.length c1, .slice A2 l2.length c2] w fun e w' => ∃ v0_ : Value, e = .returned (.tuple #[v0_, .bool r2]) ∧ Kd.V k41 41 w' w.heap.size (fun k_ => (P2_ k_ ∨ w.heap.size ≤ k_)) v0_ r1 ∧ Below w.heap.size w w' := by
 have hu46 := Try.underlying46
 have hu49 := Try.underlying49
 have hu24 := Try.underlying24
 have HR0_1 := am hr0_1
 have HC0_1 := am hc0_1
 clear hr0_1 hc0_1
 have HR1 := am hr1
 have HC1 := am hc1
 clear hr1 hc1
 have HO2 := am (show Kd.V k41 41 w w.heap.size (fun k_ => (P2_ k_ ∨ w.heap.size ≤ k_)) (.slice A2 l2.length c2) l2 from Kd.V_mono hs2 (fun k_ hk => .inl hk))
 have HB := am (Below.refl w.heap.size w)
 have H : (if (l0_1.length : Int) = (l1.length : Int) then (subst_Match.l0 k l1 l2 l0_1 (l0_1.length : Int) 0) else (some (([] : List (Pair)), false))) = some (r1, r2) := h
 clear h
 by_cases c4 : (l0_1.length : Int) = (l1.length : Int)
 ·rw [if_pos c4] at H
  have c4b0 : ((l0_1.length : Int) == (l1.length : Int)) = true := beq_iff_eq.mpr c4
  have c4b1 : ((l0_1.length : Int) != (l1.length : Int)) = false := bne_eq_false_iff_eq.mpr c4
  have c4b2 : (l0_1.length == l1.length) = true := by first | simpa using c4 | (simp at c4 ⊢; omega)
  clear c4
  have H' := am H
  clear H
  go_enter Try.func22, Try.ntmps22
  go_wp2_with (first | ((with_reducible refine gate_dst (N := 3) rfl ?_); refine box_event ?hg (N := 3) ?hd (cs := #[.string a0_0, .slice A0_1 l0_1.length c0_1]) (t := 46) ?hr ?_; (case hd => rfl); (case hg => rfl); (case hr => first | (go_simp; done) | (go_simp; rfl)); intro gb101 hg w5 hbox hb; replace HO2 := am (Kd.V_below (Kd.V_elderB (by (with_reducible repeat (first | apply Va | apply Vn | apply Vd)); exact HO2.out) gb101 (Nat.le_of_eq hg.symm)) hb); have BK101 := am (hbox); have GW101 := am ((by rw [hg]; exact (below_size (by repeat (first | (with_reducible first | exact HB.out | apply lA | apply lN | apply lD) | exact HB.out))) : w.heap.size ≤ gb101)); have GE101 := am ((by rw [hg]; exact (below_size (by repeat (first | (with_reducible first | exact HB.out | apply lA | apply lN | apply lD) | exact HB.out))) : w.heap.size ≤ gb101)); replace HB := am (below_step (by repeat (first | (with_reducible first | exact HB.out | apply lA | apply lN | apply lD) | exact HB.out)) hb); clear hb hbox hg; have hcz6_0 : w5.cell? ⟨gb101, 0, none⟩ = some (.string a0_0) := (blk_cell BK101.out 0).trans rfl; have hcz6_1 : w5.cell? ⟨gb101, 1, none⟩ = some (.slice A0_1 l0_1.length c0_1) := (blk_cell BK101.out 1).trans rfl; have hfz6_0 := blk_frozen BK101.out 0; have hfz6_1 := blk_frozen BK101.out 1))
  go_loopg [2, 21] k (fun kq v2 v21 w' => ∃ (x2_1 : List (Pair)) (x21_1 : Int), v21 = .int .i64 x21_1 ∧ Aside0 (subst_Match.l0 kq l1 x2_1 l0_1 (l0_1.length : Int) x21_1 = some (r1, r2)) ∧ Aside0 (kq ≤ k) ∧ Aside0 (Kd.V k41 41 w' w.heap.size (fun k_ => (P2_ k_ ∨ w.heap.size ≤ k_) ∧ k_ ≠ gb101) v2 x2_1) ∧ Aside0 (w'.heap[gb101]? = some (.cells #[.string a0_0, (.slice A0_1 l0_1.length c0_1)] 46 (0, 0))) ∧ Aside0 (Below w.heap.size w w'))
  case atStart => exact ⟨(l2), (0), (by first | rfl | (simp; done) | (simp [*]; done)), H', ⟨Nat.le_refl _⟩, ⟨by (with_reducible repeat (first | apply Va | apply Vn | apply Vd)); exact HO2.out⟩, ⟨by (with_reducible repeat (first | refine bN ?_ _ | refine bD ?_ | refine bA ?_ _)); exact BK101.out⟩, ⟨by repeat (first | (with_reducible first | exact HB.out | apply lA | apply lN | apply lD | refine lS ?_ GE101.out) | exact HB.out)⟩⟩
  case round =>
   clear H'
   try clear c1
   try clear c2
   try clear p2
   try clear c4
   try clear c4b0
   try clear c4b1
   try clear c4b2
   try clear hcz6_0
   try clear hcz6_1
   try clear hfz6_0
   try clear hfz6_1
   obtain ⟨x2_1, x21_1, rfl, HA, HK1, HO_2, BK101, HB⟩ := hrel
   cases gk with
   | zero => exact absurd HA.out (by simp [subst_Match.l0])
   | succ k1 =>
    have H := HA.out
    clear HA
    simp only [subst_Match.l0] at H
    by_cases c7 : x21_1 < (l0_1.length : Int)
    ·rw [if_pos c7] at H
     have c7b0 : decide (x21_1 < (l0_1.length : Int)) = true := decide_eq_true c7
     clear c7
     by_cases c8 : 0 ≤ x21_1
     ·rw [if_pos c8] at H
      have c8b0 : decide (0 ≤ x21_1) = true := decide_eq_true c8
      clear c8
      by_cases c9 : x21_1 < (l0_1.length : Int)
      ·rw [if_pos c9] at H
       have c9b0 : decide (x21_1 < (l0_1.length : Int)) = true := decide_eq_true c9
       clear c9
       replace H := Option.bind_eq_some_iff.mp H
       obtain ⟨⟨t104, t105, t106, t107⟩, A100, H⟩ := H
       replace H : (if t107 = true then (if x21_1 < (l1.length : Int) then ((value_Same.f k1 t104 t105 t106 ((rd_T24 l1 x21_1).isSym) ((rd_T24 l1 x21_1).sym) ((rd_T24 l1 x21_1).n)).bind fun t110 => (if t110 = true then (subst_Match.l0 k1 l1 x2_1 l0_1 (l0_1.length : Int) (wrap64 (x21_1 + 1))) else (some (([] : List (Pair)), false)))) else (none)) else (if x21_1 < (l1.length : Int) then ((subst_Env_With.f x2_1 ((rd_T49 l0_1 x21_1).name) ((rd_T24 l1 x21_1).isSym) ((rd_T24 l1 x21_1).sym) ((rd_T24 l1 x21_1).n)).bind fun t112 => (subst_Match.l0 k1 l1 t112 l0_1 (l0_1.length : Int) (wrap64 (x21_1 + 1)))) else (none))) = some (r1, r2) := H
       have A10 := am A100
       clear A100
       by_cases c11 : t107 = true
       ·subst c11
        have H1 : (if x21_1 < (l1.length : Int) then ((value_Same.f k1 t104 t105 t106 ((rd_T24 l1 x21_1).isSym) ((rd_T24 l1 x21_1).sym) ((rd_T24 l1 x21_1).n)).bind fun t110 => (if t110 = true then (subst_Match.l0 k1 l1 x2_1 l0_1 (l0_1.length : Int) (wrap64 (x21_1 + 1))) else (some (([] : List (Pair)), false)))) else (none)) = some (r1, r2) := by rw [if_pos rfl] at H; exact H
        clear H
        have H := H1
        clear H1
        by_cases c12 : x21_1 < (l1.length : Int)
        ·rw [if_pos c12] at H
         have c12b0 : decide (x21_1 < (l1.length : Int)) = true := decide_eq_true c12
         clear c12
         replace H := Option.bind_eq_some_iff.mp H
         obtain ⟨t110, A130, H⟩ := H
         replace H : (if t110 = true then (subst_Match.l0 k1 l1 x2_1 l0_1 (l0_1.length : Int) (wrap64 (x21_1 + 1))) else (some (([] : List (Pair)), false))) = some (r1, r2) := H
         have A13 := am A130
         clear A130
         by_cases c14 : t110 = true
         ·subst c14
          have H1 : (subst_Match.l0 k1 l1 x2_1 l0_1 (l0_1.length : Int) (wrap64 (x21_1 + 1))) = some (r1, r2) := by rw [if_pos rfl] at H; exact H
          clear H
          have H := H1
          clear H1
          have H' := am H
          clear H
          have p102 : 0 ≤ (x21_1 : Int) := of_decide_eq_true (by first | (with_reducible assumption) | assumption)
          have q102 : x21_1 < (l0_1.length : Int) := of_decide_eq_true (by first | (with_reducible assumption) | assumption)
          obtain ⟨ad102, e102, hx102_0, hx102_1, hx102_2, hx102_3, hx102_4⟩ := at_T49 HR0_1.out x21_1 p102 q102
          cases e102
          replace hx102_0 := (HB.out.cell (blt_ hx102_0)).trans hx102_0
          replace hx102_1 := (HB.out.cell (blt_ hx102_1)).trans hx102_1
          replace hx102_2 := (HB.out.cell (blt_ hx102_2)).trans hx102_2
          replace hx102_3 := (HB.out.cell (blt_ hx102_3)).trans hx102_3
          replace hx102_4 := (HB.out.cell (blt_ hx102_4)).trans hx102_4
          replace p102 := eq_true p102
          replace q102 := eq_true q102
          try go_wp2_with (first | ((with_reducible refine gate_dst (N := 9) rfl ?_); refine box_event ?hg (N := 9) ?hd (cs := #[.bool false, .string (⟨#[]⟩ : ByteArray), .bool false, .string (⟨#[]⟩ : ByteArray), .int .i64 0]) (t := 49) ?hr ?_; (case hd => rfl); (case hg => rfl); (case hr => first | (go_simp; done) | (go_simp; rfl)); intro gb103 hg w15 hbox hb; replace HO_2 := am (Kd.V_below (Kd.V_elderB (by (with_reducible repeat (first | apply Va | apply Vn | apply Vd)); exact HO_2.out) gb103 (Nat.le_of_eq hg.symm)) hb); have BK103 := am (hbox); have GW103 := am ((by rw [hg]; exact (below_size (by repeat (first | (with_reducible first | exact HB.out | apply lA | apply lN | apply lD | refine lS ?_ GE101.out) | exact HB.out))) : w.heap.size ≤ gb103)); have GE103 := am ((by rw [hg]; exact (below_size (by repeat (first | (with_reducible first | exact HB.out | apply lA | apply lN | apply lD | refine lS ?_ GE101.out) | exact HB.out))) : w.heap.size ≤ gb103)); replace HB := am (below_step (by repeat (first | (with_reducible first | exact HB.out | apply lA | apply lN | apply lD | refine lS ?_ GE101.out) | exact HB.out)) hb); have NB101_103 := am ((by rw [hg]; exact Nat.ne_of_lt (blk_lt (g := gb101) (o := .cells #[.string a0_0, .slice (some ad102) l0_1.length c0_1] 46 (0, 0)) (by (with_reducible repeat (first | refine bN ?_ _ | refine bD ?_ | refine bA ?_ _)); exact BK101.out)) : gb101 ≠ gb103)); have NB103_101 := am ((by rw [hg]; exact Nat.ne_of_gt (blk_lt (g := gb101) (o := .cells #[.string a0_0, .slice (some ad102) l0_1.length c0_1] 46 (0, 0)) (by (with_reducible repeat (first | refine bN ?_ _ | refine bD ?_ | refine bA ?_ _)); exact BK101.out)) : gb103 ≠ gb101)); replace BK101 := am (blk_below (g := gb101) (o := .cells #[.string a0_0, .slice (some ad102) l0_1.length c0_1] 46 (0, 0)) (by (with_reducible repeat (first | refine bN ?_ _ | refine bD ?_ | refine bA ?_ _)); exact BK101.out) hb); clear hb hbox hg; have hnb16 := NB103_101.out; have hnc16 := NB101_103.out; have hcz17_0 : w15.cell? ⟨gb103, 0, none⟩ = some (.bool false) := (blk_cell BK103.out 0).trans rfl; have hcz17_1 : w15.cell? ⟨gb103, 1, none⟩ = some (.string (⟨#[]⟩ : ByteArray)) := (blk_cell BK103.out 1).trans rfl; have hcz17_2 : w15.cell? ⟨gb103, 2, none⟩ = some (.bool false) := (blk_cell BK103.out 2).trans rfl; have hcz17_3 : w15.cell? ⟨gb103, 3, none⟩ = some (.string (⟨#[]⟩ : ByteArray)) := (blk_cell BK103.out 3).trans rfl; have hcz17_4 : w15.cell? ⟨gb103, 4, none⟩ = some (.int .i64 0) := (blk_cell BK103.out 4).trans rfl; have hfz17_0 := blk_frozen BK103.out 0; have hfz17_1 := blk_frozen BK103.out 1; have hfz17_2 := blk_frozen BK103.out 2; have hfz17_3 := blk_frozen BK103.out 3; have hfz17_4 := blk_frozen BK103.out 4; obtain ⟨Ao18, co18, eo18⟩ := Kd.V_slice HO_2.out; subst eo18) | ((with_reducible refine gate_callee (f := 28) rfl ?_); refine goesL_ (some 29) rfl rfl Try.func28 (by kernel_rfl) rfl #[.agg #[.bool ((rd_T49 l0_1 x21_1).isVar), .string ((rd_T49 l0_1 x21_1).name), .bool ((rd_T49 l0_1 x21_1).val.isSym), .string ((rd_T49 l0_1 x21_1).val.sym), .int .i64 ((rd_T49 l0_1 x21_1).val.n)], .slice Ao18 x2_1.length co18] rfl (by (try simp only [List.map_toArray, List.map_cons, List.map_nil]); first | done | rfl | (simp only [List.length_drop, List.length_take]; rfl)) ?_; (with_reducible refine (subst_Value.calls ((rd_T49 l0_1 x21_1).isVar) ((rd_T49 l0_1 x21_1).name) ((rd_T49 l0_1 x21_1).val.isSym) ((rd_T49 l0_1 x21_1).val.sym) ((rd_T49 l0_1 x21_1).val.n) _ _ x2_1 t104 t105 t106 true _ ?side1 ?side2 A10.out).mono ?_); (case side1 => refine (Kd.V_reads' (e := 41) (base := w.heap.size) (ok := fun k_ => (((P2_ k_ ∨ w.heap.size ≤ k_) ∧ k_ ≠ gb101) ∧ k_ ≠ gb103)) (n := x2_1.length) (c := co18) ?_).2.2; exact (by (with_reducible repeat (first | apply Va | apply Vn | apply Vd)); exact (Kd.V_mono (Kd.V_far (p := ⟨gb103, 4, none⟩) (Kd.V_far (p := ⟨gb103, 3, none⟩) (Kd.V_far (p := ⟨gb103, 2, none⟩) (Kd.V_far (p := ⟨gb103, 1, none⟩) (Kd.V_far (p := ⟨gb103, 0, none⟩) (Kd.V_mono HO_2.out (fun k_ hk => (⟨hk, hk.2⟩ : _ ∧ k_ ≠ gb103))) (fun _ hk => hk.2) _) (fun _ hk => hk.2) _) (fun _ hk => hk.2) _) (fun _ hk => hk.2) _) (fun _ hk => hk.2) _) (fun _ h_ => h_.1)))); (case side2 => exact (Kd.V_reads' HO_2.out).2.1); rintro e w19 ⟨rfl, hb⟩; refine ⟨_, rfl, ?_⟩; replace HO_2 := am (Kd.V_below (by (with_reducible repeat (first | apply Va | apply Vn | apply Vd)); exact (Kd.V_mono (Kd.V_far (p := ⟨gb103, 4, none⟩) (Kd.V_far (p := ⟨gb103, 3, none⟩) (Kd.V_far (p := ⟨gb103, 2, none⟩) (Kd.V_far (p := ⟨gb103, 1, none⟩) (Kd.V_far (p := ⟨gb103, 0, none⟩) (Kd.V_mono HO_2.out (fun k_ hk => (⟨hk, hk.2⟩ : _ ∧ k_ ≠ gb103))) (fun _ hk => hk.2) _) (fun _ hk => hk.2) _) (fun _ hk => hk.2) _) (fun _ hk => hk.2) _) (fun _ hk => hk.2) _) (fun _ h_ => h_.1))) hb); replace BK101 := am (blk_below (g := gb101) (o := .cells #[.string a0_0, .slice (some ad102) l0_1.length c0_1] 46 (0, 0)) (by repeat (first | (with_reducible first | exact BK101.out | refine bN ?_ _ | refine bD ?_ | refine bA ?_ _) | refine blk_far ?_ NB101_103.out _ | exact BK101.out)) hb); replace BK103 := am (blk_below (g := gb103) (o := .cells #[.bool ((rd_T49 l0_1 x21_1).isVar), .string ((rd_T49 l0_1 x21_1).name), .bool ((rd_T49 l0_1 x21_1).val.isSym), .string ((rd_T49 l0_1 x21_1).val.sym), .int .i64 ((rd_T49 l0_1 x21_1).val.n)] 49 (0, 0)) (by (with_reducible repeat (first | refine bN ?_ _ | refine bD ?_ | refine bA ?_ _)); refine blk_put (cs := #[.bool ((rd_T49 l0_1 x21_1).isVar), .string ((rd_T49 l0_1 x21_1).name), .bool ((rd_T49 l0_1 x21_1).val.isSym), .string ((rd_T49 l0_1 x21_1).val.sym), .int .i64 0]) ?_ 4 _ rfl; (with_reducible repeat (first | refine bN ?_ _ | refine bD ?_ | refine bA ?_ _)); refine blk_put (cs := #[.bool ((rd_T49 l0_1 x21_1).isVar), .string ((rd_T49 l0_1 x21_1).name), .bool ((rd_T49 l0_1 x21_1).val.isSym), .string (⟨#[]⟩ : ByteArray), .int .i64 0]) ?_ 3 _ rfl; (with_reducible repeat (first | refine bN ?_ _ | refine bD ?_ | refine bA ?_ _)); refine blk_put (cs := #[.bool ((rd_T49 l0_1 x21_1).isVar), .string ((rd_T49 l0_1 x21_1).name), .bool false, .string (⟨#[]⟩ : ByteArray), .int .i64 0]) ?_ 2 _ rfl; (with_reducible repeat (first | refine bN ?_ _ | refine bD ?_ | refine bA ?_ _)); refine blk_put (cs := #[.bool ((rd_T49 l0_1 x21_1).isVar), .string (⟨#[]⟩ : ByteArray), .bool false, .string (⟨#[]⟩ : ByteArray), .int .i64 0]) ?_ 1 _ rfl; (with_reducible repeat (first | refine bN ?_ _ | refine bD ?_ | refine bA ?_ _)); refine blk_put (cs := #[.bool false, .string (⟨#[]⟩ : ByteArray), .bool false, .string (⟨#[]⟩ : ByteArray), .int .i64 0]) ?_ 0 _ rfl; (with_reducible repeat (first | refine bN ?_ _ | refine bD ?_ | refine bA ?_ _)); exact BK103.out) hb); replace HB := am (below_step (by repeat (first | (with_reducible first | exact HB.out | apply lA | apply lN | apply lD | refine lS ?_ GE101.out | refine lS ?_ GE103.out) | exact HB.out)) hb); (try clear hb); (try clear hb2); (try clear hk); (try clear hi)) | ((with_reducible refine gate_dst (N := 10) rfl ?_); refine box_event ?hg (N := 10) ?hd (cs := #[.bool false, .string (⟨#[]⟩ : ByteArray), .int .i64 0]) (t := 24) ?hr ?_; (case hd => rfl); (case hg => rfl); (case hr => first | (go_simp; done) | (go_simp; rfl)); intro gb108 hg w20 hbox hb; replace HO_2 := am (Kd.V_below (Kd.V_elderB (by (with_reducible repeat (first | apply Va | apply Vn | apply Vd)); exact HO_2.out) gb108 (Nat.le_of_eq hg.symm)) hb); have BK108 := am (hbox); have GW108 := am ((by rw [hg]; exact (below_size (by repeat (first | (with_reducible first | exact HB.out | apply lA | apply lN | apply lD | refine lS ?_ GE101.out | refine lS ?_ GE103.out) | exact HB.out))) : w.heap.size ≤ gb108)); have GE108 := am ((by rw [hg]; exact (below_size (by repeat (first | (with_reducible first | exact HB.out | apply lA | apply lN | apply lD | refine lS ?_ GE101.out | refine lS ?_ GE103.out) | exact HB.out))) : w.heap.size ≤ gb108)); replace HB := am (below_step (by repeat (first | (with_reducible first | exact HB.out | apply lA | apply lN | apply lD | refine lS ?_ GE101.out | refine lS ?_ GE103.out) | exact HB.out)) hb); have NB101_108 := am ((by rw [hg]; exact Nat.ne_of_lt (blk_lt (g := gb101) (o := .cells #[.string a0_0, .slice (some ad102) l0_1.length c0_1] 46 (0, 0)) (by (with_reducible repeat (first | refine bN ?_ _ | refine bD ?_ | refine bA ?_ _)); exact BK101.out)) : gb101 ≠ gb108)); have NB108_101 := am ((by rw [hg]; exact Nat.ne_of_gt (blk_lt (g := gb101) (o := .cells #[.string a0_0, .slice (some ad102) l0_1.length c0_1] 46 (0, 0)) (by (with_reducible repeat (first | refine bN ?_ _ | refine bD ?_ | refine bA ?_ _)); exact BK101.out)) : gb108 ≠ gb101)); replace BK101 := am (blk_below (g := gb101) (o := .cells #[.string a0_0, .slice (some ad102) l0_1.length c0_1] 46 (0, 0)) (by (with_reducible repeat (first | refine bN ?_ _ | refine bD ?_ | refine bA ?_ _)); exact BK101.out) hb); have NB103_108 := am ((by rw [hg]; exact Nat.ne_of_lt (blk_lt (g := gb103) (o := .cells #[.bool ((rd_T49 l0_1 x21_1).isVar), .string ((rd_T49 l0_1 x21_1).name), .bool ((rd_T49 l0_1 x21_1).val.isSym), .string ((rd_T49 l0_1 x21_1).val.sym), .int .i64 ((rd_T49 l0_1 x21_1).val.n)] 49 (0, 0)) (by (with_reducible repeat (first | refine bN ?_ _ | refine bD ?_ | refine bA ?_ _)); exact BK103.out)) : gb103 ≠ gb108)); have NB108_103 := am ((by rw [hg]; exact Nat.ne_of_gt (blk_lt (g := gb103) (o := .cells #[.bool ((rd_T49 l0_1 x21_1).isVar), .string ((rd_T49 l0_1 x21_1).name), .bool ((rd_T49 l0_1 x21_1).val.isSym), .string ((rd_T49 l0_1 x21_1).val.sym), .int .i64 ((rd_T49 l0_1 x21_1).val.n)] 49 (0, 0)) (by (with_reducible repeat (first | refine bN ?_ _ | refine bD ?_ | refine bA ?_ _)); exact BK103.out)) : gb108 ≠ gb103)); replace BK103 := am (blk_below (g := gb103) (o := .cells #[.bool ((rd_T49 l0_1 x21_1).isVar), .string ((rd_T49 l0_1 x21_1).name), .bool ((rd_T49 l0_1 x21_1).val.isSym), .string ((rd_T49 l0_1 x21_1).val.sym), .int .i64 ((rd_T49 l0_1 x21_1).val.n)] 49 (0, 0)) (by (with_reducible repeat (first | refine bN ?_ _ | refine bD ?_ | refine bA ?_ _)); exact BK103.out) hb); clear hb hbox hg; have hnb21 := NB108_101.out; have hnc21 := NB101_108.out; have hnb22 := NB108_103.out; have hnc22 := NB103_108.out; have hcz23_0 : w20.cell? ⟨gb108, 0, none⟩ = some (.bool false) := (blk_cell BK108.out 0).trans rfl; have hcz23_1 : w20.cell? ⟨gb108, 1, none⟩ = some (.string (⟨#[]⟩ : ByteArray)) := (blk_cell BK108.out 1).trans rfl; have hcz23_2 : w20.cell? ⟨gb108, 2, none⟩ = some (.int .i64 0) := (blk_cell BK108.out 2).trans rfl; have hfz23_0 := blk_frozen BK108.out 0; have hfz23_1 := blk_frozen BK108.out 1; have hfz23_2 := blk_frozen BK108.out 2))
          have n0_ : Aside0 (Kd.V k41 41 (((w20.setCell ⟨gb108, 0, none⟩ (.bool t104)).setCell ⟨gb108, 1, none⟩ (.string t105)).setCell ⟨gb108, 2, none⟩ (.int .i64 t106)) w.heap.size (fun k_ => (P2_ k_ ∨ w.heap.size ≤ k_) ∧ k_ ≠ gb101 ∧ k_ ≠ gb103 ∧ k_ ≠ gb108) (.slice Ao18 x2_1.length co18) x2_1) := ⟨by (with_reducible repeat (first | apply Va | apply Vn | apply Vd)); exact Kd.V_mono (Kd.V_far (p := ⟨gb108, 2, none⟩) (Kd.V_far (p := ⟨gb108, 1, none⟩) (Kd.V_far (p := ⟨gb108, 0, none⟩) (Kd.V_mono HO_2.out (fun k_ hk => (⟨hk, hk.2⟩ : _ ∧ k_ ≠ gb108))) (fun _ hk => hk.2) _) (fun _ hk => hk.2) _) (fun _ hk => hk.2) _) (fun _ hk => ⟨hk.1.1.1.1, ⟨hk.1.1.1.2, ⟨hk.1.1.2, hk.1.2⟩⟩⟩)⟩
          have n1_ : Aside0 ((((w20.setCell ⟨gb108, 0, none⟩ (.bool t104)).setCell ⟨gb108, 1, none⟩ (.string t105)).setCell ⟨gb108, 2, none⟩ (.int .i64 t106)).heap[gb101]? = some (.cells #[.string a0_0, .slice (some ad102) l0_1.length c0_1] 46 (0, 0))) := ⟨by repeat (first | (with_reducible first | exact BK101.out | refine bN ?_ _ | refine bD ?_ | refine bA ?_ _) | refine blk_far ?_ NB101_108.out _ | exact BK101.out)⟩
          have n2_ : Aside0 ((((w20.setCell ⟨gb108, 0, none⟩ (.bool t104)).setCell ⟨gb108, 1, none⟩ (.string t105)).setCell ⟨gb108, 2, none⟩ (.int .i64 t106)).heap[gb103]? = some (.cells #[.bool ((rd_T49 l0_1 x21_1).isVar), .string ((rd_T49 l0_1 x21_1).name), .bool ((rd_T49 l0_1 x21_1).val.isSym), .string ((rd_T49 l0_1 x21_1).val.sym), .int .i64 ((rd_T49 l0_1 x21_1).val.n)] 49 (0, 0))) := ⟨by repeat (first | (with_reducible first | exact BK103.out | refine bN ?_ _ | refine bD ?_ | refine bA ?_ _) | refine blk_far ?_ NB103_108.out _ | exact BK103.out)⟩
          have n3_ : Aside0 ((((w20.setCell ⟨gb108, 0, none⟩ (.bool t104)).setCell ⟨gb108, 1, none⟩ (.string t105)).setCell ⟨gb108, 2, none⟩ (.int .i64 t106)).heap[gb108]? = some (.cells #[.bool t104, .string t105, .int .i64 t106] 24 (0, 0))) := ⟨by (with_reducible repeat (first | refine bN ?_ _ | refine bD ?_ | refine bA ?_ _)); refine blk_put (cs := #[.bool t104, .string t105, .int .i64 0]) ?_ 2 _ rfl; (with_reducible repeat (first | refine bN ?_ _ | refine bD ?_ | refine bA ?_ _)); refine blk_put (cs := #[.bool t104, .string (⟨#[]⟩ : ByteArray), .int .i64 0]) ?_ 1 _ rfl; (with_reducible repeat (first | refine bN ?_ _ | refine bD ?_ | refine bA ?_ _)); refine blk_put (cs := #[.bool false, .string (⟨#[]⟩ : ByteArray), .int .i64 0]) ?_ 0 _ rfl; (with_reducible repeat (first | refine bN ?_ _ | refine bD ?_ | refine bA ?_ _)); exact BK108.out⟩
          have n4_ : Aside0 (Below w.heap.size w (((w20.setCell ⟨gb108, 0, none⟩ (.bool t104)).setCell ⟨gb108, 1, none⟩ (.string t105)).setCell ⟨gb108, 2, none⟩ (.int .i64 t106))) := ⟨by repeat (first | (with_reducible first | exact HB.out | apply lA | apply lN | apply lD | refine lS ?_ GE101.out | refine lS ?_ GE103.out | refine lS ?_ GE108.out) | exact HB.out)⟩
          (try clear HO_2)
          (try clear BK101)
          (try clear BK103)
          (try clear BK108)
          (try clear HB)
          generalize (((w20.setCell ⟨gb108, 0, none⟩ (.bool t104)).setCell ⟨gb108, 1, none⟩ (.string t105)).setCell ⟨gb108, 2, none⟩ (.int .i64 t106)) = w24 at n0_ n1_ n2_ n3_ n4_ ⊢
          have HO_2 := n0_
          have BK101 := n1_
          have BK103 := n2_
          have BK108 := n3_
          have HB := n4_
          clear n0_ n1_ n2_ n3_ n4_
          replace HO_2 := am (Kd.V_drew HO_2.out)
          replace BK101 := am (blk_drew BK101.out)
          replace BK103 := am (blk_drew BK103.out)
          replace BK108 := am (blk_drew BK108.out)
          replace HB := am (below_drew1 HB.out)
          have p109 : 0 ≤ (x21_1 : Int) := of_decide_eq_true (by first | (with_reducible assumption) | assumption)
          have q109 : x21_1 < (l1.length : Int) := of_decide_eq_true (by first | (with_reducible assumption) | assumption)
          obtain ⟨ad109, e109, hx109_0, hx109_1, hx109_2⟩ := at_T24 HR1.out x21_1 p109 q109
          have hw109_2 := hx109_2
          have hw109_1 := hx109_1
          have hw109_0 := hx109_0
          cases e109
          replace hx109_0 := (HB.out.cell (blt_ hx109_0)).trans hx109_0
          replace hx109_1 := (HB.out.cell (blt_ hx109_1)).trans hx109_1
          replace hx109_2 := (HB.out.cell (blt_ hx109_2)).trans hx109_2
          replace p109 := eq_true p109
          replace q109 := eq_true q109
          refine start_ (n := 8) (S := fun w' => w'.cell? ⟨gb108, 0, none⟩ = some (.bool t104) ∧ w'.cell? ⟨gb108, 1, none⟩ = some (.string t105) ∧ w'.cell? ⟨gb108, 2, none⟩ = some (.int .i64 t106) ∧ w'.cell? (ad109.add ((x21_1).toNat * 3)) = some (.bool ((rd_T24 l1 x21_1).isSym)) ∧ w'.cell? ⟨(ad109.add ((x21_1).toNat * 3)).block, (ad109.add ((x21_1).toNat * 3)).off + 1, none⟩ = some (.string ((rd_T24 l1 x21_1).sym)) ∧ w'.cell? ⟨(ad109.add ((x21_1).toNat * 3)).block, (ad109.add ((x21_1).toNat * 3)).off + 2, none⟩ = some (.int .i64 ((rd_T24 l1 x21_1).n))) (ds := []) (bl 8 0) (by kernel_rfl) rfl rfl ⟨(blk_cell BK108.out 0).trans rfl, (blk_cell BK108.out 1).trans rfl, (blk_cell BK108.out 2).trans rfl, ((HB.out.cell (blt_ hw109_0)).trans hw109_0), ((HB.out.cell (blt_ hw109_1)).trans hw109_1), ((HB.out.cell (blt_ hw109_2)).trans hw109_2)⟩ (fun hHeld => ?_); refine with_tabW subst_Match.tab9 subst_Match.bits9 (fun HT_ HW_ => ?_)
          generalize w24.drew = w25 at HO_2 BK101 BK103 BK108 HB hx109_0 hx109_1 hx109_2 hHeld ⊢
          refine pure_ (i := 1) (N := some 45) (v := ?_) (a' := ?_) (bl 8 2) rfl rfl (any_of HT_.out (by kernel_rfl)) (fun _ _ _ h => h) (Or.inl ⟨by rfl, ?_⟩) ?_ ?_
          rotate_left
          ·intro w'
           go_simp
           with_reducible rfl
          rotate_left
          ·simp only [Act.put, sA, sZ, sS, i64_w, i32_w]
           rfl
          refine pure_ (i := 2) (N := some 46) (v := ?_) (a' := ?_) (bl 8 6) rfl rfl (any_of HT_.out (by kernel_rfl)) (fun _ _ _ h => h) (Or.inl ⟨by rfl, ?_⟩) ?_ ?_
          rotate_left
          ·intro w'
           go_simp
           with_reducible rfl
          rotate_left
          ·simp only [Act.put, sA, sZ, sS, i64_w, i32_w]
           rfl
          refine pure_ (i := 3) (N := some 47) (v := ?_) (a' := ?_) (bl 8 14) rfl rfl (any_of HT_.out (by kernel_rfl)) (fun _ _ _ h => h) (Or.inl ⟨by rfl, ?_⟩) ?_ ?_
          rotate_left
          ·intro w'
           go_simp
           with_reducible rfl
          rotate_left
          ·simp only [Act.put, sA, sZ, sS, i64_w, i32_w]
           rfl
          refine take_ (i := 0) (N := some 44) (v := ?_) (a' := ?_) (bl 8 15) rfl rfl (take_ofW HT_.out HW_.out (by kernel_rfl)) (fun _ _ _ h => h) (Or.inl ⟨by rfl, ?_⟩) hHeld ?_ ?_
          rotate_left
          ·rintro w' ⟨s0, s1, s2, s3, s4, s5⟩
           go_simp
           with_reducible rfl
          rotate_left
          ·simp only [Act.put, sA, sZ, sS, i64_w, i32_w]
           rfl
          refine take_ (i := 4) (N := some 48) (v := ?_) (a' := ?_) (bl 8 31) rfl rfl (take_ofW HT_.out HW_.out (by kernel_rfl)) (fun _ _ _ h => h) (Or.inl ⟨by rfl, ?_⟩) hHeld ?_ ?_
          rotate_left
          ·rintro w' ⟨s0, s1, s2, s3, s4, s5⟩
           go_simp
           with_reducible rfl
          rotate_left
          ·simp only [Act.put, sA, sZ, sS, i64_w, i32_w]
           rfl
          refine one_ (i := 5) (N := some 49) (bl 8 63) rfl rfl (one_of HT_.out (by kernel_rfl)) (by decide) (fun K hK => ?_)
          refine goes_ Try.func41 (by kernel_rfl) rfl #[.agg #[.bool t104, .string t105, .int .i64 t106], .agg #[.bool ((rd_T24 l1 x21_1).isSym), .string ((rd_T24 l1 x21_1).sym), .int .i64 ((rd_T24 l1 x21_1).n)]] (by rfl) rfl rfl (by (try simp only [List.map_toArray, List.map_cons, List.map_nil]); first | done | rfl | (simp only [List.length_drop, List.length_take]; rfl)) ?_
          with_reducible refine (value_Same.calls k1 t104 t105 t106 ((rd_T24 l1 x21_1).isSym) ((rd_T24 l1 x21_1).sym) ((rd_T24 l1 x21_1).n) true _ A13.out).mono ?_
          rintro e w26 ⟨rfl, hb⟩
          refine ⟨_, rfl, ?_⟩
          replace HO_2 := am (Kd.V_below (by (with_reducible repeat (first | apply Va | apply Vn | apply Vd)); exact HO_2.out) hb)
          replace BK101 := am (blk_below (g := gb101) (o := .cells #[.string a0_0, .slice (some ad102) l0_1.length c0_1] 46 (0, 0)) (by (with_reducible repeat (first | refine bN ?_ _ | refine bD ?_ | refine bA ?_ _)); exact BK101.out) hb)
          replace BK103 := am (blk_below (g := gb103) (o := .cells #[.bool ((rd_T49 l0_1 x21_1).isVar), .string ((rd_T49 l0_1 x21_1).name), .bool ((rd_T49 l0_1 x21_1).val.isSym), .string ((rd_T49 l0_1 x21_1).val.sym), .int .i64 ((rd_T49 l0_1 x21_1).val.n)] 49 (0, 0)) (by (with_reducible repeat (first | refine bN ?_ _ | refine bD ?_ | refine bA ?_ _)); exact BK103.out) hb)
          replace BK108 := am (blk_below (g := gb108) (o := .cells #[.bool t104, .string t105, .int .i64 t106] 24 (0, 0)) (by (with_reducible repeat (first | refine bN ?_ _ | refine bD ?_ | refine bA ?_ _)); exact BK108.out) hb)
          replace HB := am (below_step (by repeat (first | (with_reducible first | exact HB.out | apply lA | apply lN | apply lD | refine lS ?_ GE101.out | refine lS ?_ GE103.out | refine lS ?_ GE108.out) | exact HB.out)) hb)
          (try clear hb)
          (try clear hb2)
          (try clear hk)
          (try clear hi)
          refine hK.out _ _ ⟨(blk_cell BK108.out 0).trans rfl, (blk_cell BK108.out 1).trans rfl, (blk_cell BK108.out 2).trans rfl, ((HB.out.cell (blt_ hw109_0)).trans hw109_0), ((HB.out.cell (blt_ hw109_1)).trans hw109_1), ((HB.out.cell (blt_ hw109_2)).trans hw109_2)⟩ (fun hHeld => ?_)
          clear hK K
          refine norm_ (a' := ?_) ?_ ?_
          rotate_left
          ·show Act.put _ (some 49) _ = _
           simp only [Act.put, sA, sZ, sS, i64_w, i32_w]
           rfl
          refine pure_ (i := 6) (N := some 50) (v := ?_) (a' := ?_) (bl 8 127) rfl rfl (any_of HT_.out (by kernel_rfl)) (fun _ _ _ h => h) (Or.inl ⟨by rfl, ?_⟩) ?_ ?_
          rotate_left
          ·intro w'
           go_simp
           with_reducible rfl
          rotate_left
          ·simp only [Act.put, sA, sZ, sS, i64_w, i32_w]
           rfl
          refine pure_ (i := 7) (N := some 43) (v := ?_) (a' := ?_) (bl 8 255) rfl rfl (any_of HT_.out (by kernel_rfl)) (fun _ _ _ h => h) (Or.inl ⟨by rfl, ?_⟩) ?_ ?_
          rotate_left
          ·intro w'
           go_simp
           with_reducible rfl
          rotate_left
          ·simp only [Act.put, sA, sZ, sS, i64_w, i32_w]
           rfl
          refine done_ (done_of HT_.out (by kernel_rfl)) ?_
          try go_wp2
          go_roundg k1
          case measure => have := HK1.out; omega
          case rel => exact ⟨(x2_1), (wrap64 (x21_1 + 1)), (by first | rfl | (simp; done) | (simp [*]; done)), H', ⟨by have := HK1.out; omega⟩, ⟨by (with_reducible repeat (first | apply Va | apply Vn | apply Vd)); exact Kd.V_mono HO_2.out (fun _ hk => ⟨hk.1, hk.2.1⟩)⟩, ⟨by (with_reducible repeat (first | refine bN ?_ _ | refine bD ?_ | refine bA ?_ _)); exact BK101.out⟩, ⟨by repeat (first | (with_reducible first | exact HB.out | apply lA | apply lN | apply lD | refine lS ?_ GE101.out | refine lS ?_ GE103.out | refine lS ?_ GE108.out) | exact HB.out)⟩⟩
         ·replace c14 := Bool.eq_false_iff.mpr c14
          subst c14
          have H1 : (some (([] : List (Pair)), false)) = some (r1, r2) := by rw [if_neg (show ¬ (false = true) by decide)] at H; exact H
          clear H
          have H := H1
          clear H1
          simp only [Option.some.injEq, Prod.mk.injEq] at H
          obtain ⟨rfl, rfl⟩ := H
          have p102 : 0 ≤ (x21_1 : Int) := of_decide_eq_true (by first | (with_reducible assumption) | assumption)
          have q102 : x21_1 < (l0_1.length : Int) := of_decide_eq_true (by first | (with_reducible assumption) | assumption)
          obtain ⟨ad102, e102, hx102_0, hx102_1, hx102_2, hx102_3, hx102_4⟩ := at_T49 HR0_1.out x21_1 p102 q102
          cases e102
          replace hx102_0 := (HB.out.cell (blt_ hx102_0)).trans hx102_0
          replace hx102_1 := (HB.out.cell (blt_ hx102_1)).trans hx102_1
          replace hx102_2 := (HB.out.cell (blt_ hx102_2)).trans hx102_2
          replace hx102_3 := (HB.out.cell (blt_ hx102_3)).trans hx102_3
          replace hx102_4 := (HB.out.cell (blt_ hx102_4)).trans hx102_4
          replace p102 := eq_true p102
          replace q102 := eq_true q102
          try go_wp2_with (first | ((with_reducible refine gate_dst (N := 9) rfl ?_); refine box_event ?hg (N := 9) ?hd (cs := #[.bool false, .string (⟨#[]⟩ : ByteArray), .bool false, .string (⟨#[]⟩ : ByteArray), .int .i64 0]) (t := 49) ?hr ?_; (case hd => rfl); (case hg => rfl); (case hr => first | (go_simp; done) | (go_simp; rfl)); intro gb103 hg w27 hbox hb; replace HO_2 := am (Kd.V_below (Kd.V_elderB (by (with_reducible repeat (first | apply Va | apply Vn | apply Vd)); exact HO_2.out) gb103 (Nat.le_of_eq hg.symm)) hb); have BK103 := am (hbox); have GW103 := am ((by rw [hg]; exact (below_size (by repeat (first | (with_reducible first | exact HB.out | apply lA | apply lN | apply lD | refine lS ?_ GE101.out) | exact HB.out))) : w.heap.size ≤ gb103)); have GE103 := am ((by rw [hg]; exact (below_size (by repeat (first | (with_reducible first | exact HB.out | apply lA | apply lN | apply lD | refine lS ?_ GE101.out) | exact HB.out))) : w.heap.size ≤ gb103)); replace HB := am (below_step (by repeat (first | (with_reducible first | exact HB.out | apply lA | apply lN | apply lD | refine lS ?_ GE101.out) | exact HB.out)) hb); have NB101_103 := am ((by rw [hg]; exact Nat.ne_of_lt (blk_lt (g := gb101) (o := .cells #[.string a0_0, .slice (some ad102) l0_1.length c0_1] 46 (0, 0)) (by (with_reducible repeat (first | refine bN ?_ _ | refine bD ?_ | refine bA ?_ _)); exact BK101.out)) : gb101 ≠ gb103)); have NB103_101 := am ((by rw [hg]; exact Nat.ne_of_gt (blk_lt (g := gb101) (o := .cells #[.string a0_0, .slice (some ad102) l0_1.length c0_1] 46 (0, 0)) (by (with_reducible repeat (first | refine bN ?_ _ | refine bD ?_ | refine bA ?_ _)); exact BK101.out)) : gb103 ≠ gb101)); replace BK101 := am (blk_below (g := gb101) (o := .cells #[.string a0_0, .slice (some ad102) l0_1.length c0_1] 46 (0, 0)) (by (with_reducible repeat (first | refine bN ?_ _ | refine bD ?_ | refine bA ?_ _)); exact BK101.out) hb); clear hb hbox hg; have hnb28 := NB103_101.out; have hnc28 := NB101_103.out; have hcz29_0 : w27.cell? ⟨gb103, 0, none⟩ = some (.bool false) := (blk_cell BK103.out 0).trans rfl; have hcz29_1 : w27.cell? ⟨gb103, 1, none⟩ = some (.string (⟨#[]⟩ : ByteArray)) := (blk_cell BK103.out 1).trans rfl; have hcz29_2 : w27.cell? ⟨gb103, 2, none⟩ = some (.bool false) := (blk_cell BK103.out 2).trans rfl; have hcz29_3 : w27.cell? ⟨gb103, 3, none⟩ = some (.string (⟨#[]⟩ : ByteArray)) := (blk_cell BK103.out 3).trans rfl; have hcz29_4 : w27.cell? ⟨gb103, 4, none⟩ = some (.int .i64 0) := (blk_cell BK103.out 4).trans rfl; have hfz29_0 := blk_frozen BK103.out 0; have hfz29_1 := blk_frozen BK103.out 1; have hfz29_2 := blk_frozen BK103.out 2; have hfz29_3 := blk_frozen BK103.out 3; have hfz29_4 := blk_frozen BK103.out 4; obtain ⟨Ao30, co30, eo30⟩ := Kd.V_slice HO_2.out; subst eo30) | ((with_reducible refine gate_callee (f := 28) rfl ?_); refine goesL_ (some 29) rfl rfl Try.func28 (by kernel_rfl) rfl #[.agg #[.bool ((rd_T49 l0_1 x21_1).isVar), .string ((rd_T49 l0_1 x21_1).name), .bool ((rd_T49 l0_1 x21_1).val.isSym), .string ((rd_T49 l0_1 x21_1).val.sym), .int .i64 ((rd_T49 l0_1 x21_1).val.n)], .slice Ao30 x2_1.length co30] rfl (by (try simp only [List.map_toArray, List.map_cons, List.map_nil]); first | done | rfl | (simp only [List.length_drop, List.length_take]; rfl)) ?_; (with_reducible refine (subst_Value.calls ((rd_T49 l0_1 x21_1).isVar) ((rd_T49 l0_1 x21_1).name) ((rd_T49 l0_1 x21_1).val.isSym) ((rd_T49 l0_1 x21_1).val.sym) ((rd_T49 l0_1 x21_1).val.n) _ _ x2_1 t104 t105 t106 true _ ?side1 ?side2 A10.out).mono ?_); (case side1 => refine (Kd.V_reads' (e := 41) (base := w.heap.size) (ok := fun k_ => (((P2_ k_ ∨ w.heap.size ≤ k_) ∧ k_ ≠ gb101) ∧ k_ ≠ gb103)) (n := x2_1.length) (c := co30) ?_).2.2; exact (by (with_reducible repeat (first | apply Va | apply Vn | apply Vd)); exact (Kd.V_mono (Kd.V_far (p := ⟨gb103, 4, none⟩) (Kd.V_far (p := ⟨gb103, 3, none⟩) (Kd.V_far (p := ⟨gb103, 2, none⟩) (Kd.V_far (p := ⟨gb103, 1, none⟩) (Kd.V_far (p := ⟨gb103, 0, none⟩) (Kd.V_mono HO_2.out (fun k_ hk => (⟨hk, hk.2⟩ : _ ∧ k_ ≠ gb103))) (fun _ hk => hk.2) _) (fun _ hk => hk.2) _) (fun _ hk => hk.2) _) (fun _ hk => hk.2) _) (fun _ hk => hk.2) _) (fun _ h_ => h_.1)))); (case side2 => exact (Kd.V_reads' HO_2.out).2.1); rintro e w31 ⟨rfl, hb⟩; refine ⟨_, rfl, ?_⟩; replace HO_2 := am (Kd.V_below (by (with_reducible repeat (first | apply Va | apply Vn | apply Vd)); exact (Kd.V_mono (Kd.V_far (p := ⟨gb103, 4, none⟩) (Kd.V_far (p := ⟨gb103, 3, none⟩) (Kd.V_far (p := ⟨gb103, 2, none⟩) (Kd.V_far (p := ⟨gb103, 1, none⟩) (Kd.V_far (p := ⟨gb103, 0, none⟩) (Kd.V_mono HO_2.out (fun k_ hk => (⟨hk, hk.2⟩ : _ ∧ k_ ≠ gb103))) (fun _ hk => hk.2) _) (fun _ hk => hk.2) _) (fun _ hk => hk.2) _) (fun _ hk => hk.2) _) (fun _ hk => hk.2) _) (fun _ h_ => h_.1))) hb); replace BK101 := am (blk_below (g := gb101) (o := .cells #[.string a0_0, .slice (some ad102) l0_1.length c0_1] 46 (0, 0)) (by repeat (first | (with_reducible first | exact BK101.out | refine bN ?_ _ | refine bD ?_ | refine bA ?_ _) | refine blk_far ?_ NB101_103.out _ | exact BK101.out)) hb); replace BK103 := am (blk_below (g := gb103) (o := .cells #[.bool ((rd_T49 l0_1 x21_1).isVar), .string ((rd_T49 l0_1 x21_1).name), .bool ((rd_T49 l0_1 x21_1).val.isSym), .string ((rd_T49 l0_1 x21_1).val.sym), .int .i64 ((rd_T49 l0_1 x21_1).val.n)] 49 (0, 0)) (by (with_reducible repeat (first | refine bN ?_ _ | refine bD ?_ | refine bA ?_ _)); refine blk_put (cs := #[.bool ((rd_T49 l0_1 x21_1).isVar), .string ((rd_T49 l0_1 x21_1).name), .bool ((rd_T49 l0_1 x21_1).val.isSym), .string ((rd_T49 l0_1 x21_1).val.sym), .int .i64 0]) ?_ 4 _ rfl; (with_reducible repeat (first | refine bN ?_ _ | refine bD ?_ | refine bA ?_ _)); refine blk_put (cs := #[.bool ((rd_T49 l0_1 x21_1).isVar), .string ((rd_T49 l0_1 x21_1).name), .bool ((rd_T49 l0_1 x21_1).val.isSym), .string (⟨#[]⟩ : ByteArray), .int .i64 0]) ?_ 3 _ rfl; (with_reducible repeat (first | refine bN ?_ _ | refine bD ?_ | refine bA ?_ _)); refine blk_put (cs := #[.bool ((rd_T49 l0_1 x21_1).isVar), .string ((rd_T49 l0_1 x21_1).name), .bool false, .string (⟨#[]⟩ : ByteArray), .int .i64 0]) ?_ 2 _ rfl; (with_reducible repeat (first | refine bN ?_ _ | refine bD ?_ | refine bA ?_ _)); refine blk_put (cs := #[.bool ((rd_T49 l0_1 x21_1).isVar), .string (⟨#[]⟩ : ByteArray), .bool false, .string (⟨#[]⟩ : ByteArray), .int .i64 0]) ?_ 1 _ rfl; (with_reducible repeat (first | refine bN ?_ _ | refine bD ?_ | refine bA ?_ _)); refine blk_put (cs := #[.bool false, .string (⟨#[]⟩ : ByteArray), .bool false, .string (⟨#[]⟩ : ByteArray), .int .i64 0]) ?_ 0 _ rfl; (with_reducible repeat (first | refine bN ?_ _ | refine bD ?_ | refine bA ?_ _)); exact BK103.out) hb); replace HB := am (below_step (by repeat (first | (with_reducible first | exact HB.out | apply lA | apply lN | apply lD | refine lS ?_ GE101.out | refine lS ?_ GE103.out) | exact HB.out)) hb); (try clear hb); (try clear hb2); (try clear hk); (try clear hi)) | ((with_reducible refine gate_dst (N := 10) rfl ?_); refine box_event ?hg (N := 10) ?hd (cs := #[.bool false, .string (⟨#[]⟩ : ByteArray), .int .i64 0]) (t := 24) ?hr ?_; (case hd => rfl); (case hg => rfl); (case hr => first | (go_simp; done) | (go_simp; rfl)); intro gb108 hg w32 hbox hb; replace HO_2 := am (Kd.V_below (Kd.V_elderB (by (with_reducible repeat (first | apply Va | apply Vn | apply Vd)); exact HO_2.out) gb108 (Nat.le_of_eq hg.symm)) hb); have BK108 := am (hbox); have GW108 := am ((by rw [hg]; exact (below_size (by repeat (first | (with_reducible first | exact HB.out | apply lA | apply lN | apply lD | refine lS ?_ GE101.out | refine lS ?_ GE103.out) | exact HB.out))) : w.heap.size ≤ gb108)); have GE108 := am ((by rw [hg]; exact (below_size (by repeat (first | (with_reducible first | exact HB.out | apply lA | apply lN | apply lD | refine lS ?_ GE101.out | refine lS ?_ GE103.out) | exact HB.out))) : w.heap.size ≤ gb108)); replace HB := am (below_step (by repeat (first | (with_reducible first | exact HB.out | apply lA | apply lN | apply lD | refine lS ?_ GE101.out | refine lS ?_ GE103.out) | exact HB.out)) hb); have NB101_108 := am ((by rw [hg]; exact Nat.ne_of_lt (blk_lt (g := gb101) (o := .cells #[.string a0_0, .slice (some ad102) l0_1.length c0_1] 46 (0, 0)) (by (with_reducible repeat (first | refine bN ?_ _ | refine bD ?_ | refine bA ?_ _)); exact BK101.out)) : gb101 ≠ gb108)); have NB108_101 := am ((by rw [hg]; exact Nat.ne_of_gt (blk_lt (g := gb101) (o := .cells #[.string a0_0, .slice (some ad102) l0_1.length c0_1] 46 (0, 0)) (by (with_reducible repeat (first | refine bN ?_ _ | refine bD ?_ | refine bA ?_ _)); exact BK101.out)) : gb108 ≠ gb101)); replace BK101 := am (blk_below (g := gb101) (o := .cells #[.string a0_0, .slice (some ad102) l0_1.length c0_1] 46 (0, 0)) (by (with_reducible repeat (first | refine bN ?_ _ | refine bD ?_ | refine bA ?_ _)); exact BK101.out) hb); have NB103_108 := am ((by rw [hg]; exact Nat.ne_of_lt (blk_lt (g := gb103) (o := .cells #[.bool ((rd_T49 l0_1 x21_1).isVar), .string ((rd_T49 l0_1 x21_1).name), .bool ((rd_T49 l0_1 x21_1).val.isSym), .string ((rd_T49 l0_1 x21_1).val.sym), .int .i64 ((rd_T49 l0_1 x21_1).val.n)] 49 (0, 0)) (by (with_reducible repeat (first | refine bN ?_ _ | refine bD ?_ | refine bA ?_ _)); exact BK103.out)) : gb103 ≠ gb108)); have NB108_103 := am ((by rw [hg]; exact Nat.ne_of_gt (blk_lt (g := gb103) (o := .cells #[.bool ((rd_T49 l0_1 x21_1).isVar), .string ((rd_T49 l0_1 x21_1).name), .bool ((rd_T49 l0_1 x21_1).val.isSym), .string ((rd_T49 l0_1 x21_1).val.sym), .int .i64 ((rd_T49 l0_1 x21_1).val.n)] 49 (0, 0)) (by (with_reducible repeat (first | refine bN ?_ _ | refine bD ?_ | refine bA ?_ _)); exact BK103.out)) : gb108 ≠ gb103)); replace BK103 := am (blk_below (g := gb103) (o := .cells #[.bool ((rd_T49 l0_1 x21_1).isVar), .string ((rd_T49 l0_1 x21_1).name), .bool ((rd_T49 l0_1 x21_1).val.isSym), .string ((rd_T49 l0_1 x21_1).val.sym), .int .i64 ((rd_T49 l0_1 x21_1).val.n)] 49 (0, 0)) (by (with_reducible repeat (first | refine bN ?_ _ | refine bD ?_ | refine bA ?_ _)); exact BK103.out) hb); clear hb hbox hg; have hnb33 := NB108_101.out; have hnc33 := NB101_108.out; have hnb34 := NB108_103.out; have hnc34 := NB103_108.out; have hcz35_0 : w32.cell? ⟨gb108, 0, none⟩ = some (.bool false) := (blk_cell BK108.out 0).trans rfl; have hcz35_1 : w32.cell? ⟨gb108, 1, none⟩ = some (.string (⟨#[]⟩ : ByteArray)) := (blk_cell BK108.out 1).trans rfl; have hcz35_2 : w32.cell? ⟨gb108, 2, none⟩ = some (.int .i64 0) := (blk_cell BK108.out 2).trans rfl; have hfz35_0 := blk_frozen BK108.out 0; have hfz35_1 := blk_frozen BK108.out 1; have hfz35_2 := blk_frozen BK108.out 2))
          have n0_ : Aside0 (Kd.V k41 41 (((w32.setCell ⟨gb108, 0, none⟩ (.bool t104)).setCell ⟨gb108, 1, none⟩ (.string t105)).setCell ⟨gb108, 2, none⟩ (.int .i64 t106)) w.heap.size (fun k_ => (P2_ k_ ∨ w.heap.size ≤ k_) ∧ k_ ≠ gb101 ∧ k_ ≠ gb103 ∧ k_ ≠ gb108) (.slice Ao30 x2_1.length co30) x2_1) := ⟨by (with_reducible repeat (first | apply Va | apply Vn | apply Vd)); exact Kd.V_mono (Kd.V_far (p := ⟨gb108, 2, none⟩) (Kd.V_far (p := ⟨gb108, 1, none⟩) (Kd.V_far (p := ⟨gb108, 0, none⟩) (Kd.V_mono HO_2.out (fun k_ hk => (⟨hk, hk.2⟩ : _ ∧ k_ ≠ gb108))) (fun _ hk => hk.2) _) (fun _ hk => hk.2) _) (fun _ hk => hk.2) _) (fun _ hk => ⟨hk.1.1.1.1, ⟨hk.1.1.1.2, ⟨hk.1.1.2, hk.1.2⟩⟩⟩)⟩
          have n1_ : Aside0 ((((w32.setCell ⟨gb108, 0, none⟩ (.bool t104)).setCell ⟨gb108, 1, none⟩ (.string t105)).setCell ⟨gb108, 2, none⟩ (.int .i64 t106)).heap[gb101]? = some (.cells #[.string a0_0, .slice (some ad102) l0_1.length c0_1] 46 (0, 0))) := ⟨by repeat (first | (with_reducible first | exact BK101.out | refine bN ?_ _ | refine bD ?_ | refine bA ?_ _) | refine blk_far ?_ NB101_108.out _ | exact BK101.out)⟩
          have n2_ : Aside0 ((((w32.setCell ⟨gb108, 0, none⟩ (.bool t104)).setCell ⟨gb108, 1, none⟩ (.string t105)).setCell ⟨gb108, 2, none⟩ (.int .i64 t106)).heap[gb103]? = some (.cells #[.bool ((rd_T49 l0_1 x21_1).isVar), .string ((rd_T49 l0_1 x21_1).name), .bool ((rd_T49 l0_1 x21_1).val.isSym), .string ((rd_T49 l0_1 x21_1).val.sym), .int .i64 ((rd_T49 l0_1 x21_1).val.n)] 49 (0, 0))) := ⟨by repeat (first | (with_reducible first | exact BK103.out | refine bN ?_ _ | refine bD ?_ | refine bA ?_ _) | refine blk_far ?_ NB103_108.out _ | exact BK103.out)⟩
          have n3_ : Aside0 ((((w32.setCell ⟨gb108, 0, none⟩ (.bool t104)).setCell ⟨gb108, 1, none⟩ (.string t105)).setCell ⟨gb108, 2, none⟩ (.int .i64 t106)).heap[gb108]? = some (.cells #[.bool t104, .string t105, .int .i64 t106] 24 (0, 0))) := ⟨by (with_reducible repeat (first | refine bN ?_ _ | refine bD ?_ | refine bA ?_ _)); refine blk_put (cs := #[.bool t104, .string t105, .int .i64 0]) ?_ 2 _ rfl; (with_reducible repeat (first | refine bN ?_ _ | refine bD ?_ | refine bA ?_ _)); refine blk_put (cs := #[.bool t104, .string (⟨#[]⟩ : ByteArray), .int .i64 0]) ?_ 1 _ rfl; (with_reducible repeat (first | refine bN ?_ _ | refine bD ?_ | refine bA ?_ _)); refine blk_put (cs := #[.bool false, .string (⟨#[]⟩ : ByteArray), .int .i64 0]) ?_ 0 _ rfl; (with_reducible repeat (first | refine bN ?_ _ | refine bD ?_ | refine bA ?_ _)); exact BK108.out⟩
          have n4_ : Aside0 (Below w.heap.size w (((w32.setCell ⟨gb108, 0, none⟩ (.bool t104)).setCell ⟨gb108, 1, none⟩ (.string t105)).setCell ⟨gb108, 2, none⟩ (.int .i64 t106))) := ⟨by repeat (first | (with_reducible first | exact HB.out | apply lA | apply lN | apply lD | refine lS ?_ GE101.out | refine lS ?_ GE103.out | refine lS ?_ GE108.out) | exact HB.out)⟩
          (try clear HO_2)
          (try clear BK101)
          (try clear BK103)
          (try clear BK108)
          (try clear HB)
          generalize (((w32.setCell ⟨gb108, 0, none⟩ (.bool t104)).setCell ⟨gb108, 1, none⟩ (.string t105)).setCell ⟨gb108, 2, none⟩ (.int .i64 t106)) = w36 at n0_ n1_ n2_ n3_ n4_ ⊢
          have HO_2 := n0_
          have BK101 := n1_
          have BK103 := n2_
          have BK108 := n3_
          have HB := n4_
          clear n0_ n1_ n2_ n3_ n4_
          replace HO_2 := am (Kd.V_drew HO_2.out)
          replace BK101 := am (blk_drew BK101.out)
          replace BK103 := am (blk_drew BK103.out)
          replace BK108 := am (blk_drew BK108.out)
          replace HB := am (below_drew1 HB.out)
          have p109 : 0 ≤ (x21_1 : Int) := of_decide_eq_true (by first | (with_reducible assumption) | assumption)
          have q109 : x21_1 < (l1.length : Int) := of_decide_eq_true (by first | (with_reducible assumption) | assumption)
          obtain ⟨ad109, e109, hx109_0, hx109_1, hx109_2⟩ := at_T24 HR1.out x21_1 p109 q109
          have hw109_2 := hx109_2
          have hw109_1 := hx109_1
          have hw109_0 := hx109_0
          cases e109
          replace hx109_0 := (HB.out.cell (blt_ hx109_0)).trans hx109_0
          replace hx109_1 := (HB.out.cell (blt_ hx109_1)).trans hx109_1
          replace hx109_2 := (HB.out.cell (blt_ hx109_2)).trans hx109_2
          replace p109 := eq_true p109
          replace q109 := eq_true q109
          refine start_ (n := 8) (S := fun w' => w'.cell? ⟨gb108, 0, none⟩ = some (.bool t104) ∧ w'.cell? ⟨gb108, 1, none⟩ = some (.string t105) ∧ w'.cell? ⟨gb108, 2, none⟩ = some (.int .i64 t106) ∧ w'.cell? (ad109.add ((x21_1).toNat * 3)) = some (.bool ((rd_T24 l1 x21_1).isSym)) ∧ w'.cell? ⟨(ad109.add ((x21_1).toNat * 3)).block, (ad109.add ((x21_1).toNat * 3)).off + 1, none⟩ = some (.string ((rd_T24 l1 x21_1).sym)) ∧ w'.cell? ⟨(ad109.add ((x21_1).toNat * 3)).block, (ad109.add ((x21_1).toNat * 3)).off + 2, none⟩ = some (.int .i64 ((rd_T24 l1 x21_1).n))) (ds := []) (bl 8 0) (by kernel_rfl) rfl rfl ⟨(blk_cell BK108.out 0).trans rfl, (blk_cell BK108.out 1).trans rfl, (blk_cell BK108.out 2).trans rfl, ((HB.out.cell (blt_ hw109_0)).trans hw109_0), ((HB.out.cell (blt_ hw109_1)).trans hw109_1), ((HB.out.cell (blt_ hw109_2)).trans hw109_2)⟩ (fun hHeld => ?_); refine with_tabW subst_Match.tab9 subst_Match.bits9 (fun HT_ HW_ => ?_)
          generalize w36.drew = w37 at HO_2 BK101 BK103 BK108 HB hx109_0 hx109_1 hx109_2 hHeld ⊢
          refine pure_ (i := 1) (N := some 45) (v := ?_) (a' := ?_) (bl 8 2) rfl rfl (any_of HT_.out (by kernel_rfl)) (fun _ _ _ h => h) (Or.inl ⟨by rfl, ?_⟩) ?_ ?_
          rotate_left
          ·intro w'
           go_simp
           with_reducible rfl
          rotate_left
          ·simp only [Act.put, sA, sZ, sS, i64_w, i32_w]
           rfl
          refine pure_ (i := 2) (N := some 46) (v := ?_) (a' := ?_) (bl 8 6) rfl rfl (any_of HT_.out (by kernel_rfl)) (fun _ _ _ h => h) (Or.inl ⟨by rfl, ?_⟩) ?_ ?_
          rotate_left
          ·intro w'
           go_simp
           with_reducible rfl
          rotate_left
          ·simp only [Act.put, sA, sZ, sS, i64_w, i32_w]
           rfl
          refine pure_ (i := 3) (N := some 47) (v := ?_) (a' := ?_) (bl 8 14) rfl rfl (any_of HT_.out (by kernel_rfl)) (fun _ _ _ h => h) (Or.inl ⟨by rfl, ?_⟩) ?_ ?_
          rotate_left
          ·intro w'
           go_simp
           with_reducible rfl
          rotate_left
          ·simp only [Act.put, sA, sZ, sS, i64_w, i32_w]
           rfl
          refine take_ (i := 0) (N := some 44) (v := ?_) (a' := ?_) (bl 8 15) rfl rfl (take_ofW HT_.out HW_.out (by kernel_rfl)) (fun _ _ _ h => h) (Or.inl ⟨by rfl, ?_⟩) hHeld ?_ ?_
          rotate_left
          ·rintro w' ⟨s0, s1, s2, s3, s4, s5⟩
           go_simp
           with_reducible rfl
          rotate_left
          ·simp only [Act.put, sA, sZ, sS, i64_w, i32_w]
           rfl
          refine take_ (i := 4) (N := some 48) (v := ?_) (a' := ?_) (bl 8 31) rfl rfl (take_ofW HT_.out HW_.out (by kernel_rfl)) (fun _ _ _ h => h) (Or.inl ⟨by rfl, ?_⟩) hHeld ?_ ?_
          rotate_left
          ·rintro w' ⟨s0, s1, s2, s3, s4, s5⟩
           go_simp
           with_reducible rfl
          rotate_left
          ·simp only [Act.put, sA, sZ, sS, i64_w, i32_w]
           rfl
          refine one_ (i := 5) (N := some 49) (bl 8 63) rfl rfl (one_of HT_.out (by kernel_rfl)) (by decide) (fun K hK => ?_)
          refine goes_ Try.func41 (by kernel_rfl) rfl #[.agg #[.bool t104, .string t105, .int .i64 t106], .agg #[.bool ((rd_T24 l1 x21_1).isSym), .string ((rd_T24 l1 x21_1).sym), .int .i64 ((rd_T24 l1 x21_1).n)]] (by rfl) rfl rfl (by (try simp only [List.map_toArray, List.map_cons, List.map_nil]); first | done | rfl | (simp only [List.length_drop, List.length_take]; rfl)) ?_
          with_reducible refine (value_Same.calls k1 t104 t105 t106 ((rd_T24 l1 x21_1).isSym) ((rd_T24 l1 x21_1).sym) ((rd_T24 l1 x21_1).n) false _ A13.out).mono ?_
          rintro e w38 ⟨rfl, hb⟩
          refine ⟨_, rfl, ?_⟩
          replace HO_2 := am (Kd.V_below (by (with_reducible repeat (first | apply Va | apply Vn | apply Vd)); exact HO_2.out) hb)
          replace BK101 := am (blk_below (g := gb101) (o := .cells #[.string a0_0, .slice (some ad102) l0_1.length c0_1] 46 (0, 0)) (by (with_reducible repeat (first | refine bN ?_ _ | refine bD ?_ | refine bA ?_ _)); exact BK101.out) hb)
          replace BK103 := am (blk_below (g := gb103) (o := .cells #[.bool ((rd_T49 l0_1 x21_1).isVar), .string ((rd_T49 l0_1 x21_1).name), .bool ((rd_T49 l0_1 x21_1).val.isSym), .string ((rd_T49 l0_1 x21_1).val.sym), .int .i64 ((rd_T49 l0_1 x21_1).val.n)] 49 (0, 0)) (by (with_reducible repeat (first | refine bN ?_ _ | refine bD ?_ | refine bA ?_ _)); exact BK103.out) hb)
          replace BK108 := am (blk_below (g := gb108) (o := .cells #[.bool t104, .string t105, .int .i64 t106] 24 (0, 0)) (by (with_reducible repeat (first | refine bN ?_ _ | refine bD ?_ | refine bA ?_ _)); exact BK108.out) hb)
          replace HB := am (below_step (by repeat (first | (with_reducible first | exact HB.out | apply lA | apply lN | apply lD | refine lS ?_ GE101.out | refine lS ?_ GE103.out | refine lS ?_ GE108.out) | exact HB.out)) hb)
          (try clear hb)
          (try clear hb2)
          (try clear hk)
          (try clear hi)
          refine hK.out _ _ ⟨(blk_cell BK108.out 0).trans rfl, (blk_cell BK108.out 1).trans rfl, (blk_cell BK108.out 2).trans rfl, ((HB.out.cell (blt_ hw109_0)).trans hw109_0), ((HB.out.cell (blt_ hw109_1)).trans hw109_1), ((HB.out.cell (blt_ hw109_2)).trans hw109_2)⟩ (fun hHeld => ?_)
          clear hK K
          refine norm_ (a' := ?_) ?_ ?_
          rotate_left
          ·show Act.put _ (some 49) _ = _
           simp only [Act.put, sA, sZ, sS, i64_w, i32_w]
           rfl
          refine pure_ (i := 6) (N := some 50) (v := ?_) (a' := ?_) (bl 8 127) rfl rfl (any_of HT_.out (by kernel_rfl)) (fun _ _ _ h => h) (Or.inl ⟨by rfl, ?_⟩) ?_ ?_
          rotate_left
          ·intro w'
           go_simp
           with_reducible rfl
          rotate_left
          ·simp only [Act.put, sA, sZ, sS, i64_w, i32_w]
           rfl
          refine pure_ (i := 7) (N := some 43) (v := ?_) (a' := ?_) (bl 8 255) rfl rfl (any_of HT_.out (by kernel_rfl)) (fun _ _ _ h => h) (Or.inl ⟨by rfl, ?_⟩) ?_ ?_
          rotate_left
          ·intro w'
           go_simp
           with_reducible rfl
          rotate_left
          ·simp only [Act.put, sA, sZ, sS, i64_w, i32_w]
           rfl
          refine done_ (done_of HT_.out (by kernel_rfl)) ?_
          try go_wp2
          go_ret2
          exact ⟨_, by first | rfl | (simp [errW_none, errW_some] <;> rfl) | (simp [*, errW_none, errW_some] <;> rfl), (by first | exact Kd.V_nil _ _ _ _ _ | exact Kd.V_mono (Kd.R_V (by first | exact Kd.R_nil _ _ _ _ _ | exact Kd.N_nil _ _ _ _ _ | exact Kd.V_nil _ _ _ _ _ | exact Kd.Q_nil _ _ _ _ _ | exact Kd.S_nil _ _ _ _ _)) (fun k_ hk => by first | exact ⟨(.inr (hk.1)), hk.2⟩ | exact (.inr (hk)))), by repeat (first | (with_reducible first | exact HB.out | apply lA | apply lN | apply lD | refine lS ?_ GE101.out | refine lS ?_ GE103.out | refine lS ?_ GE108.out) | exact HB.out)⟩
        ·rw [if_neg c12] at H
         exact absurd H (by simp)
       ·replace c11 := Bool.eq_false_iff.mpr c11
        subst c11
        have H1 : (if x21_1 < (l1.length : Int) then ((subst_Env_With.f x2_1 ((rd_T49 l0_1 x21_1).name) ((rd_T24 l1 x21_1).isSym) ((rd_T24 l1 x21_1).sym) ((rd_T24 l1 x21_1).n)).bind fun t112 => (subst_Match.l0 k1 l1 t112 l0_1 (l0_1.length : Int) (wrap64 (x21_1 + 1)))) else (none)) = some (r1, r2) := by rw [if_neg (show ¬ (false = true) by decide)] at H; exact H
        clear H
        have H := H1
        clear H1
        by_cases c39 : x21_1 < (l1.length : Int)
        ·rw [if_pos c39] at H
         have c39b0 : decide (x21_1 < (l1.length : Int)) = true := decide_eq_true c39
         clear c39
         replace H := Option.bind_eq_some_iff.mp H
         obtain ⟨t112, A400, H⟩ := H
         replace H : (subst_Match.l0 k1 l1 t112 l0_1 (l0_1.length : Int) (wrap64 (x21_1 + 1))) = some (r1, r2) := H
         have A40 := am A400
         clear A400
         have H' := am H
         clear H
         have p102 : 0 ≤ (x21_1 : Int) := of_decide_eq_true (by first | (with_reducible assumption) | assumption)
         have q102 : x21_1 < (l0_1.length : Int) := of_decide_eq_true (by first | (with_reducible assumption) | assumption)
         obtain ⟨ad102, e102, hx102_0, hx102_1, hx102_2, hx102_3, hx102_4⟩ := at_T49 HR0_1.out x21_1 p102 q102
         cases e102
         replace hx102_0 := (HB.out.cell (blt_ hx102_0)).trans hx102_0
         replace hx102_1 := (HB.out.cell (blt_ hx102_1)).trans hx102_1
         replace hx102_2 := (HB.out.cell (blt_ hx102_2)).trans hx102_2
         replace hx102_3 := (HB.out.cell (blt_ hx102_3)).trans hx102_3
         replace hx102_4 := (HB.out.cell (blt_ hx102_4)).trans hx102_4
         replace p102 := eq_true p102
         replace q102 := eq_true q102
         try go_wp2_with (first | ((with_reducible refine gate_dst (N := 9) rfl ?_); refine box_event ?hg (N := 9) ?hd (cs := #[.bool false, .string (⟨#[]⟩ : ByteArray), .bool false, .string (⟨#[]⟩ : ByteArray), .int .i64 0]) (t := 49) ?hr ?_; (case hd => rfl); (case hg => rfl); (case hr => first | (go_simp; done) | (go_simp; rfl)); intro gb103 hg w41 hbox hb; replace HO_2 := am (Kd.V_below (Kd.V_elderB (by (with_reducible repeat (first | apply Va | apply Vn | apply Vd)); exact HO_2.out) gb103 (Nat.le_of_eq hg.symm)) hb); have BK103 := am (hbox); have GW103 := am ((by rw [hg]; exact (below_size (by repeat (first | (with_reducible first | exact HB.out | apply lA | apply lN | apply lD | refine lS ?_ GE101.out) | exact HB.out))) : w.heap.size ≤ gb103)); have GE103 := am ((by rw [hg]; exact (below_size (by repeat (first | (with_reducible first | exact HB.out | apply lA | apply lN | apply lD | refine lS ?_ GE101.out) | exact HB.out))) : w.heap.size ≤ gb103)); replace HB := am (below_step (by repeat (first | (with_reducible first | exact HB.out | apply lA | apply lN | apply lD | refine lS ?_ GE101.out) | exact HB.out)) hb); have NB101_103 := am ((by rw [hg]; exact Nat.ne_of_lt (blk_lt (g := gb101) (o := .cells #[.string a0_0, .slice (some ad102) l0_1.length c0_1] 46 (0, 0)) (by (with_reducible repeat (first | refine bN ?_ _ | refine bD ?_ | refine bA ?_ _)); exact BK101.out)) : gb101 ≠ gb103)); have NB103_101 := am ((by rw [hg]; exact Nat.ne_of_gt (blk_lt (g := gb101) (o := .cells #[.string a0_0, .slice (some ad102) l0_1.length c0_1] 46 (0, 0)) (by (with_reducible repeat (first | refine bN ?_ _ | refine bD ?_ | refine bA ?_ _)); exact BK101.out)) : gb103 ≠ gb101)); replace BK101 := am (blk_below (g := gb101) (o := .cells #[.string a0_0, .slice (some ad102) l0_1.length c0_1] 46 (0, 0)) (by (with_reducible repeat (first | refine bN ?_ _ | refine bD ?_ | refine bA ?_ _)); exact BK101.out) hb); clear hb hbox hg; have hnb42 := NB103_101.out; have hnc42 := NB101_103.out; have hcz43_0 : w41.cell? ⟨gb103, 0, none⟩ = some (.bool false) := (blk_cell BK103.out 0).trans rfl; have hcz43_1 : w41.cell? ⟨gb103, 1, none⟩ = some (.string (⟨#[]⟩ : ByteArray)) := (blk_cell BK103.out 1).trans rfl; have hcz43_2 : w41.cell? ⟨gb103, 2, none⟩ = some (.bool false) := (blk_cell BK103.out 2).trans rfl; have hcz43_3 : w41.cell? ⟨gb103, 3, none⟩ = some (.string (⟨#[]⟩ : ByteArray)) := (blk_cell BK103.out 3).trans rfl; have hcz43_4 : w41.cell? ⟨gb103, 4, none⟩ = some (.int .i64 0) := (blk_cell BK103.out 4).trans rfl; have hfz43_0 := blk_frozen BK103.out 0; have hfz43_1 := blk_frozen BK103.out 1; have hfz43_2 := blk_frozen BK103.out 2; have hfz43_3 := blk_frozen BK103.out 3; have hfz43_4 := blk_frozen BK103.out 4; obtain ⟨Ao44, co44, eo44⟩ := Kd.V_slice HO_2.out; subst eo44) | ((with_reducible refine gate_callee (f := 28) rfl ?_); refine goesL_ (some 29) rfl rfl Try.func28 (by kernel_rfl) rfl #[.agg #[.bool ((rd_T49 l0_1 x21_1).isVar), .string ((rd_T49 l0_1 x21_1).name), .bool ((rd_T49 l0_1 x21_1).val.isSym), .string ((rd_T49 l0_1 x21_1).val.sym), .int .i64 ((rd_T49 l0_1 x21_1).val.n)], .slice Ao44 x2_1.length co44] rfl (by (try simp only [List.map_toArray, List.map_cons, List.map_nil]); first | done | rfl | (simp only [List.length_drop, List.length_take]; rfl)) ?_; (with_reducible refine (subst_Value.calls ((rd_T49 l0_1 x21_1).isVar) ((rd_T49 l0_1 x21_1).name) ((rd_T49 l0_1 x21_1).val.isSym) ((rd_T49 l0_1 x21_1).val.sym) ((rd_T49 l0_1 x21_1).val.n) _ _ x2_1 t104 t105 t106 false _ ?side1 ?side2 A10.out).mono ?_); (case side1 => refine (Kd.V_reads' (e := 41) (base := w.heap.size) (ok := fun k_ => (((P2_ k_ ∨ w.heap.size ≤ k_) ∧ k_ ≠ gb101) ∧ k_ ≠ gb103)) (n := x2_1.length) (c := co44) ?_).2.2; exact (by (with_reducible repeat (first | apply Va | apply Vn | apply Vd)); exact (Kd.V_mono (Kd.V_far (p := ⟨gb103, 4, none⟩) (Kd.V_far (p := ⟨gb103, 3, none⟩) (Kd.V_far (p := ⟨gb103, 2, none⟩) (Kd.V_far (p := ⟨gb103, 1, none⟩) (Kd.V_far (p := ⟨gb103, 0, none⟩) (Kd.V_mono HO_2.out (fun k_ hk => (⟨hk, hk.2⟩ : _ ∧ k_ ≠ gb103))) (fun _ hk => hk.2) _) (fun _ hk => hk.2) _) (fun _ hk => hk.2) _) (fun _ hk => hk.2) _) (fun _ hk => hk.2) _) (fun _ h_ => h_.1)))); (case side2 => exact (Kd.V_reads' HO_2.out).2.1); rintro e w45 ⟨rfl, hb⟩; refine ⟨_, rfl, ?_⟩; replace HO_2 := am (Kd.V_below (by (with_reducible repeat (first | apply Va | apply Vn | apply Vd)); exact (Kd.V_mono (Kd.V_far (p := ⟨gb103, 4, none⟩) (Kd.V_far (p := ⟨gb103, 3, none⟩) (Kd.V_far (p := ⟨gb103, 2, none⟩) (Kd.V_far (p := ⟨gb103, 1, none⟩) (Kd.V_far (p := ⟨gb103, 0, none⟩) (Kd.V_mono HO_2.out (fun k_ hk => (⟨hk, hk.2⟩ : _ ∧ k_ ≠ gb103))) (fun _ hk => hk.2) _) (fun _ hk => hk.2) _) (fun _ hk => hk.2) _) (fun _ hk => hk.2) _) (fun _ hk => hk.2) _) (fun _ h_ => h_.1))) hb); replace BK101 := am (blk_below (g := gb101) (o := .cells #[.string a0_0, .slice (some ad102) l0_1.length c0_1] 46 (0, 0)) (by repeat (first | (with_reducible first | exact BK101.out | refine bN ?_ _ | refine bD ?_ | refine bA ?_ _) | refine blk_far ?_ NB101_103.out _ | exact BK101.out)) hb); replace BK103 := am (blk_below (g := gb103) (o := .cells #[.bool ((rd_T49 l0_1 x21_1).isVar), .string ((rd_T49 l0_1 x21_1).name), .bool ((rd_T49 l0_1 x21_1).val.isSym), .string ((rd_T49 l0_1 x21_1).val.sym), .int .i64 ((rd_T49 l0_1 x21_1).val.n)] 49 (0, 0)) (by (with_reducible repeat (first | refine bN ?_ _ | refine bD ?_ | refine bA ?_ _)); refine blk_put (cs := #[.bool ((rd_T49 l0_1 x21_1).isVar), .string ((rd_T49 l0_1 x21_1).name), .bool ((rd_T49 l0_1 x21_1).val.isSym), .string ((rd_T49 l0_1 x21_1).val.sym), .int .i64 0]) ?_ 4 _ rfl; (with_reducible repeat (first | refine bN ?_ _ | refine bD ?_ | refine bA ?_ _)); refine blk_put (cs := #[.bool ((rd_T49 l0_1 x21_1).isVar), .string ((rd_T49 l0_1 x21_1).name), .bool ((rd_T49 l0_1 x21_1).val.isSym), .string (⟨#[]⟩ : ByteArray), .int .i64 0]) ?_ 3 _ rfl; (with_reducible repeat (first | refine bN ?_ _ | refine bD ?_ | refine bA ?_ _)); refine blk_put (cs := #[.bool ((rd_T49 l0_1 x21_1).isVar), .string ((rd_T49 l0_1 x21_1).name), .bool false, .string (⟨#[]⟩ : ByteArray), .int .i64 0]) ?_ 2 _ rfl; (with_reducible repeat (first | refine bN ?_ _ | refine bD ?_ | refine bA ?_ _)); refine blk_put (cs := #[.bool ((rd_T49 l0_1 x21_1).isVar), .string (⟨#[]⟩ : ByteArray), .bool false, .string (⟨#[]⟩ : ByteArray), .int .i64 0]) ?_ 1 _ rfl; (with_reducible repeat (first | refine bN ?_ _ | refine bD ?_ | refine bA ?_ _)); refine blk_put (cs := #[.bool false, .string (⟨#[]⟩ : ByteArray), .bool false, .string (⟨#[]⟩ : ByteArray), .int .i64 0]) ?_ 0 _ rfl; (with_reducible repeat (first | refine bN ?_ _ | refine bD ?_ | refine bA ?_ _)); exact BK103.out) hb); replace HB := am (below_step (by repeat (first | (with_reducible first | exact HB.out | apply lA | apply lN | apply lD | refine lS ?_ GE101.out | refine lS ?_ GE103.out) | exact HB.out)) hb); (try clear hb); (try clear hb2); (try clear hk); (try clear hi)) | ((with_reducible refine gate_dst (N := 10) rfl ?_); refine box_event ?hg (N := 10) ?hd (cs := #[.bool false, .string (⟨#[]⟩ : ByteArray), .int .i64 0]) (t := 24) ?hr ?_; (case hd => rfl); (case hg => rfl); (case hr => first | (go_simp; done) | (go_simp; rfl)); intro gb108 hg w46 hbox hb; replace HO_2 := am (Kd.V_below (Kd.V_elderB (by (with_reducible repeat (first | apply Va | apply Vn | apply Vd)); exact HO_2.out) gb108 (Nat.le_of_eq hg.symm)) hb); have BK108 := am (hbox); have GW108 := am ((by rw [hg]; exact (below_size (by repeat (first | (with_reducible first | exact HB.out | apply lA | apply lN | apply lD | refine lS ?_ GE101.out | refine lS ?_ GE103.out) | exact HB.out))) : w.heap.size ≤ gb108)); have GE108 := am ((by rw [hg]; exact (below_size (by repeat (first | (with_reducible first | exact HB.out | apply lA | apply lN | apply lD | refine lS ?_ GE101.out | refine lS ?_ GE103.out) | exact HB.out))) : w.heap.size ≤ gb108)); replace HB := am (below_step (by repeat (first | (with_reducible first | exact HB.out | apply lA | apply lN | apply lD | refine lS ?_ GE101.out | refine lS ?_ GE103.out) | exact HB.out)) hb); have NB101_108 := am ((by rw [hg]; exact Nat.ne_of_lt (blk_lt (g := gb101) (o := .cells #[.string a0_0, .slice (some ad102) l0_1.length c0_1] 46 (0, 0)) (by (with_reducible repeat (first | refine bN ?_ _ | refine bD ?_ | refine bA ?_ _)); exact BK101.out)) : gb101 ≠ gb108)); have NB108_101 := am ((by rw [hg]; exact Nat.ne_of_gt (blk_lt (g := gb101) (o := .cells #[.string a0_0, .slice (some ad102) l0_1.length c0_1] 46 (0, 0)) (by (with_reducible repeat (first | refine bN ?_ _ | refine bD ?_ | refine bA ?_ _)); exact BK101.out)) : gb108 ≠ gb101)); replace BK101 := am (blk_below (g := gb101) (o := .cells #[.string a0_0, .slice (some ad102) l0_1.length c0_1] 46 (0, 0)) (by (with_reducible repeat (first | refine bN ?_ _ | refine bD ?_ | refine bA ?_ _)); exact BK101.out) hb); have NB103_108 := am ((by rw [hg]; exact Nat.ne_of_lt (blk_lt (g := gb103) (o := .cells #[.bool ((rd_T49 l0_1 x21_1).isVar), .string ((rd_T49 l0_1 x21_1).name), .bool ((rd_T49 l0_1 x21_1).val.isSym), .string ((rd_T49 l0_1 x21_1).val.sym), .int .i64 ((rd_T49 l0_1 x21_1).val.n)] 49 (0, 0)) (by (with_reducible repeat (first | refine bN ?_ _ | refine bD ?_ | refine bA ?_ _)); exact BK103.out)) : gb103 ≠ gb108)); have NB108_103 := am ((by rw [hg]; exact Nat.ne_of_gt (blk_lt (g := gb103) (o := .cells #[.bool ((rd_T49 l0_1 x21_1).isVar), .string ((rd_T49 l0_1 x21_1).name), .bool ((rd_T49 l0_1 x21_1).val.isSym), .string ((rd_T49 l0_1 x21_1).val.sym), .int .i64 ((rd_T49 l0_1 x21_1).val.n)] 49 (0, 0)) (by (with_reducible repeat (first | refine bN ?_ _ | refine bD ?_ | refine bA ?_ _)); exact BK103.out)) : gb108 ≠ gb103)); replace BK103 := am (blk_below (g := gb103) (o := .cells #[.bool ((rd_T49 l0_1 x21_1).isVar), .string ((rd_T49 l0_1 x21_1).name), .bool ((rd_T49 l0_1 x21_1).val.isSym), .string ((rd_T49 l0_1 x21_1).val.sym), .int .i64 ((rd_T49 l0_1 x21_1).val.n)] 49 (0, 0)) (by (with_reducible repeat (first | refine bN ?_ _ | refine bD ?_ | refine bA ?_ _)); exact BK103.out) hb); clear hb hbox hg; have hnb47 := NB108_101.out; have hnc47 := NB101_108.out; have hnb48 := NB108_103.out; have hnc48 := NB103_108.out; have hcz49_0 : w46.cell? ⟨gb108, 0, none⟩ = some (.bool false) := (blk_cell BK108.out 0).trans rfl; have hcz49_1 : w46.cell? ⟨gb108, 1, none⟩ = some (.string (⟨#[]⟩ : ByteArray)) := (blk_cell BK108.out 1).trans rfl; have hcz49_2 : w46.cell? ⟨gb108, 2, none⟩ = some (.int .i64 0) := (blk_cell BK108.out 2).trans rfl; have hfz49_0 := blk_frozen BK108.out 0; have hfz49_1 := blk_frozen BK108.out 1; have hfz49_2 := blk_frozen BK108.out 2))
         have n0_ : Aside0 (Kd.V k41 41 (((w46.setCell ⟨gb108, 0, none⟩ (.bool t104)).setCell ⟨gb108, 1, none⟩ (.string t105)).setCell ⟨gb108, 2, none⟩ (.int .i64 t106)) w.heap.size (fun k_ => (P2_ k_ ∨ w.heap.size ≤ k_) ∧ k_ ≠ gb101 ∧ k_ ≠ gb103 ∧ k_ ≠ gb108) (.slice Ao44 x2_1.length co44) x2_1) := ⟨by (with_reducible repeat (first | apply Va | apply Vn | apply Vd)); exact Kd.V_mono (Kd.V_far (p := ⟨gb108, 2, none⟩) (Kd.V_far (p := ⟨gb108, 1, none⟩) (Kd.V_far (p := ⟨gb108, 0, none⟩) (Kd.V_mono HO_2.out (fun k_ hk => (⟨hk, hk.2⟩ : _ ∧ k_ ≠ gb108))) (fun _ hk => hk.2) _) (fun _ hk => hk.2) _) (fun _ hk => hk.2) _) (fun _ hk => ⟨hk.1.1.1.1, ⟨hk.1.1.1.2, ⟨hk.1.1.2, hk.1.2⟩⟩⟩)⟩
         have n1_ : Aside0 ((((w46.setCell ⟨gb108, 0, none⟩ (.bool t104)).setCell ⟨gb108, 1, none⟩ (.string t105)).setCell ⟨gb108, 2, none⟩ (.int .i64 t106)).heap[gb101]? = some (.cells #[.string a0_0, .slice (some ad102) l0_1.length c0_1] 46 (0, 0))) := ⟨by repeat (first | (with_reducible first | exact BK101.out | refine bN ?_ _ | refine bD ?_ | refine bA ?_ _) | refine blk_far ?_ NB101_108.out _ | exact BK101.out)⟩
         have n2_ : Aside0 ((((w46.setCell ⟨gb108, 0, none⟩ (.bool t104)).setCell ⟨gb108, 1, none⟩ (.string t105)).setCell ⟨gb108, 2, none⟩ (.int .i64 t106)).heap[gb103]? = some (.cells #[.bool ((rd_T49 l0_1 x21_1).isVar), .string ((rd_T49 l0_1 x21_1).name), .bool ((rd_T49 l0_1 x21_1).val.isSym), .string ((rd_T49 l0_1 x21_1).val.sym), .int .i64 ((rd_T49 l0_1 x21_1).val.n)] 49 (0, 0))) := ⟨by repeat (first | (with_reducible first | exact BK103.out | refine bN ?_ _ | refine bD ?_ | refine bA ?_ _) | refine blk_far ?_ NB103_108.out _ | exact BK103.out)⟩
         have n3_ : Aside0 ((((w46.setCell ⟨gb108, 0, none⟩ (.bool t104)).setCell ⟨gb108, 1, none⟩ (.string t105)).setCell ⟨gb108, 2, none⟩ (.int .i64 t106)).heap[gb108]? = some (.cells #[.bool t104, .string t105, .int .i64 t106] 24 (0, 0))) := ⟨by (with_reducible repeat (first | refine bN ?_ _ | refine bD ?_ | refine bA ?_ _)); refine blk_put (cs := #[.bool t104, .string t105, .int .i64 0]) ?_ 2 _ rfl; (with_reducible repeat (first | refine bN ?_ _ | refine bD ?_ | refine bA ?_ _)); refine blk_put (cs := #[.bool t104, .string (⟨#[]⟩ : ByteArray), .int .i64 0]) ?_ 1 _ rfl; (with_reducible repeat (first | refine bN ?_ _ | refine bD ?_ | refine bA ?_ _)); refine blk_put (cs := #[.bool false, .string (⟨#[]⟩ : ByteArray), .int .i64 0]) ?_ 0 _ rfl; (with_reducible repeat (first | refine bN ?_ _ | refine bD ?_ | refine bA ?_ _)); exact BK108.out⟩
         have n4_ : Aside0 (Below w.heap.size w (((w46.setCell ⟨gb108, 0, none⟩ (.bool t104)).setCell ⟨gb108, 1, none⟩ (.string t105)).setCell ⟨gb108, 2, none⟩ (.int .i64 t106))) := ⟨by repeat (first | (with_reducible first | exact HB.out | apply lA | apply lN | apply lD | refine lS ?_ GE101.out | refine lS ?_ GE103.out | refine lS ?_ GE108.out) | exact HB.out)⟩
         (try clear HO_2)
         (try clear BK101)
         (try clear BK103)
         (try clear BK108)
         (try clear HB)
         generalize (((w46.setCell ⟨gb108, 0, none⟩ (.bool t104)).setCell ⟨gb108, 1, none⟩ (.string t105)).setCell ⟨gb108, 2, none⟩ (.int .i64 t106)) = w50 at n0_ n1_ n2_ n3_ n4_ ⊢
         have HO_2 := n0_
         have BK101 := n1_
         have BK103 := n2_
         have BK108 := n3_
         have HB := n4_
         clear n0_ n1_ n2_ n3_ n4_
         replace HO_2 := am (Kd.V_drew HO_2.out)
         replace BK101 := am (blk_drew BK101.out)
         replace BK103 := am (blk_drew BK103.out)
         replace BK108 := am (blk_drew BK108.out)
         replace HB := am (below_drew1 HB.out)
         have p111 : 0 ≤ (x21_1 : Int) := of_decide_eq_true (by first | (with_reducible assumption) | assumption)
         have q111 : x21_1 < (l1.length : Int) := of_decide_eq_true (by first | (with_reducible assumption) | assumption)
         obtain ⟨ad111, e111, hx111_0, hx111_1, hx111_2⟩ := at_T24 HR1.out x21_1 p111 q111
         have hw111_2 := hx111_2
         have hw111_1 := hx111_1
         have hw111_0 := hx111_0
         cases e111
         replace hx111_0 := (HB.out.cell (blt_ hx111_0)).trans hx111_0
         replace hx111_1 := (HB.out.cell (blt_ hx111_1)).trans hx111_1
         replace hx111_2 := (HB.out.cell (blt_ hx111_2)).trans hx111_2
         replace p111 := eq_true p111
         replace q111 := eq_true q111
         refine start_ (n := 9) (S := fun w' => w'.cell? ⟨gb103, 0, none⟩ = some (.bool ((rd_T49 l0_1 x21_1).isVar)) ∧ w'.cell? ⟨gb103, 1, none⟩ = some (.string ((rd_T49 l0_1 x21_1).name)) ∧ w'.cell? ⟨gb103, 2, none⟩ = some (.bool ((rd_T49 l0_1 x21_1).val.isSym)) ∧ w'.cell? ⟨gb103, 3, none⟩ = some (.string ((rd_T49 l0_1 x21_1).val.sym)) ∧ w'.cell? ⟨gb103, 4, none⟩ = some (.int .i64 ((rd_T49 l0_1 x21_1).val.n)) ∧ w'.cell? (ad111.add ((x21_1).toNat * 3)) = some (.bool ((rd_T24 l1 x21_1).isSym)) ∧ w'.cell? ⟨(ad111.add ((x21_1).toNat * 3)).block, (ad111.add ((x21_1).toNat * 3)).off + 1, none⟩ = some (.string ((rd_T24 l1 x21_1).sym)) ∧ w'.cell? ⟨(ad111.add ((x21_1).toNat * 3)).block, (ad111.add ((x21_1).toNat * 3)).off + 2, none⟩ = some (.int .i64 ((rd_T24 l1 x21_1).n))) (ds := []) (bl 9 0) (by kernel_rfl) rfl rfl ⟨(blk_cell BK103.out 0).trans rfl, (blk_cell BK103.out 1).trans rfl, (blk_cell BK103.out 2).trans rfl, (blk_cell BK103.out 3).trans rfl, (blk_cell BK103.out 4).trans rfl, ((HB.out.cell (blt_ hw111_0)).trans hw111_0), ((HB.out.cell (blt_ hw111_1)).trans hw111_1), ((HB.out.cell (blt_ hw111_2)).trans hw111_2)⟩ (fun hHeld => ?_); refine with_tabW subst_Match.tab8 subst_Match.bits8 (fun HT_ HW_ => ?_)
         generalize w50.drew = w51 at HO_2 BK101 BK103 BK108 HB hx111_0 hx111_1 hx111_2 hHeld ⊢
         refine pure_ (i := 0) (N := some 35) (v := ?_) (a' := ?_) (bl 9 1) rfl rfl (any_of HT_.out (by kernel_rfl)) (fun _ _ _ h => h) (Or.inl ⟨by rfl, ?_⟩) ?_ ?_
         rotate_left
         ·intro w'
          go_simp
          with_reducible rfl
         rotate_left
         ·simp only [Act.put, sA, sZ, sS, i64_w, i32_w]
          rfl
         refine pure_ (i := 1) (N := some 36) (v := ?_) (a' := ?_) (bl 9 3) rfl rfl (any_of HT_.out (by kernel_rfl)) (fun _ _ _ h => h) (Or.inl ⟨by rfl, ?_⟩) ?_ ?_
         rotate_left
         ·intro w'
          go_simp
          with_reducible rfl
         rotate_left
         ·simp only [Act.put, sA, sZ, sS, i64_w, i32_w]
          rfl
         refine pure_ (i := 3) (N := some 38) (v := ?_) (a' := ?_) (bl 9 11) rfl rfl (any_of HT_.out (by kernel_rfl)) (fun _ _ _ h => h) (Or.inl ⟨by rfl, ?_⟩) ?_ ?_
         rotate_left
         ·intro w'
          go_simp
          with_reducible rfl
         rotate_left
         ·simp only [Act.put, sA, sZ, sS, i64_w, i32_w]
          rfl
         refine pure_ (i := 4) (N := some 39) (v := ?_) (a' := ?_) (bl 9 27) rfl rfl (any_of HT_.out (by kernel_rfl)) (fun _ _ _ h => h) (Or.inl ⟨by rfl, ?_⟩) ?_ ?_
         rotate_left
         ·intro w'
          go_simp
          with_reducible rfl
         rotate_left
         ·simp only [Act.put, sA, sZ, sS, i64_w, i32_w]
          rfl
         refine pure_ (i := 5) (N := some 40) (v := ?_) (a' := ?_) (bl 9 59) rfl rfl (any_of HT_.out (by kernel_rfl)) (fun _ _ _ h => h) (Or.inl ⟨by rfl, ?_⟩) ?_ ?_
         rotate_left
         ·intro w'
          go_simp
          with_reducible rfl
         rotate_left
         ·simp only [Act.put, sA, sZ, sS, i64_w, i32_w]
          rfl
         refine take_ (i := 2) (N := some 37) (v := ?_) (a' := ?_) (bl 9 63) rfl rfl (take_ofW HT_.out HW_.out (by kernel_rfl)) (fun _ _ _ h => h) (Or.inl ⟨by rfl, ?_⟩) hHeld ?_ ?_
         rotate_left
         ·rintro w' ⟨s0, s1, s2, s3, s4, s5, s6, s7⟩
          go_simp
          with_reducible rfl
         rotate_left
         ·simp only [Act.put, sA, sZ, sS, i64_w, i32_w]
          rfl
         refine take_ (i := 6) (N := some 41) (v := ?_) (a' := ?_) (bl 9 127) rfl rfl (take_ofW HT_.out HW_.out (by kernel_rfl)) (fun _ _ _ h => h) (Or.inl ⟨by rfl, ?_⟩) hHeld ?_ ?_
         rotate_left
         ·rintro w' ⟨s0, s1, s2, s3, s4, s5, s6, s7⟩
          go_simp
          with_reducible rfl
         rotate_left
         ·simp only [Act.put, sA, sZ, sS, i64_w, i32_w]
          rfl
         refine one_ (i := 7) (N := some 42) (bl 9 255) rfl rfl (one_of HT_.out (by kernel_rfl)) (by decide) (fun K hK => ?_)
         refine goes_ Try.func18 (by kernel_rfl) rfl #[.slice Ao44 x2_1.length co44, .string ((rd_T49 l0_1 x21_1).name), .agg #[.bool ((rd_T24 l1 x21_1).isSym), .string ((rd_T24 l1 x21_1).sym), .int .i64 ((rd_T24 l1 x21_1).n)]] (by rfl) rfl rfl (by (try simp only [List.map_toArray, List.map_cons, List.map_nil]); first | done | rfl | (simp only [List.length_drop, List.length_take]; rfl)) ?_
         with_reducible refine (subst_Env_With.calls _ _ x2_1 ((rd_T49 l0_1 x21_1).name) ((rd_T24 l1 x21_1).isSym) ((rd_T24 l1 x21_1).sym) ((rd_T24 l1 x21_1).n) t112 _ ?side1 ?side2 A40.out).mono ?_
         (case side1 => repeat (first | exact (Kd.V_reads' HO_2.out).2.2 | (with_reducible refine Kd.C_alloc ?_ _) | (with_reducible refine Kd.C_drewN ?_ _) | (with_reducible refine Kd.C_drew ?_)))
         (case side2 => exact (Kd.V_reads' HO_2.out).2.1)
         rintro e w52 ⟨v113, rfl, ho0, hb⟩
         refine ⟨_, rfl, ?_⟩
         replace HO_2 := am (Kd.V_elder' (by (with_reducible repeat (first | apply Va | apply Vn | apply Vd)); exact HO_2.out) (Kd.R_base ho0) hb)
         have HO114 := am (Kd.R_lower (Kd.R_newM (M := fun k_ => (w.heap.size ≤ k_)) ho0 (below_size (by repeat (first | (with_reducible first | exact HB.out | apply lA | apply lN | apply lD | refine lS ?_ GE101.out | refine lS ?_ GE103.out | refine lS ?_ GE108.out) | exact HB.out))) (fun k_ h_ => h_)) (below_size (by repeat (first | (with_reducible first | exact HB.out | apply lA | apply lN | apply lD | refine lS ?_ GE101.out | refine lS ?_ GE103.out | refine lS ?_ GE108.out) | exact HB.out))))
         replace BK101 := am (blk_below (g := gb101) (o := .cells #[.string a0_0, .slice (some ad102) l0_1.length c0_1] 46 (0, 0)) (by (with_reducible repeat (first | refine bN ?_ _ | refine bD ?_ | refine bA ?_ _)); exact BK101.out) hb)
         replace BK103 := am (blk_below (g := gb103) (o := .cells #[.bool ((rd_T49 l0_1 x21_1).isVar), .string ((rd_T49 l0_1 x21_1).name), .bool ((rd_T49 l0_1 x21_1).val.isSym), .string ((rd_T49 l0_1 x21_1).val.sym), .int .i64 ((rd_T49 l0_1 x21_1).val.n)] 49 (0, 0)) (by (with_reducible repeat (first | refine bN ?_ _ | refine bD ?_ | refine bA ?_ _)); exact BK103.out) hb)
         replace BK108 := am (blk_below (g := gb108) (o := .cells #[.bool t104, .string t105, .int .i64 t106] 24 (0, 0)) (by (with_reducible repeat (first | refine bN ?_ _ | refine bD ?_ | refine bA ?_ _)); exact BK108.out) hb)
         replace HB := am (below_step (by repeat (first | (with_reducible first | exact HB.out | apply lA | apply lN | apply lD | refine lS ?_ GE101.out | refine lS ?_ GE103.out | refine lS ?_ GE108.out) | exact HB.out)) hb)
         (try clear hb)
         (try clear hb2)
         (try clear hk)
         (try clear hi)
         (try clear ho0)
         refine hK.out _ _ ⟨(blk_cell BK103.out 0).trans rfl, (blk_cell BK103.out 1).trans rfl, (blk_cell BK103.out 2).trans rfl, (blk_cell BK103.out 3).trans rfl, (blk_cell BK103.out 4).trans rfl, ((HB.out.cell (blt_ hw111_0)).trans hw111_0), ((HB.out.cell (blt_ hw111_1)).trans hw111_1), ((HB.out.cell (blt_ hw111_2)).trans hw111_2)⟩ (fun hHeld => ?_)
         clear hK K
         refine norm_ (a' := ?_) ?_ ?_
         rotate_left
         ·show Act.put _ (some 42) _ = _
          simp only [Act.put, sA, sZ, sS, i64_w, i32_w]
          rfl
         refine pure_ (i := 8) (N := some 2) (v := ?_) (a' := ?_) (bl 9 511) rfl rfl (any_of HT_.out (by kernel_rfl)) (fun _ _ _ h => h) (Or.inl ⟨by rfl, ?_⟩) ?_ ?_
         rotate_left
         ·intro w'
          go_simp
          with_reducible rfl
         rotate_left
         ·simp only [Act.put, sA, sZ, sS, i64_w, i32_w]
          rfl
         refine done_ (done_of HT_.out (by kernel_rfl)) ?_
         try go_wp2
         go_roundg k1
         case measure => have := HK1.out; omega
         case rel => exact ⟨(t112), (wrap64 (x21_1 + 1)), (by first | rfl | (simp; done) | (simp [*]; done)), H', ⟨by have := HK1.out; omega⟩, ⟨(by first | exact Kd.V_mono (Kd.R_V (by (with_reducible repeat (first | apply Ra | apply Rn | apply Rd)); exact Kd.R_mono (Kd.R_types HO114.out BK101.out (by decide)) (fun _ hk => ⟨hk.1.1, hk.2⟩))) (fun k_ hk => by first | exact ⟨(.inr (hk.1)), hk.2⟩ | exact (.inr (hk))) | exact Kd.R_Vr (by (with_reducible repeat (first | apply Ra | apply Rn | apply Rd)); exact Kd.R_mono (Kd.R_types HO114.out BK101.out (by decide)) (fun _ hk => ⟨hk.1.1, hk.2⟩)) | exact Kd.R_Vr1 (by (with_reducible repeat (first | apply Ra | apply Rn | apply Rd)); exact Kd.R_mono (Kd.R_types HO114.out BK101.out (by decide)) (fun _ hk => ⟨hk.1.1, hk.2⟩)))⟩, ⟨by (with_reducible repeat (first | refine bN ?_ _ | refine bD ?_ | refine bA ?_ _)); exact BK101.out⟩, ⟨by repeat (first | (with_reducible first | exact HB.out | apply lA | apply lN | apply lD | refine lS ?_ GE101.out | refine lS ?_ GE103.out | refine lS ?_ GE108.out) | exact HB.out)⟩⟩
        ·rw [if_neg c39] at H
         exact absurd H (by simp)
      ·rw [if_neg c9] at H
       exact absurd H (by simp)
     ·rw [if_neg c8] at H
      exact absurd H (by simp)
    ·rw [if_neg c7] at H
     have c7b0 : decide (x21_1 < (l0_1.length : Int)) = false := decide_eq_false c7
     clear c7
     simp only [Option.some.injEq, Prod.mk.injEq] at H
     obtain ⟨rfl, rfl⟩ := H
     go_wp2
     go_ret2
     exact ⟨_, by first | rfl | (simp [errW_none, errW_some] <;> rfl) | (simp [*, errW_none, errW_some] <;> rfl), by (with_reducible repeat (first | apply Va | apply Vn | apply Vd)); exact Kd.V_mono HO_2.out (fun _ hk => hk.1), by repeat (first | (with_reducible first | exact HB.out | apply lA | apply lN | apply lD | refine lS ?_ GE101.out) | exact HB.out)⟩
 ·rw [if_neg c4] at H
  have c4b0 : ((l0_1.length : Int) == (l1.length : Int)) = false := beq_eq_false_iff_ne.mpr c4
  have c4b1 : ((l0_1.length : Int) != (l1.length : Int)) = true := bne_iff_ne.mpr c4
  have c4b2 : (l0_1.length == l1.length) = false := by first | simpa using c4 | (simp at c4 ⊢; omega)
  simp only [Option.some.injEq, Prod.mk.injEq] at H
  obtain ⟨rfl, rfl⟩ := H
  go_enter Try.func22, Try.ntmps22
  go_wp2_with (first | ((with_reducible refine gate_dst (N := 3) rfl ?_); refine box_event ?hg (N := 3) ?hd (cs := #[.string a0_0, .slice A0_1 l0_1.length c0_1]) (t := 46) ?hr ?_; (case hd => rfl); (case hg => rfl); (case hr => first | (go_simp; done) | (go_simp; rfl)); intro gb101 hg w53 hbox hb; replace HO2 := am (Kd.V_below (Kd.V_elderB (by (with_reducible repeat (first | apply Va | apply Vn | apply Vd)); exact HO2.out) gb101 (Nat.le_of_eq hg.symm)) hb); have BK101 := am (hbox); have GW101 := am ((by rw [hg]; exact (below_size (by repeat (first | (with_reducible first | exact HB.out | apply lA | apply lN | apply lD) | exact HB.out))) : w.heap.size ≤ gb101)); have GE101 := am ((by rw [hg]; exact (below_size (by repeat (first | (with_reducible first | exact HB.out | apply lA | apply lN | apply lD) | exact HB.out))) : w.heap.size ≤ gb101)); replace HB := am (below_step (by repeat (first | (with_reducible first | exact HB.out | apply lA | apply lN | apply lD) | exact HB.out)) hb); clear hb hbox hg; have hcz54_0 : w53.cell? ⟨gb101, 0, none⟩ = some (.string a0_0) := (blk_cell BK101.out 0).trans rfl; have hcz54_1 : w53.cell? ⟨gb101, 1, none⟩ = some (.slice A0_1 l0_1.length c0_1) := (blk_cell BK101.out 1).trans rfl; have hfz54_0 := blk_frozen BK101.out 0; have hfz54_1 := blk_frozen BK101.out 1))
  go_ret2
  exact ⟨_, by first | rfl | (simp [errW_none, errW_some] <;> rfl) | (simp [*, errW_none, errW_some] <;> rfl), (by first | exact Kd.V_nil _ _ _ _ _ | exact Kd.V_mono (Kd.R_V (by first | exact Kd.R_nil _ _ _ _ _ | exact Kd.N_nil _ _ _ _ _ | exact Kd.V_nil _ _ _ _ _ | exact Kd.Q_nil _ _ _ _ _ | exact Kd.S_nil _ _ _ _ _)) (fun k_ hk => by first | exact ⟨(.inr (hk.1)), hk.2⟩ | exact (.inr (hk)))), by repeat (first | (with_reducible first | exact HB.out | apply lA | apply lN | apply lD | refine lS ?_ GE101.out) | exact HB.out)⟩
end Go.Proofs.Ytdanihbbnepjpaa.H

/- RowSubstMatches of the seat's law SubstMatches: the law holds, under the statement's own conditions. -/
import Derived.Test.YtdanihbbnepjpaaNXSubstMatches
import Derived.Test.YtdanihbbnepjpaaNXSubstMatches1
namespace Go.Proofs.Ytdanihbbnepjpaa.H
open Go.RowKit Go.Proofs.YtdanihbbnepjpaaW.PrintWords Go.Proofs.YtdanihbbnepjpaaW.PrintLast Go.Proofs.YtdanihbbnepjpaaW.PrintMore
attribute [local go_sem] max2_int min2_int max_two min_two max_three min_three max_four min_four
set_option linter.unusedVariables false
set_option linter.unusedSimpArgs false
def subst_Match.l0 : Nat → List (Val) → List (Pair) → List (Term) → Int → Int → Option ((List (Pair)) × Bool)
 | 0, _, _, _, _, _ => none
 | k + 1, x1, x2, x19, x20, x21 => if x21 < x20 then (if 0 ≤ x21 then (if x21 < (x19.length : Int) then ((subst_Value.f ((rd_T49 x19 x21).isVar) ((rd_T49 x19 x21).name) ((rd_T49 x19 x21).val.isSym) ((rd_T49 x19 x21).val.sym) ((rd_T49 x19 x21).val.n) x2).bind fun bt104 => (if bt104.2.2.2 = true then (if x21 < (x1.length : Int) then ((value_Same.f k bt104.1 bt104.2.1 bt104.2.2.1 ((rd_T24 x1 x21).isSym) ((rd_T24 x1 x21).sym) ((rd_T24 x1 x21).n)).bind fun t110 => (if t110 = true then (subst_Match.l0 k x1 x2 x19 x20 (wrap64 (x21 + 1))) else (some (([] : List (Pair)), false)))) else (none)) else (if x21 < (x1.length : Int) then ((subst_Env_With.f x2 ((rd_T49 x19 x21).name) ((rd_T24 x1 x21).isSym) ((rd_T24 x1 x21).sym) ((rd_T24 x1 x21).n)).bind fun t112 => (subst_Match.l0 k x1 t112 x19 x20 (wrap64 (x21 + 1)))) else (none)))) else (none)) else (none)) else (some (x2, true))
def subst_Match.f (k : Nat) (a0_0 : ByteArray) (l0_1 : List (Term)) (l1 : List (Val)) (l2 : List (Pair)) : Option ((List (Pair)) × Bool) := if (l0_1.length : Int) = (l1.length : Int) then (subst_Match.l0 k l1 l2 l0_1 (l0_1.length : Int) 0) else (some (([] : List (Pair)), false))
theorem subst_Match.mono_l : ∀ k, (∀ y0 y1 y2 y3 y4, LeO (subst_Match.l0 k y0 y1 y2 y3 y4) (subst_Match.l0 (k + 1) y0 y1 y2 y3 y4))
 | 0 => fun _ _ _ _ _ r h => by simp [subst_Match.l0] at h
 | k + 1 => by
  have ih0 := subst_Match.mono_l k
  ·intro y0 y1 y2 y3 y4
   unfold subst_Match.l0
   repeat' first
   | (with_reducible exact ih0 _ _ _ _ _)
   | (with_reducible exact value_Same.mono _ _ _ _ _ _ _)
   | (with_reducible exact LeO.refl _)
   | (with_reducible exact LeO.none _)
   | (with_reducible refine LeO.ite ?_ ?_)
   | (with_reducible refine LeO.bind ?_ (fun _ => ?_))
   | exact ih0 _ _ _ _ _
   | exact value_Same.mono _ _ _ _ _ _ _
   | exact LeO.none _
   | refine LeO.ite ?_ ?_
   | refine LeO.bind ?_ (fun _ => ?_)
theorem subst_Match.mono : ∀ a0 a1 a2 a3 k, LeO (subst_Match.f k a0 a1 a2 a3) (subst_Match.f (k + 1) a0 a1 a2 a3) := by
 intro a0 a1 a2 a3 k
 have ih0 := subst_Match.mono_l k
 unfold subst_Match.f
 repeat' first
   | (with_reducible exact ih0 _ _ _ _ _)
   | (with_reducible exact value_Same.mono _ _ _ _ _ _ _)
   | (with_reducible exact LeO.refl _)
   | (with_reducible exact LeO.none _)
   | (with_reducible refine LeO.ite ?_ ?_)
   | (with_reducible refine LeO.bind ?_ (fun _ => ?_))
   | exact ih0 _ _ _ _ _
   | exact value_Same.mono _ _ _ _ _ _ _
   | exact LeO.none _
   | refine LeO.ite ?_ ?_
   | refine LeO.bind ?_ (fun _ => ?_)
def subst_Match.T8 : Bool × List (List Nat × List Nat) := (true, [([], []), ([], []), ([1], [1]), ([], []), ([], []), ([3, 4], [3, 4]), ([5], [5]), ([0, 2, 6], [0, 2, 6]), ([7, 7, 0, 1, 2, 3, 4, 5, 6, 7], [0, 7])])
def subst_Match.B8 : List Nat := [0, 0, 2, 0, 0, 24, 56, 127, 255]
theorem subst_Match.tab8 : rtab .any (opsOf Try.f22 8) = subst_Match.T8 := by kernel_rfl
theorem subst_Match.bits8 : waitsOk subst_Match.T8.2 subst_Match.B8 = true := by kernel_rfl
def subst_Match.T9 : Bool × List (List Nat × List Nat) := (true, [([], []), ([], []), ([], []), ([1, 2], [1, 2]), ([3], [3]), ([0, 4], [0, 4]), ([5], [5]), ([6, 5], [6])])
def subst_Match.B9 : List Nat := [0, 0, 0, 6, 14, 31, 63, 127]
theorem subst_Match.tab9 : rtab .any (opsOf Try.f22 9) = subst_Match.T9 := by kernel_rfl
theorem subst_Match.bits9 : waitsOk subst_Match.T9.2 subst_Match.B9 = true := by kernel_rfl
set_option maxHeartbeats 8000000 in
set_option maxRecDepth 100000 in
theorem subst_Match.calls (k : Nat) (a0_0 : ByteArray) (A0_1 : Option Addr) (c0_1 : Nat) (l0_1 : List (Term)) (A1 : Option Addr) (c1 : Nat) (l1 : List (Val)) (P2_ : Nat → Prop) (A2 : Option Addr) (c2 : Nat) (l2 : List (Pair)) (r1 : List (Pair)) (r2 : Bool) (w : World) (hr0_1 : Kd.C k49 w A0_1 l0_1.length l0_1) (hc0_1 : l0_1.length ≤ c0_1) (hr1 : Kd.C k24 w A1 l1.length l1) (hc1 : l1.length ≤ c1) (hs2 : Kd.V k41 41 w w.heap.size (fun k_ => P2_ k_) (.slice A2 l2.length c2) l2) (h : subst_Match.f k a0_0 l0_1 l1 l2 = some (r1, r2)) :
  Calls Try.prog 22 #[.agg #[.string a0_0, .slice A0_1 l0_1.length c0_1], .slice A1 l1.length c1, .slice A2 l2.length c2] w fun e w' => ∃ v0_ : Value, e = .returned (.tuple #[v0_, .bool r2]) ∧ Kd.V k41 41 w' w.heap.size (fun k_ => (P2_ k_ ∨ w.heap.size ≤ k_)) v0_ r1 ∧ Below w.heap.size w w' := by
 have hu46 := Try.underlying46
 have hu49 := Try.underlying49
 have hu24 := Try.underlying24
 have HR0_1 := am hr0_1
 have HC0_1 := am hc0_1
 clear hr0_1 hc0_1
 have HR1 := am hr1
 have HC1 := am hc1
 clear hr1 hc1
 have HO2 := am (show Kd.V k41 41 w w.heap.size (fun k_ => (P2_ k_ ∨ w.heap.size ≤ k_)) (.slice A2 l2.length c2) l2 from Kd.V_mono hs2 (fun k_ hk => .inl hk))
 have HB := am (Below.refl w.heap.size w)
 have H : (if (l0_1.length : Int) = (l1.length : Int) then (subst_Match.l0 k l1 l2 l0_1 (l0_1.length : Int) 0) else (some (([] : List (Pair)), false))) = some (r1, r2) := h
 clear h
 by_cases c4 : (l0_1.length : Int) = (l1.length : Int)
 ·rw [if_pos c4] at H
  have c4b0 : ((l0_1.length : Int) == (l1.length : Int)) = true := beq_iff_eq.mpr c4
  have c4b1 : ((l0_1.length : Int) != (l1.length : Int)) = false := bne_eq_false_iff_eq.mpr c4
  have c4b2 : (l0_1.length == l1.length) = true := by first | simpa using c4 | (simp at c4 ⊢; omega)
  clear c4
  have H' := am H
  clear H
  go_enter Try.func22, Try.ntmps22
  go_wp2_with (first | ((with_reducible refine gate_dst (N := 3) rfl ?_); refine box_event ?hg (N := 3) ?hd (cs := #[.string a0_0, .slice A0_1 l0_1.length c0_1]) (t := 46) ?hr ?_; (case hd => rfl); (case hg => rfl); (case hr => first | (go_simp; done) | (go_simp; rfl)); intro gb101 hg w5 hbox hb; replace HO2 := am (Kd.V_below (Kd.V_elderB (by (with_reducible repeat (first | apply Va | apply Vn | apply Vd)); exact HO2.out) gb101 (Nat.le_of_eq hg.symm)) hb); have BK101 := am (hbox); have GW101 := am ((by rw [hg]; exact (below_size (by repeat (first | (with_reducible first | exact HB.out | apply lA | apply lN | apply lD) | exact HB.out))) : w.heap.size ≤ gb101)); have GE101 := am ((by rw [hg]; exact (below_size (by repeat (first | (with_reducible first | exact HB.out | apply lA | apply lN | apply lD) | exact HB.out))) : w.heap.size ≤ gb101)); replace HB := am (below_step (by repeat (first | (with_reducible first | exact HB.out | apply lA | apply lN | apply lD) | exact HB.out)) hb); clear hb hbox hg; have hcz6_0 : w5.cell? ⟨gb101, 0, none⟩ = some (.string a0_0) := (blk_cell BK101.out 0).trans rfl; have hcz6_1 : w5.cell? ⟨gb101, 1, none⟩ = some (.slice A0_1 l0_1.length c0_1) := (blk_cell BK101.out 1).trans rfl; have hfz6_0 := blk_frozen BK101.out 0; have hfz6_1 := blk_frozen BK101.out 1))
  go_loopg [2, 21] k (fun kq v2 v21 w' => ∃ (x2_1 : List (Pair)) (x21_1 : Int), v21 = .int .i64 x21_1 ∧ Aside0 (subst_Match.l0 kq l1 x2_1 l0_1 (l0_1.length : Int) x21_1 = some (r1, r2)) ∧ Aside0 (kq ≤ k) ∧ Aside0 (Kd.V k41 41 w' w.heap.size (fun k_ => (P2_ k_ ∨ w.heap.size ≤ k_) ∧ k_ ≠ gb101) v2 x2_1) ∧ Aside0 (w'.heap[gb101]? = some (.cells #[.string a0_0, (.slice A0_1 l0_1.length c0_1)] 46 (0, 0))) ∧ Aside0 (Below w.heap.size w w'))
  case atStart => exact ⟨(l2), (0), (by first | rfl | (simp; done) | (simp [*]; done)), H', ⟨Nat.le_refl _⟩, ⟨by (with_reducible repeat (first | apply Va | apply Vn | apply Vd)); exact HO2.out⟩, ⟨by (with_reducible repeat (first | refine bN ?_ _ | refine bD ?_ | refine bA ?_ _)); exact BK101.out⟩, ⟨by repeat (first | (with_reducible first | exact HB.out | apply lA | apply lN | apply lD | refine lS ?_ GE101.out) | exact HB.out)⟩⟩
  case round =>
   clear H'
   try clear c1
   try clear c2
   try clear p2
   try clear c4
   try clear c4b0
   try clear c4b1
   try clear c4b2
   try clear hcz6_0
   try clear hcz6_1
   try clear hfz6_0
   try clear hfz6_1
   obtain ⟨x2_1, x21_1, rfl, HA, HK1, HO_2, BK101, HB⟩ := hrel
   cases gk with
   | zero => exact absurd HA.out (by simp [subst_Match.l0])
   | succ k1 =>
    have H := HA.out
    clear HA
    simp only [subst_Match.l0] at H
    by_cases c7 : x21_1 < (l0_1.length : Int)
    ·rw [if_pos c7] at H
     have c7b0 : decide (x21_1 < (l0_1.length : Int)) = true := decide_eq_true c7
     clear c7
     by_cases c8 : 0 ≤ x21_1
     ·rw [if_pos c8] at H
      have c8b0 : decide (0 ≤ x21_1) = true := decide_eq_true c8
      clear c8
      by_cases c9 : x21_1 < (l0_1.length : Int)
      ·rw [if_pos c9] at H
       have c9b0 : decide (x21_1 < (l0_1.length : Int)) = true := decide_eq_true c9
       clear c9
       replace H := Option.bind_eq_some_iff.mp H
       obtain ⟨⟨t104, t105, t106, t107⟩, A100, H⟩ := H
       replace H : (if t107 = true then (if x21_1 < (l1.length : Int) then ((value_Same.f k1 t104 t105 t106 ((rd_T24 l1 x21_1).isSym) ((rd_T24 l1 x21_1).sym) ((rd_T24 l1 x21_1).n)).bind fun t110 => (if t110 = true then (subst_Match.l0 k1 l1 x2_1 l0_1 (l0_1.length : Int) (wrap64 (x21_1 + 1))) else (some (([] : List (Pair)), false)))) else (none)) else (if x21_1 < (l1.length : Int) then ((subst_Env_With.f x2_1 ((rd_T49 l0_1 x21_1).name) ((rd_T24 l1 x21_1).isSym) ((rd_T24 l1 x21_1).sym) ((rd_T24 l1 x21_1).n)).bind fun t112 => (subst_Match.l0 k1 l1 t112 l0_1 (l0_1.length : Int) (wrap64 (x21_1 + 1)))) else (none))) = some (r1, r2) := H
       have A10 := am A100
       clear A100
       by_cases c11 : t107 = true
       ·subst c11
        have H1 : (if x21_1 < (l1.length : Int) then ((value_Same.f k1 t104 t105 t106 ((rd_T24 l1 x21_1).isSym) ((rd_T24 l1 x21_1).sym) ((rd_T24 l1 x21_1).n)).bind fun t110 => (if t110 = true then (subst_Match.l0 k1 l1 x2_1 l0_1 (l0_1.length : Int) (wrap64 (x21_1 + 1))) else (some (([] : List (Pair)), false)))) else (none)) = some (r1, r2) := by rw [if_pos rfl] at H; exact H
        clear H
        have H := H1
        clear H1
        by_cases c12 : x21_1 < (l1.length : Int)
        ·rw [if_pos c12] at H
         have c12b0 : decide (x21_1 < (l1.length : Int)) = true := decide_eq_true c12
         clear c12
         replace H := Option.bind_eq_some_iff.mp H
         obtain ⟨t110, A130, H⟩ := H
         replace H : (if t110 = true then (subst_Match.l0 k1 l1 x2_1 l0_1 (l0_1.length : Int) (wrap64 (x21_1 + 1))) else (some (([] : List (Pair)), false))) = some (r1, r2) := H
         have A13 := am A130
         clear A130
         by_cases c14 : t110 = true
         ·subst c14
          have H1 : (subst_Match.l0 k1 l1 x2_1 l0_1 (l0_1.length : Int) (wrap64 (x21_1 + 1))) = some (r1, r2) := by rw [if_pos rfl] at H; exact H
          clear H
          have H := H1
          clear H1
          have H' := am H
          clear H
          have p102 : 0 ≤ (x21_1 : Int) := of_decide_eq_true (by first | (with_reducible assumption) | assumption)
          have q102 : x21_1 < (l0_1.length : Int) := of_decide_eq_true (by first | (with_reducible assumption) | assumption)
          obtain ⟨ad102, e102, hx102_0, hx102_1, hx102_2, hx102_3, hx102_4⟩ := at_T49 HR0_1.out x21_1 p102 q102
          cases e102
          replace hx102_0 := (HB.out.cell (blt_ hx102_0)).trans hx102_0
          replace hx102_1 := (HB.out.cell (blt_ hx102_1)).trans hx102_1
          replace hx102_2 := (HB.out.cell (blt_ hx102_2)).trans hx102_2
          replace hx102_3 := (HB.out.cell (blt_ hx102_3)).trans hx102_3
          replace hx102_4 := (HB.out.cell (blt_ hx102_4)).trans hx102_4
          replace p102 := eq_true p102
          replace q102 := eq_true q102
          try go_wp2_with (first | ((with_reducible refine gate_dst (N := 9) rfl ?_); refine box_event ?hg (N := 9) ?hd (cs := #[.bool false, .string (⟨#[]⟩ : ByteArray), .bool false, .string (⟨#[]⟩ : ByteArray), .int .i64 0]) (t := 49) ?hr ?_; (case hd => rfl); (case hg => rfl); (case hr => first | (go_simp; done) | (go_simp; rfl)); intro gb103 hg w15 hbox hb; replace HO_2 := am (Kd.V_below (Kd.V_elderB (by (with_reducible repeat (first | apply Va | apply Vn | apply Vd)); exact HO_2.out) gb103 (Nat.le_of_eq hg.symm)) hb); have BK103 := am (hbox); have GW103 := am ((by rw [hg]; exact (below_size (by repeat (first | (with_reducible first | exact HB.out | apply lA | apply lN | apply lD | refine lS ?_ GE101.out) | exact HB.out))) : w.heap.size ≤ gb103)); have GE103 := am ((by rw [hg]; exact (below_size (by repeat (first | (with_reducible first | exact HB.out | apply lA | apply lN | apply lD | refine lS ?_ GE101.out) | exact HB.out))) : w.heap.size ≤ gb103)); replace HB := am (below_step (by repeat (first | (with_reducible first | exact HB.out | apply lA | apply lN | apply lD | refine lS ?_ GE101.out) | exact HB.out)) hb); have NB101_103 := am ((by rw [hg]; exact Nat.ne_of_lt (blk_lt (g := gb101) (o := .cells #[.string a0_0, .slice (some ad102) l0_1.length c0_1] 46 (0, 0)) (by (with_reducible repeat (first | refine bN ?_ _ | refine bD ?_ | refine bA ?_ _)); exact BK101.out)) : gb101 ≠ gb103)); have NB103_101 := am ((by rw [hg]; exact Nat.ne_of_gt (blk_lt (g := gb101) (o := .cells #[.string a0_0, .slice (some ad102) l0_1.length c0_1] 46 (0, 0)) (by (with_reducible repeat (first | refine bN ?_ _ | refine bD ?_ | refine bA ?_ _)); exact BK101.out)) : gb103 ≠ gb101)); replace BK101 := am (blk_below (g := gb101) (o := .cells #[.string a0_0, .slice (some ad102) l0_1.length c0_1] 46 (0, 0)) (by (with_reducible repeat (first | refine bN ?_ _ | refine bD ?_ | refine bA ?_ _)); exact BK101.out) hb); clear hb hbox hg; have hnb16 := NB103_101.out; have hnc16 := NB101_103.out; have hcz17_0 : w15.cell? ⟨gb103, 0, none⟩ = some (.bool false) := (blk_cell BK103.out 0).trans rfl; have hcz17_1 : w15.cell? ⟨gb103, 1, none⟩ = some (.string (⟨#[]⟩ : ByteArray)) := (blk_cell BK103.out 1).trans rfl; have hcz17_2 : w15.cell? ⟨gb103, 2, none⟩ = some (.bool false) := (blk_cell BK103.out 2).trans rfl; have hcz17_3 : w15.cell? ⟨gb103, 3, none⟩ = some (.string (⟨#[]⟩ : ByteArray)) := (blk_cell BK103.out 3).trans rfl; have hcz17_4 : w15.cell? ⟨gb103, 4, none⟩ = some (.int .i64 0) := (blk_cell BK103.out 4).trans rfl; have hfz17_0 := blk_frozen BK103.out 0; have hfz17_1 := blk_frozen BK103.out 1; have hfz17_2 := blk_frozen BK103.out 2; have hfz17_3 := blk_frozen BK103.out 3; have hfz17_4 := blk_frozen BK103.out 4; obtain ⟨Ao18, co18, eo18⟩ := Kd.V_slice HO_2.out; subst eo18) | ((with_reducible refine gate_callee (f := 28) rfl ?_); refine goesL_ (some 29) rfl rfl Try.func28 (by kernel_rfl) rfl #[.agg #[.bool ((rd_T49 l0_1 x21_1).isVar), .string ((rd_T49 l0_1 x21_1).name), .bool ((rd_T49 l0_1 x21_1).val.isSym), .string ((rd_T49 l0_1 x21_1).val.sym), .int .i64 ((rd_T49 l0_1 x21_1).val.n)], .slice Ao18 x2_1.length co18] rfl (by (try simp only [List.map_toArray, List.map_cons, List.map_nil]); first | done | rfl | (simp only [List.length_drop, List.length_take]; rfl)) ?_; (with_reducible refine (subst_Value.calls ((rd_T49 l0_1 x21_1).isVar) ((rd_T49 l0_1 x21_1).name) ((rd_T49 l0_1 x21_1).val.isSym) ((rd_T49 l0_1 x21_1).val.sym) ((rd_T49 l0_1 x21_1).val.n) _ _ x2_1 t104 t105 t106 true _ ?side1 ?side2 A10.out).mono ?_); (case side1 => refine (Kd.V_reads' (e := 41) (base := w.heap.size) (ok := fun k_ => (((P2_ k_ ∨ w.heap.size ≤ k_) ∧ k_ ≠ gb101) ∧ k_ ≠ gb103)) (n := x2_1.length) (c := co18) ?_).2.2; exact (by (with_reducible repeat (first | apply Va | apply Vn | apply Vd)); exact (Kd.V_mono (Kd.V_far (p := ⟨gb103, 4, none⟩) (Kd.V_far (p := ⟨gb103, 3, none⟩) (Kd.V_far (p := ⟨gb103, 2, none⟩) (Kd.V_far (p := ⟨gb103, 1, none⟩) (Kd.V_far (p := ⟨gb103, 0, none⟩) (Kd.V_mono HO_2.out (fun k_ hk => (⟨hk, hk.2⟩ : _ ∧ k_ ≠ gb103))) (fun _ hk => hk.2) _) (fun _ hk => hk.2) _) (fun _ hk => hk.2) _) (fun _ hk => hk.2) _) (fun _ hk => hk.2) _) (fun _ h_ => h_.1)))); (case side2 => exact (Kd.V_reads' HO_2.out).2.1); rintro e w19 ⟨rfl, hb⟩; refine ⟨_, rfl, ?_⟩; replace HO_2 := am (Kd.V_below (by (with_reducible repeat (first | apply Va | apply Vn | apply Vd)); exact (Kd.V_mono (Kd.V_far (p := ⟨gb103, 4, none⟩) (Kd.V_far (p := ⟨gb103, 3, none⟩) (Kd.V_far (p := ⟨gb103, 2, none⟩) (Kd.V_far (p := ⟨gb103, 1, none⟩) (Kd.V_far (p := ⟨gb103, 0, none⟩) (Kd.V_mono HO_2.out (fun k_ hk => (⟨hk, hk.2⟩ : _ ∧ k_ ≠ gb103))) (fun _ hk => hk.2) _) (fun _ hk => hk.2) _) (fun _ hk => hk.2) _) (fun _ hk => hk.2) _) (fun _ hk => hk.2) _) (fun _ h_ => h_.1))) hb); replace BK101 := am (blk_below (g := gb101) (o := .cells #[.string a0_0, .slice (some ad102) l0_1.length c0_1] 46 (0, 0)) (by repeat (first | (with_reducible first | exact BK101.out | refine bN ?_ _ | refine bD ?_ | refine bA ?_ _) | refine blk_far ?_ NB101_103.out _ | exact BK101.out)) hb); replace BK103 := am (blk_below (g := gb103) (o := .cells #[.bool ((rd_T49 l0_1 x21_1).isVar), .string ((rd_T49 l0_1 x21_1).name), .bool ((rd_T49 l0_1 x21_1).val.isSym), .string ((rd_T49 l0_1 x21_1).val.sym), .int .i64 ((rd_T49 l0_1 x21_1).val.n)] 49 (0, 0)) (by (with_reducible repeat (first | refine bN ?_ _ | refine bD ?_ | refine bA ?_ _)); refine blk_put (cs := #[.bool ((rd_T49 l0_1 x21_1).isVar), .string ((rd_T49 l0_1 x21_1).name), .bool ((rd_T49 l0_1 x21_1).val.isSym), .string ((rd_T49 l0_1 x21_1).val.sym), .int .i64 0]) ?_ 4 _ rfl; (with_reducible repeat (first | refine bN ?_ _ | refine bD ?_ | refine bA ?_ _)); refine blk_put (cs := #[.bool ((rd_T49 l0_1 x21_1).isVar), .string ((rd_T49 l0_1 x21_1).name), .bool ((rd_T49 l0_1 x21_1).val.isSym), .string (⟨#[]⟩ : ByteArray), .int .i64 0]) ?_ 3 _ rfl; (with_reducible repeat (first | refine bN ?_ _ | refine bD ?_ | refine bA ?_ _)); refine blk_put (cs := #[.bool ((rd_T49 l0_1 x21_1).isVar), .string ((rd_T49 l0_1 x21_1).name), .bool false, .string (⟨#[]⟩ : ByteArray), .int .i64 0]) ?_ 2 _ rfl; (with_reducible repeat (first | refine bN ?_ _ | refine bD ?_ | refine bA ?_ _)); refine blk_put (cs := #[.bool ((rd_T49 l0_1 x21_1).isVar), .string (⟨#[]⟩ : ByteArray), .bool false, .string (⟨#[]⟩ : ByteArray), .int .i64 0]) ?_ 1 _ rfl; (with_reducible repeat (first | refine bN ?_ _ | refine bD ?_ | refine bA ?_ _)); refine blk_put (cs := #[.bool false, .string (⟨#[]⟩ : ByteArray), .bool false, .string (⟨#[]⟩ : ByteArray), .int .i64 0]) ?_ 0 _ rfl; (with_reducible repeat (first | refine bN ?_ _ | refine bD ?_ | refine bA ?_ _)); exact BK103.out) hb); replace HB := am (below_step (by repeat (first | (with_reducible first | exact HB.out | apply lA | apply lN | apply lD | refine lS ?_ GE101.out | refine lS ?_ GE103.out) | exact HB.out)) hb); (try clear hb); (try clear hb2); (try clear hk); (try clear hi)) | ((with_reducible refine gate_dst (N := 10) rfl ?_); refine box_event ?hg (N := 10) ?hd (cs := #[.bool false, .string (⟨#[]⟩ : ByteArray), .int .i64 0]) (t := 24) ?hr ?_; (case hd => rfl); (case hg => rfl); (case hr => first | (go_simp; done) | (go_simp; rfl)); intro gb108 hg w20 hbox hb; replace HO_2 := am (Kd.V_below (Kd.V_elderB (by (with_reducible repeat (first | apply Va | apply Vn | apply Vd)); exact HO_2.out) gb108 (Nat.le_of_eq hg.symm)) hb); have BK108 := am (hbox); have GW108 := am ((by rw [hg]; exact (below_size (by repeat (first | (with_reducible first | exact HB.out | apply lA | apply lN | apply lD | refine lS ?_ GE101.out | refine lS ?_ GE103.out) | exact HB.out))) : w.heap.size ≤ gb108)); have GE108 := am ((by rw [hg]; exact (below_size (by repeat (first | (with_reducible first | exact HB.out | apply lA | apply lN | apply lD | refine lS ?_ GE101.out | refine lS ?_ GE103.out) | exact HB.out))) : w.heap.size ≤ gb108)); replace HB := am (below_step (by repeat (first | (with_reducible first | exact HB.out | apply lA | apply lN | apply lD | refine lS ?_ GE101.out | refine lS ?_ GE103.out) | exact HB.out)) hb); have NB101_108 := am ((by rw [hg]; exact Nat.ne_of_lt (blk_lt (g := gb101) (o := .cells #[.string a0_0, .slice (some ad102) l0_1.length c0_1] 46 (0, 0)) (by (with_reducible repeat (first | refine bN ?_ _ | refine bD ?_ | refine bA ?_ _)); exact BK101.out)) : gb101 ≠ gb108)); have NB108_101 := am ((by rw [hg]; exact Nat.ne_of_gt (blk_lt (g := gb101) (o := .cells #[.string a0_0, .slice (some ad102) l0_1.length c0_1] 46 (0, 0)) (by (with_reducible repeat (first | refine bN ?_ _ | refine bD ?_ | refine bA ?_ _)); exact BK101.out)) : gb108 ≠ gb101)); replace BK101 := am (blk_below (g := gb101) (o := .cells #[.string a0_0, .slice (some ad102) l0_1.length c0_1] 46 (0, 0)) (by (with_reducible repeat (first | refine bN ?_ _ | refine bD ?_ | refine bA ?_ _)); exact BK101.out) hb); have NB103_108 := am ((by rw [hg]; exact Nat.ne_of_lt (blk_lt (g := gb103) (o := .cells #[.bool ((rd_T49 l0_1 x21_1).isVar), .string ((rd_T49 l0_1 x21_1).name), .bool ((rd_T49 l0_1 x21_1).val.isSym), .string ((rd_T49 l0_1 x21_1).val.sym), .int .i64 ((rd_T49 l0_1 x21_1).val.n)] 49 (0, 0)) (by (with_reducible repeat (first | refine bN ?_ _ | refine bD ?_ | refine bA ?_ _)); exact BK103.out)) : gb103 ≠ gb108)); have NB108_103 := am ((by rw [hg]; exact Nat.ne_of_gt (blk_lt (g := gb103) (o := .cells #[.bool ((rd_T49 l0_1 x21_1).isVar), .string ((rd_T49 l0_1 x21_1).name), .bool ((rd_T49 l0_1 x21_1).val.isSym), .string ((rd_T49 l0_1 x21_1).val.sym), .int .i64 ((rd_T49 l0_1 x21_1).val.n)] 49 (0, 0)) (by (with_reducible repeat (first | refine bN ?_ _ | refine bD ?_ | refine bA ?_ _)); exact BK103.out)) : gb108 ≠ gb103)); replace BK103 := am (blk_below (g := gb103) (o := .cells #[.bool ((rd_T49 l0_1 x21_1).isVar), .string ((rd_T49 l0_1 x21_1).name), .bool ((rd_T49 l0_1 x21_1).val.isSym), .string ((rd_T49 l0_1 x21_1).val.sym), .int .i64 ((rd_T49 l0_1 x21_1).val.n)] 49 (0, 0)) (by (with_reducible repeat (first | refine bN ?_ _ | refine bD ?_ | refine bA ?_ _)); exact BK103.out) hb); clear hb hbox hg; have hnb21 := NB108_101.out; have hnc21 := NB101_108.out; have hnb22 := NB108_103.out; have hnc22 := NB103_108.out; have hcz23_0 : w20.cell? ⟨gb108, 0, none⟩ = some (.bool false) := (blk_cell BK108.out 0).trans rfl; have hcz23_1 : w20.cell? ⟨gb108, 1, none⟩ = some (.string (⟨#[]⟩ : ByteArray)) := (blk_cell BK108.out 1).trans rfl; have hcz23_2 : w20.cell? ⟨gb108, 2, none⟩ = some (.int .i64 0) := (blk_cell BK108.out 2).trans rfl; have hfz23_0 := blk_frozen BK108.out 0; have hfz23_1 := blk_frozen BK108.out 1; have hfz23_2 := blk_frozen BK108.out 2))
          have n0_ : Aside0 (Kd.V k41 41 (((w20.setCell ⟨gb108, 0, none⟩ (.bool t104)).setCell ⟨gb108, 1, none⟩ (.string t105)).setCell ⟨gb108, 2, none⟩ (.int .i64 t106)) w.heap.size (fun k_ => (P2_ k_ ∨ w.heap.size ≤ k_) ∧ k_ ≠ gb101 ∧ k_ ≠ gb103 ∧ k_ ≠ gb108) (.slice Ao18 x2_1.length co18) x2_1) := ⟨by (with_reducible repeat (first | apply Va | apply Vn | apply Vd)); exact Kd.V_mono (Kd.V_far (p := ⟨gb108, 2, none⟩) (Kd.V_far (p := ⟨gb108, 1, none⟩) (Kd.V_far (p := ⟨gb108, 0, none⟩) (Kd.V_mono HO_2.out (fun k_ hk => (⟨hk, hk.2⟩ : _ ∧ k_ ≠ gb108))) (fun _ hk => hk.2) _) (fun _ hk => hk.2) _) (fun _ hk => hk.2) _) (fun _ hk => ⟨hk.1.1.1.1, ⟨hk.1.1.1.2, ⟨hk.1.1.2, hk.1.2⟩⟩⟩)⟩
          have n1_ : Aside0 ((((w20.setCell ⟨gb108, 0, none⟩ (.bool t104)).setCell ⟨gb108, 1, none⟩ (.string t105)).setCell ⟨gb108, 2, none⟩ (.int .i64 t106)).heap[gb101]? = some (.cells #[.string a0_0, .slice (some ad102) l0_1.length c0_1] 46 (0, 0))) := ⟨by repeat (first | (with_reducible first | exact BK101.out | refine bN ?_ _ | refine bD ?_ | refine bA ?_ _) | refine blk_far ?_ NB101_108.out _ | exact BK101.out)⟩
          have n2_ : Aside0 ((((w20.setCell ⟨gb108, 0, none⟩ (.bool t104)).setCell ⟨gb108, 1, none⟩ (.string t105)).setCell ⟨gb108, 2, none⟩ (.int .i64 t106)).heap[gb103]? = some (.cells #[.bool ((rd_T49 l0_1 x21_1).isVar), .string ((rd_T49 l0_1 x21_1).name), .bool ((rd_T49 l0_1 x21_1).val.isSym), .string ((rd_T49 l0_1 x21_1).val.sym), .int .i64 ((rd_T49 l0_1 x21_1).val.n)] 49 (0, 0))) := ⟨by repeat (first | (with_reducible first | exact BK103.out | refine bN ?_ _ | refine bD ?_ | refine bA ?_ _) | refine blk_far ?_ NB103_108.out _ | exact BK103.out)⟩
          have n3_ : Aside0 ((((w20.setCell ⟨gb108, 0, none⟩ (.bool t104)).setCell ⟨gb108, 1, none⟩ (.string t105)).setCell ⟨gb108, 2, none⟩ (.int .i64 t106)).heap[gb108]? = some (.cells #[.bool t104, .string t105, .int .i64 t106] 24 (0, 0))) := ⟨by (with_reducible repeat (first | refine bN ?_ _ | refine bD ?_ | refine bA ?_ _)); refine blk_put (cs := #[.bool t104, .string t105, .int .i64 0]) ?_ 2 _ rfl; (with_reducible repeat (first | refine bN ?_ _ | refine bD ?_ | refine bA ?_ _)); refine blk_put (cs := #[.bool t104, .string (⟨#[]⟩ : ByteArray), .int .i64 0]) ?_ 1 _ rfl; (with_reducible repeat (first | refine bN ?_ _ | refine bD ?_ | refine bA ?_ _)); refine blk_put (cs := #[.bool false, .string (⟨#[]⟩ : ByteArray), .int .i64 0]) ?_ 0 _ rfl; (with_reducible repeat (first | refine bN ?_ _ | refine bD ?_ | refine bA ?_ _)); exact BK108.out⟩
          have n4_ : Aside0 (Below w.heap.size w (((w20.setCell ⟨gb108, 0, none⟩ (.bool t104)).setCell ⟨gb108, 1, none⟩ (.string t105)).setCell ⟨gb108, 2, none⟩ (.int .i64 t106))) := ⟨by repeat (first | (with_reducible first | exact HB.out | apply lA | apply lN | apply lD | refine lS ?_ GE101.out | refine lS ?_ GE103.out | refine lS ?_ GE108.out) | exact HB.out)⟩
          (try clear HO_2)
          (try clear BK101)
          (try clear BK103)
          (try clear BK108)
          (try clear HB)
          generalize (((w20.setCell ⟨gb108, 0, none⟩ (.bool t104)).setCell ⟨gb108, 1, none⟩ (.string t105)).setCell ⟨gb108, 2, none⟩ (.int .i64 t106)) = w24 at n0_ n1_ n2_ n3_ n4_ ⊢
          have HO_2 := n0_
          have BK101 := n1_
          have BK103 := n2_
          have BK108 := n3_
          have HB := n4_
          clear n0_ n1_ n2_ n3_ n4_
          replace HO_2 := am (Kd.V_drew HO_2.out)
          replace BK101 := am (blk_drew BK101.out)
          replace BK103 := am (blk_drew BK103.out)
          replace BK108 := am (blk_drew BK108.out)
          replace HB := am (below_drew1 HB.out)
          have p109 : 0 ≤ (x21_1 : Int) := of_decide_eq_true (by first | (with_reducible assumption) | assumption)
          have q109 : x21_1 < (l1.length : Int) := of_decide_eq_true (by first | (with_reducible assumption) | assumption)
          obtain ⟨ad109, e109, hx109_0, hx109_1, hx109_2⟩ := at_T24 HR1.out x21_1 p109 q109
          have hw109_2 := hx109_2
          have hw109_1 := hx109_1
          have hw109_0 := hx109_0
          cases e109
          replace hx109_0 := (HB.out.cell (blt_ hx109_0)).trans hx109_0
          replace hx109_1 := (HB.out.cell (blt_ hx109_1)).trans hx109_1
          replace hx109_2 := (HB.out.cell (blt_ hx109_2)).trans hx109_2
          replace p109 := eq_true p109
          replace q109 := eq_true q109
          refine start_ (n := 8) (S := fun w' => w'.cell? ⟨gb108, 0, none⟩ = some (.bool t104) ∧ w'.cell? ⟨gb108, 1, none⟩ = some (.string t105) ∧ w'.cell? ⟨gb108, 2, none⟩ = some (.int .i64 t106) ∧ w'.cell? (ad109.add ((x21_1).toNat * 3)) = some (.bool ((rd_T24 l1 x21_1).isSym)) ∧ w'.cell? ⟨(ad109.add ((x21_1).toNat * 3)).block, (ad109.add ((x21_1).toNat * 3)).off + 1, none⟩ = some (.string ((rd_T24 l1 x21_1).sym)) ∧ w'.cell? ⟨(ad109.add ((x21_1).toNat * 3)).block, (ad109.add ((x21_1).toNat * 3)).off + 2, none⟩ = some (.int .i64 ((rd_T24 l1 x21_1).n))) (ds := []) (bl 8 0) (by kernel_rfl) rfl rfl ⟨(blk_cell BK108.out 0).trans rfl, (blk_cell BK108.out 1).trans rfl, (blk_cell BK108.out 2).trans rfl, ((HB.out.cell (blt_ hw109_0)).trans hw109_0), ((HB.out.cell (blt_ hw109_1)).trans hw109_1), ((HB.out.cell (blt_ hw109_2)).trans hw109_2)⟩ (fun hHeld => ?_); refine with_tabW subst_Match.tab9 subst_Match.bits9 (fun HT_ HW_ => ?_)
          generalize w24.drew = w25 at HO_2 BK101 BK103 BK108 HB hx109_0 hx109_1 hx109_2 hHeld ⊢
          refine pure_ (i := 1) (N := some 45) (v := ?_) (a' := ?_) (bl 8 2) rfl rfl (any_of HT_.out (by kernel_rfl)) (fun _ _ _ h => h) (Or.inl ⟨by rfl, ?_⟩) ?_ ?_
          rotate_left
          ·intro w'
           go_simp
           with_reducible rfl
          rotate_left
          ·simp only [Act.put, sA, sZ, sS, i64_w, i32_w]
           rfl
          refine pure_ (i := 2) (N := some 46) (v := ?_) (a' := ?_) (bl 8 6) rfl rfl (any_of HT_.out (by kernel_rfl)) (fun _ _ _ h => h) (Or.inl ⟨by rfl, ?_⟩) ?_ ?_
          rotate_left
          ·intro w'
           go_simp
           with_reducible rfl
          rotate_left
          ·simp only [Act.put, sA, sZ, sS, i64_w, i32_w]
           rfl
          refine pure_ (i := 3) (N := some 47) (v := ?_) (a' := ?_) (bl 8 14) rfl rfl (any_of HT_.out (by kernel_rfl)) (fun _ _ _ h => h) (Or.inl ⟨by rfl, ?_⟩) ?_ ?_
          rotate_left
          ·intro w'
           go_simp
           with_reducible rfl
          rotate_left
          ·simp only [Act.put, sA, sZ, sS, i64_w, i32_w]
           rfl
          refine take_ (i := 0) (N := some 44) (v := ?_) (a' := ?_) (bl 8 15) rfl rfl (take_ofW HT_.out HW_.out (by kernel_rfl)) (fun _ _ _ h => h) (Or.inl ⟨by rfl, ?_⟩) hHeld ?_ ?_
          rotate_left
          ·rintro w' ⟨s0, s1, s2, s3, s4, s5⟩
           go_simp
           with_reducible rfl
          rotate_left
          ·simp only [Act.put, sA, sZ, sS, i64_w, i32_w]
           rfl
          refine take_ (i := 4) (N := some 48) (v := ?_) (a' := ?_) (bl 8 31) rfl rfl (take_ofW HT_.out HW_.out (by kernel_rfl)) (fun _ _ _ h => h) (Or.inl ⟨by rfl, ?_⟩) hHeld ?_ ?_
          rotate_left
          ·rintro w' ⟨s0, s1, s2, s3, s4, s5⟩
           go_simp
           with_reducible rfl
          rotate_left
          ·simp only [Act.put, sA, sZ, sS, i64_w, i32_w]
           rfl
          refine one_ (i := 5) (N := some 49) (bl 8 63) rfl rfl (one_of HT_.out (by kernel_rfl)) (by decide) (fun K hK => ?_)
          refine goes_ Try.func41 (by kernel_rfl) rfl #[.agg #[.bool t104, .string t105, .int .i64 t106], .agg #[.bool ((rd_T24 l1 x21_1).isSym), .string ((rd_T24 l1 x21_1).sym), .int .i64 ((rd_T24 l1 x21_1).n)]] (by rfl) rfl rfl (by (try simp only [List.map_toArray, List.map_cons, List.map_nil]); first | done | rfl | (simp only [List.length_drop, List.length_take]; rfl)) ?_
          with_reducible refine (value_Same.calls k1 t104 t105 t106 ((rd_T24 l1 x21_1).isSym) ((rd_T24 l1 x21_1).sym) ((rd_T24 l1 x21_1).n) true _ A13.out).mono ?_
          rintro e w26 ⟨rfl, hb⟩
          refine ⟨_, rfl, ?_⟩
          replace HO_2 := am (Kd.V_below (by (with_reducible repeat (first | apply Va | apply Vn | apply Vd)); exact HO_2.out) hb)
          replace BK101 := am (blk_below (g := gb101) (o := .cells #[.string a0_0, .slice (some ad102) l0_1.length c0_1] 46 (0, 0)) (by (with_reducible repeat (first | refine bN ?_ _ | refine bD ?_ | refine bA ?_ _)); exact BK101.out) hb)
          replace BK103 := am (blk_below (g := gb103) (o := .cells #[.bool ((rd_T49 l0_1 x21_1).isVar), .string ((rd_T49 l0_1 x21_1).name), .bool ((rd_T49 l0_1 x21_1).val.isSym), .string ((rd_T49 l0_1 x21_1).val.sym), .int .i64 ((rd_T49 l0_1 x21_1).val.n)] 49 (0, 0)) (by (with_reducible repeat (first | refine bN ?_ _ | refine bD ?_ | refine bA ?_ _)); exact BK103.out) hb)
          replace BK108 := am (blk_below (g := gb108) (o := .cells #[.bool t104, .string t105, .int .i64 t106] 24 (0, 0)) (by (with_reducible repeat (first | refine bN ?_ _ | refine bD ?_ | refine bA ?_ _)); exact BK108.out) hb)
          replace HB := am (below_step (by repeat (first | (with_reducible first | exact HB.out | apply lA | apply lN | apply lD | refine lS ?_ GE101.out | refine lS ?_ GE103.out | refine lS ?_ GE108.out) | exact HB.out)) hb)
          (try clear hb)
          (try clear hb2)
          (try clear hk)
          (try clear hi)
          refine hK.out _ _ ⟨(blk_cell BK108.out 0).trans rfl, (blk_cell BK108.out 1).trans rfl, (blk_cell BK108.out 2).trans rfl, ((HB.out.cell (blt_ hw109_0)).trans hw109_0), ((HB.out.cell (blt_ hw109_1)).trans hw109_1), ((HB.out.cell (blt_ hw109_2)).trans hw109_2)⟩ (fun hHeld => ?_)
          clear hK K
          refine norm_ (a' := ?_) ?_ ?_
          rotate_left
          ·show Act.put _ (some 49) _ = _
           simp only [Act.put, sA, sZ, sS, i64_w, i32_w]
           rfl
          refine pure_ (i := 6) (N := some 50) (v := ?_) (a' := ?_) (bl 8 127) rfl rfl (any_of HT_.out (by kernel_rfl)) (fun _ _ _ h => h) (Or.inl ⟨by rfl, ?_⟩) ?_ ?_
          rotate_left
          ·intro w'
           go_simp
           with_reducible rfl
          rotate_left
          ·simp only [Act.put, sA, sZ, sS, i64_w, i32_w]
           rfl
          refine pure_ (i := 7) (N := some 43) (v := ?_) (a' := ?_) (bl 8 255) rfl rfl (any_of HT_.out (by kernel_rfl)) (fun _ _ _ h => h) (Or.inl ⟨by rfl, ?_⟩) ?_ ?_
          rotate_left
          ·intro w'
           go_simp
           with_reducible rfl
          rotate_left
          ·simp only [Act.put, sA, sZ, sS, i64_w, i32_w]
           rfl
          refine done_ (done_of HT_.out (by kernel_rfl)) ?_
          try go_wp2
          go_roundg k1
          case measure => have := HK1.out; omega
          case rel => exact ⟨(x2_1), (wrap64 (x21_1 + 1)), (by first | rfl | (simp; done) | (simp [*]; done)), H', ⟨by have := HK1.out; omega⟩, ⟨by (with_reducible repeat (first | apply Va | apply Vn | apply Vd)); exact Kd.V_mono HO_2.out (fun _ hk => ⟨hk.1, hk.2.1⟩)⟩, ⟨by (with_reducible repeat (first | refine bN ?_ _ | refine bD ?_ | refine bA ?_ _)); exact BK101.out⟩, ⟨by repeat (first | (with_reducible first | exact HB.out | apply lA | apply lN | apply lD | refine lS ?_ GE101.out | refine lS ?_ GE103.out | refine lS ?_ GE108.out) | exact HB.out)⟩⟩
         ·replace c14 := Bool.eq_false_iff.mpr c14
          subst c14
          have H1 : (some (([] : List (Pair)), false)) = some (r1, r2) := by rw [if_neg (show ¬ (false = true) by decide)] at H; exact H
          clear H
          have H := H1
          clear H1
          simp only [Option.some.injEq, Prod.mk.injEq] at H
          obtain ⟨rfl, rfl⟩ := H
          have p102 : 0 ≤ (x21_1 : Int) := of_decide_eq_true (by first | (with_reducible assumption) | assumption)
          have q102 : x21_1 < (l0_1.length : Int) := of_decide_eq_true (by first | (with_reducible assumption) | assumption)
          obtain ⟨ad102, e102, hx102_0, hx102_1, hx102_2, hx102_3, hx102_4⟩ := at_T49 HR0_1.out x21_1 p102 q102
          cases e102
          replace hx102_0 := (HB.out.cell (blt_ hx102_0)).trans hx102_0
          replace hx102_1 := (HB.out.cell (blt_ hx102_1)).trans hx102_1
          replace hx102_2 := (HB.out.cell (blt_ hx102_2)).trans hx102_2
          replace hx102_3 := (HB.out.cell (blt_ hx102_3)).trans hx102_3
          replace hx102_4 := (HB.out.cell (blt_ hx102_4)).trans hx102_4
          replace p102 := eq_true p102
          replace q102 := eq_true q102
          try go_wp2_with (first | ((with_reducible refine gate_dst (N := 9) rfl ?_); refine box_event ?hg (N := 9) ?hd (cs := #[.bool false, .string (⟨#[]⟩ : ByteArray), .bool false, .string (⟨#[]⟩ : ByteArray), .int .i64 0]) (t := 49) ?hr ?_; (case hd => rfl); (case hg => rfl); (case hr => first | (go_simp; done) | (go_simp; rfl)); intro gb103 hg w27 hbox hb; replace HO_2 := am (Kd.V_below (Kd.V_elderB (by (with_reducible repeat (first | apply Va | apply Vn | apply Vd)); exact HO_2.out) gb103 (Nat.le_of_eq hg.symm)) hb); have BK103 := am (hbox); have GW103 := am ((by rw [hg]; exact (below_size (by repeat (first | (with_reducible first | exact HB.out | apply lA | apply lN | apply lD | refine lS ?_ GE101.out) | exact HB.out))) : w.heap.size ≤ gb103)); have GE103 := am ((by rw [hg]; exact (below_size (by repeat (first | (with_reducible first | exact HB.out | apply lA | apply lN | apply lD | refine lS ?_ GE101.out) | exact HB.out))) : w.heap.size ≤ gb103)); replace HB := am (below_step (by repeat (first | (with_reducible first | exact HB.out | apply lA | apply lN | apply lD | refine lS ?_ GE101.out) | exact HB.out)) hb); have NB101_103 := am ((by rw [hg]; exact Nat.ne_of_lt (blk_lt (g := gb101) (o := .cells #[.string a0_0, .slice (some ad102) l0_1.length c0_1] 46 (0, 0)) (by (with_reducible repeat (first | refine bN ?_ _ | refine bD ?_ | refine bA ?_ _)); exact BK101.out)) : gb101 ≠ gb103)); have NB103_101 := am ((by rw [hg]; exact Nat.ne_of_gt (blk_lt (g := gb101) (o := .cells #[.string a0_0, .slice (some ad102) l0_1.length c0_1] 46 (0, 0)) (by (with_reducible repeat (first | refine bN ?_ _ | refine bD ?_ | refine bA ?_ _)); exact BK101.out)) : gb103 ≠ gb101)); replace BK101 := am (blk_below (g := gb101) (o := .cells #[.string a0_0, .slice (some ad102) l0_1.length c0_1] 46 (0, 0)) (by (with_reducible repeat (first | refine bN ?_ _ | refine bD ?_ | refine bA ?_ _)); exact BK101.out) hb); clear hb hbox hg; have hnb28 := NB103_101.out; have hnc28 := NB101_103.out; have hcz29_0 : w27.cell? ⟨gb103, 0, none⟩ = some (.bool false) := (blk_cell BK103.out 0).trans rfl; have hcz29_1 : w27.cell? ⟨gb103, 1, none⟩ = some (.string (⟨#[]⟩ : ByteArray)) := (blk_cell BK103.out 1).trans rfl; have hcz29_2 : w27.cell? ⟨gb103, 2, none⟩ = some (.bool false) := (blk_cell BK103.out 2).trans rfl; have hcz29_3 : w27.cell? ⟨gb103, 3, none⟩ = some (.string (⟨#[]⟩ : ByteArray)) := (blk_cell BK103.out 3).trans rfl; have hcz29_4 : w27.cell? ⟨gb103, 4, none⟩ = some (.int .i64 0) := (blk_cell BK103.out 4).trans rfl; have hfz29_0 := blk_frozen BK103.out 0; have hfz29_1 := blk_frozen BK103.out 1; have hfz29_2 := blk_frozen BK103.out 2; have hfz29_3 := blk_frozen BK103.out 3; have hfz29_4 := blk_frozen BK103.out 4; obtain ⟨Ao30, co30, eo30⟩ := Kd.V_slice HO_2.out; subst eo30) | ((with_reducible refine gate_callee (f := 28) rfl ?_); refine goesL_ (some 29) rfl rfl Try.func28 (by kernel_rfl) rfl #[.agg #[.bool ((rd_T49 l0_1 x21_1).isVar), .string ((rd_T49 l0_1 x21_1).name), .bool ((rd_T49 l0_1 x21_1).val.isSym), .string ((rd_T49 l0_1 x21_1).val.sym), .int .i64 ((rd_T49 l0_1 x21_1).val.n)], .slice Ao30 x2_1.length co30] rfl (by (try simp only [List.map_toArray, List.map_cons, List.map_nil]); first | done | rfl | (simp only [List.length_drop, List.length_take]; rfl)) ?_; (with_reducible refine (subst_Value.calls ((rd_T49 l0_1 x21_1).isVar) ((rd_T49 l0_1 x21_1).name) ((rd_T49 l0_1 x21_1).val.isSym) ((rd_T49 l0_1 x21_1).val.sym) ((rd_T49 l0_1 x21_1).val.n) _ _ x2_1 t104 t105 t106 true _ ?side1 ?side2 A10.out).mono ?_); (case side1 => refine (Kd.V_reads' (e := 41) (base := w.heap.size) (ok := fun k_ => (((P2_ k_ ∨ w.heap.size ≤ k_) ∧ k_ ≠ gb101) ∧ k_ ≠ gb103)) (n := x2_1.length) (c := co30) ?_).2.2; exact (by (with_reducible repeat (first | apply Va | apply Vn | apply Vd)); exact (Kd.V_mono (Kd.V_far (p := ⟨gb103, 4, none⟩) (Kd.V_far (p := ⟨gb103, 3, none⟩) (Kd.V_far (p := ⟨gb103, 2, none⟩) (Kd.V_far (p := ⟨gb103, 1, none⟩) (Kd.V_far (p := ⟨gb103, 0, none⟩) (Kd.V_mono HO_2.out (fun k_ hk => (⟨hk, hk.2⟩ : _ ∧ k_ ≠ gb103))) (fun _ hk => hk.2) _) (fun _ hk => hk.2) _) (fun _ hk => hk.2) _) (fun _ hk => hk.2) _) (fun _ hk => hk.2) _) (fun _ h_ => h_.1)))); (case side2 => exact (Kd.V_reads' HO_2.out).2.1); rintro e w31 ⟨rfl, hb⟩; refine ⟨_, rfl, ?_⟩; replace HO_2 := am (Kd.V_below (by (with_reducible repeat (first | apply Va | apply Vn | apply Vd)); exact (Kd.V_mono (Kd.V_far (p := ⟨gb103, 4, none⟩) (Kd.V_far (p := ⟨gb103, 3, none⟩) (Kd.V_far (p := ⟨gb103, 2, none⟩) (Kd.V_far (p := ⟨gb103, 1, none⟩) (Kd.V_far (p := ⟨gb103, 0, none⟩) (Kd.V_mono HO_2.out (fun k_ hk => (⟨hk, hk.2⟩ : _ ∧ k_ ≠ gb103))) (fun _ hk => hk.2) _) (fun _ hk => hk.2) _) (fun _ hk => hk.2) _) (fun _ hk => hk.2) _) (fun _ hk => hk.2) _) (fun _ h_ => h_.1))) hb); replace BK101 := am (blk_below (g := gb101) (o := .cells #[.string a0_0, .slice (some ad102) l0_1.length c0_1] 46 (0, 0)) (by repeat (first | (with_reducible first | exact BK101.out | refine bN ?_ _ | refine bD ?_ | refine bA ?_ _) | refine blk_far ?_ NB101_103.out _ | exact BK101.out)) hb); replace BK103 := am (blk_below (g := gb103) (o := .cells #[.bool ((rd_T49 l0_1 x21_1).isVar), .string ((rd_T49 l0_1 x21_1).name), .bool ((rd_T49 l0_1 x21_1).val.isSym), .string ((rd_T49 l0_1 x21_1).val.sym), .int .i64 ((rd_T49 l0_1 x21_1).val.n)] 49 (0, 0)) (by (with_reducible repeat (first | refine bN ?_ _ | refine bD ?_ | refine bA ?_ _)); refine blk_put (cs := #[.bool ((rd_T49 l0_1 x21_1).isVar), .string ((rd_T49 l0_1 x21_1).name), .bool ((rd_T49 l0_1 x21_1).val.isSym), .string ((rd_T49 l0_1 x21_1).val.sym), .int .i64 0]) ?_ 4 _ rfl; (with_reducible repeat (first | refine bN ?_ _ | refine bD ?_ | refine bA ?_ _)); refine blk_put (cs := #[.bool ((rd_T49 l0_1 x21_1).isVar), .string ((rd_T49 l0_1 x21_1).name), .bool ((rd_T49 l0_1 x21_1).val.isSym), .string (⟨#[]⟩ : ByteArray), .int .i64 0]) ?_ 3 _ rfl; (with_reducible repeat (first | refine bN ?_ _ | refine bD ?_ | refine bA ?_ _)); refine blk_put (cs := #[.bool ((rd_T49 l0_1 x21_1).isVar), .string ((rd_T49 l0_1 x21_1).name), .bool false, .string (⟨#[]⟩ : ByteArray), .int .i64 0]) ?_ 2 _ rfl; (with_reducible repeat (first | refine bN ?_ _ | refine bD ?_ | refine bA ?_ _)); refine blk_put (cs := #[.bool ((rd_T49 l0_1 x21_1).isVar), .string (⟨#[]⟩ : ByteArray), .bool false, .string (⟨#[]⟩ : ByteArray), .int .i64 0]) ?_ 1 _ rfl; (with_reducible repeat (first | refine bN ?_ _ | refine bD ?_ | refine bA ?_ _)); refine blk_put (cs := #[.bool false, .string (⟨#[]⟩ : ByteArray), .bool false, .string (⟨#[]⟩ : ByteArray), .int .i64 0]) ?_ 0 _ rfl; (with_reducible repeat (first | refine bN ?_ _ | refine bD ?_ | refine bA ?_ _)); exact BK103.out) hb); replace HB := am (below_step (by repeat (first | (with_reducible first | exact HB.out | apply lA | apply lN | apply lD | refine lS ?_ GE101.out | refine lS ?_ GE103.out) | exact HB.out)) hb); (try clear hb); (try clear hb2); (try clear hk); (try clear hi)) | ((with_reducible refine gate_dst (N := 10) rfl ?_); refine box_event ?hg (N := 10) ?hd (cs := #[.bool false, .string (⟨#[]⟩ : ByteArray), .int .i64 0]) (t := 24) ?hr ?_; (case hd => rfl); (case hg => rfl); (case hr => first | (go_simp; done) | (go_simp; rfl)); intro gb108 hg w32 hbox hb; replace HO_2 := am (Kd.V_below (Kd.V_elderB (by (with_reducible repeat (first | apply Va | apply Vn | apply Vd)); exact HO_2.out) gb108 (Nat.le_of_eq hg.symm)) hb); have BK108 := am (hbox); have GW108 := am ((by rw [hg]; exact (below_size (by repeat (first | (with_reducible first | exact HB.out | apply lA | apply lN | apply lD | refine lS ?_ GE101.out | refine lS ?_ GE103.out) | exact HB.out))) : w.heap.size ≤ gb108)); have GE108 := am ((by rw [hg]; exact (below_size (by repeat (first | (with_reducible first | exact HB.out | apply lA | apply lN | apply lD | refine lS ?_ GE101.out | refine lS ?_ GE103.out) | exact HB.out))) : w.heap.size ≤ gb108)); replace HB := am (below_step (by repeat (first | (with_reducible first | exact HB.out | apply lA | apply lN | apply lD | refine lS ?_ GE101.out | refine lS ?_ GE103.out) | exact HB.out)) hb); have NB101_108 := am ((by rw [hg]; exact Nat.ne_of_lt (blk_lt (g := gb101) (o := .cells #[.string a0_0, .slice (some ad102) l0_1.length c0_1] 46 (0, 0)) (by (with_reducible repeat (first | refine bN ?_ _ | refine bD ?_ | refine bA ?_ _)); exact BK101.out)) : gb101 ≠ gb108)); have NB108_101 := am ((by rw [hg]; exact Nat.ne_of_gt (blk_lt (g := gb101) (o := .cells #[.string a0_0, .slice (some ad102) l0_1.length c0_1] 46 (0, 0)) (by (with_reducible repeat (first | refine bN ?_ _ | refine bD ?_ | refine bA ?_ _)); exact BK101.out)) : gb108 ≠ gb101)); replace BK101 := am (blk_below (g := gb101) (o := .cells #[.string a0_0, .slice (some ad102) l0_1.length c0_1] 46 (0, 0)) (by (with_reducible repeat (first | refine bN ?_ _ | refine bD ?_ | refine bA ?_ _)); exact BK101.out) hb); have NB103_108 := am ((by rw [hg]; exact Nat.ne_of_lt (blk_lt (g := gb103) (o := .cells #[.bool ((rd_T49 l0_1 x21_1).isVar), .string ((rd_T49 l0_1 x21_1).name), .bool ((rd_T49 l0_1 x21_1).val.isSym), .string ((rd_T49 l0_1 x21_1).val.sym), .int .i64 ((rd_T49 l0_1 x21_1).val.n)] 49 (0, 0)) (by (with_reducible repeat (first | refine bN ?_ _ | refine bD ?_ | refine bA ?_ _)); exact BK103.out)) : gb103 ≠ gb108)); have NB108_103 := am ((by rw [hg]; exact Nat.ne_of_gt (blk_lt (g := gb103) (o := .cells #[.bool ((rd_T49 l0_1 x21_1).isVar), .string ((rd_T49 l0_1 x21_1).name), .bool ((rd_T49 l0_1 x21_1).val.isSym), .string ((rd_T49 l0_1 x21_1).val.sym), .int .i64 ((rd_T49 l0_1 x21_1).val.n)] 49 (0, 0)) (by (with_reducible repeat (first | refine bN ?_ _ | refine bD ?_ | refine bA ?_ _)); exact BK103.out)) : gb108 ≠ gb103)); replace BK103 := am (blk_below (g := gb103) (o := .cells #[.bool ((rd_T49 l0_1 x21_1).isVar), .string ((rd_T49 l0_1 x21_1).name), .bool ((rd_T49 l0_1 x21_1).val.isSym), .string ((rd_T49 l0_1 x21_1).val.sym), .int .i64 ((rd_T49 l0_1 x21_1).val.n)] 49 (0, 0)) (by (with_reducible repeat (first | refine bN ?_ _ | refine bD ?_ | refine bA ?_ _)); exact BK103.out) hb); clear hb hbox hg; have hnb33 := NB108_101.out; have hnc33 := NB101_108.out; have hnb34 := NB108_103.out; have hnc34 := NB103_108.out; have hcz35_0 : w32.cell? ⟨gb108, 0, none⟩ = some (.bool false) := (blk_cell BK108.out 0).trans rfl; have hcz35_1 : w32.cell? ⟨gb108, 1, none⟩ = some (.string (⟨#[]⟩ : ByteArray)) := (blk_cell BK108.out 1).trans rfl; have hcz35_2 : w32.cell? ⟨gb108, 2, none⟩ = some (.int .i64 0) := (blk_cell BK108.out 2).trans rfl; have hfz35_0 := blk_frozen BK108.out 0; have hfz35_1 := blk_frozen BK108.out 1; have hfz35_2 := blk_frozen BK108.out 2))
          have n0_ : Aside0 (Kd.V k41 41 (((w32.setCell ⟨gb108, 0, none⟩ (.bool t104)).setCell ⟨gb108, 1, none⟩ (.string t105)).setCell ⟨gb108, 2, none⟩ (.int .i64 t106)) w.heap.size (fun k_ => (P2_ k_ ∨ w.heap.size ≤ k_) ∧ k_ ≠ gb101 ∧ k_ ≠ gb103 ∧ k_ ≠ gb108) (.slice Ao30 x2_1.length co30) x2_1) := ⟨by (with_reducible repeat (first | apply Va | apply Vn | apply Vd)); exact Kd.V_mono (Kd.V_far (p := ⟨gb108, 2, none⟩) (Kd.V_far (p := ⟨gb108, 1, none⟩) (Kd.V_far (p := ⟨gb108, 0, none⟩) (Kd.V_mono HO_2.out (fun k_ hk => (⟨hk, hk.2⟩ : _ ∧ k_ ≠ gb108))) (fun _ hk => hk.2) _) (fun _ hk => hk.2) _) (fun _ hk => hk.2) _) (fun _ hk => ⟨hk.1.1.1.1, ⟨hk.1.1.1.2, ⟨hk.1.1.2, hk.1.2⟩⟩⟩)⟩
          have n1_ : Aside0 ((((w32.setCell ⟨gb108, 0, none⟩ (.bool t104)).setCell ⟨gb108, 1, none⟩ (.string t105)).setCell ⟨gb108, 2, none⟩ (.int .i64 t106)).heap[gb101]? = some (.cells #[.string a0_0, .slice (some ad102) l0_1.length c0_1] 46 (0, 0))) := ⟨by repeat (first | (with_reducible first | exact BK101.out | refine bN ?_ _ | refine bD ?_ | refine bA ?_ _) | refine blk_far ?_ NB101_108.out _ | exact BK101.out)⟩
          have n2_ : Aside0 ((((w32.setCell ⟨gb108, 0, none⟩ (.bool t104)).setCell ⟨gb108, 1, none⟩ (.string t105)).setCell ⟨gb108, 2, none⟩ (.int .i64 t106)).heap[gb103]? = some (.cells #[.bool ((rd_T49 l0_1 x21_1).isVar), .string ((rd_T49 l0_1 x21_1).name), .bool ((rd_T49 l0_1 x21_1).val.isSym), .string ((rd_T49 l0_1 x21_1).val.sym), .int .i64 ((rd_T49 l0_1 x21_1).val.n)] 49 (0, 0))) := ⟨by repeat (first | (with_reducible first | exact BK103.out | refine bN ?_ _ | refine bD ?_ | refine bA ?_ _) | refine blk_far ?_ NB103_108.out _ | exact BK103.out)⟩
          have n3_ : Aside0 ((((w32.setCell ⟨gb108, 0, none⟩ (.bool t104)).setCell ⟨gb108, 1, none⟩ (.string t105)).setCell ⟨gb108, 2, none⟩ (.int .i64 t106)).heap[gb108]? = some (.cells #[.bool t104, .string t105, .int .i64 t106] 24 (0, 0))) := ⟨by (with_reducible repeat (first | refine bN ?_ _ | refine bD ?_ | refine bA ?_ _)); refine blk_put (cs := #[.bool t104, .string t105, .int .i64 0]) ?_ 2 _ rfl; (with_reducible repeat (first | refine bN ?_ _ | refine bD ?_ | refine bA ?_ _)); refine blk_put (cs := #[.bool t104, .string (⟨#[]⟩ : ByteArray), .int .i64 0]) ?_ 1 _ rfl; (with_reducible repeat (first | refine bN ?_ _ | refine bD ?_ | refine bA ?_ _)); refine blk_put (cs := #[.bool false, .string (⟨#[]⟩ : ByteArray), .int .i64 0]) ?_ 0 _ rfl; (with_reducible repeat (first | refine bN ?_ _ | refine bD ?_ | refine bA ?_ _)); exact BK108.out⟩
          have n4_ : Aside0 (Below w.heap.size w (((w32.setCell ⟨gb108, 0, none⟩ (.bool t104)).setCell ⟨gb108, 1, none⟩ (.string t105)).setCell ⟨gb108, 2, none⟩ (.int .i64 t106))) := ⟨by repeat (first | (with_reducible first | exact HB.out | apply lA | apply lN | apply lD | refine lS ?_ GE101.out | refine lS ?_ GE103.out | refine lS ?_ GE108.out) | exact HB.out)⟩
          (try clear HO_2)
          (try clear BK101)
          (try clear BK103)
          (try clear BK108)
          (try clear HB)
          generalize (((w32.setCell ⟨gb108, 0, none⟩ (.bool t104)).setCell ⟨gb108, 1, none⟩ (.string t105)).setCell ⟨gb108, 2, none⟩ (.int .i64 t106)) = w36 at n0_ n1_ n2_ n3_ n4_ ⊢
          have HO_2 := n0_
          have BK101 := n1_
          have BK103 := n2_
          have BK108 := n3_
          have HB := n4_
          clear n0_ n1_ n2_ n3_ n4_
          replace HO_2 := am (Kd.V_drew HO_2.out)
          replace BK101 := am (blk_drew BK101.out)
          replace BK103 := am (blk_drew BK103.out)
          replace BK108 := am (blk_drew BK108.out)
          replace HB := am (below_drew1 HB.out)
          have p109 : 0 ≤ (x21_1 : Int) := of_decide_eq_true (by first | (with_reducible assumption) | assumption)
          have q109 : x21_1 < (l1.length : Int) := of_decide_eq_true (by first | (with_reducible assumption) | assumption)
          obtain ⟨ad109, e109, hx109_0, hx109_1, hx109_2⟩ := at_T24 HR1.out x21_1 p109 q109
          have hw109_2 := hx109_2
          have hw109_1 := hx109_1
          have hw109_0 := hx109_0
          cases e109
          replace hx109_0 := (HB.out.cell (blt_ hx109_0)).trans hx109_0
          replace hx109_1 := (HB.out.cell (blt_ hx109_1)).trans hx109_1
          replace hx109_2 := (HB.out.cell (blt_ hx109_2)).trans hx109_2
          replace p109 := eq_true p109
          replace q109 := eq_true q109
          refine start_ (n := 8) (S := fun w' => w'.cell? ⟨gb108, 0, none⟩ = some (.bool t104) ∧ w'.cell? ⟨gb108, 1, none⟩ = some (.string t105) ∧ w'.cell? ⟨gb108, 2, none⟩ = some (.int .i64 t106) ∧ w'.cell? (ad109.add ((x21_1).toNat * 3)) = some (.bool ((rd_T24 l1 x21_1).isSym)) ∧ w'.cell? ⟨(ad109.add ((x21_1).toNat * 3)).block, (ad109.add ((x21_1).toNat * 3)).off + 1, none⟩ = some (.string ((rd_T24 l1 x21_1).sym)) ∧ w'.cell? ⟨(ad109.add ((x21_1).toNat * 3)).block, (ad109.add ((x21_1).toNat * 3)).off + 2, none⟩ = some (.int .i64 ((rd_T24 l1 x21_1).n))) (ds := []) (bl 8 0) (by kernel_rfl) rfl rfl ⟨(blk_cell BK108.out 0).trans rfl, (blk_cell BK108.out 1).trans rfl, (blk_cell BK108.out 2).trans rfl, ((HB.out.cell (blt_ hw109_0)).trans hw109_0), ((HB.out.cell (blt_ hw109_1)).trans hw109_1), ((HB.out.cell (blt_ hw109_2)).trans hw109_2)⟩ (fun hHeld => ?_); refine with_tabW subst_Match.tab9 subst_Match.bits9 (fun HT_ HW_ => ?_)
          generalize w36.drew = w37 at HO_2 BK101 BK103 BK108 HB hx109_0 hx109_1 hx109_2 hHeld ⊢
          refine pure_ (i := 1) (N := some 45) (v := ?_) (a' := ?_) (bl 8 2) rfl rfl (any_of HT_.out (by kernel_rfl)) (fun _ _ _ h => h) (Or.inl ⟨by rfl, ?_⟩) ?_ ?_
          rotate_left
          ·intro w'
           go_simp
           with_reducible rfl
          rotate_left
          ·simp only [Act.put, sA, sZ, sS, i64_w, i32_w]
           rfl
          refine pure_ (i := 2) (N := some 46) (v := ?_) (a' := ?_) (bl 8 6) rfl rfl (any_of HT_.out (by kernel_rfl)) (fun _ _ _ h => h) (Or.inl ⟨by rfl, ?_⟩) ?_ ?_
          rotate_left
          ·intro w'
           go_simp
           with_reducible rfl
          rotate_left
          ·simp only [Act.put, sA, sZ, sS, i64_w, i32_w]
           rfl
          refine pure_ (i := 3) (N := some 47) (v := ?_) (a' := ?_) (bl 8 14) rfl rfl (any_of HT_.out (by kernel_rfl)) (fun _ _ _ h => h) (Or.inl ⟨by rfl, ?_⟩) ?_ ?_
          rotate_left
          ·intro w'
           go_simp
           with_reducible rfl
          rotate_left
          ·simp only [Act.put, sA, sZ, sS, i64_w, i32_w]
           rfl
          refine take_ (i := 0) (N := some 44) (v := ?_) (a' := ?_) (bl 8 15) rfl rfl (take_ofW HT_.out HW_.out (by kernel_rfl)) (fun _ _ _ h => h) (Or.inl ⟨by rfl, ?_⟩) hHeld ?_ ?_
          rotate_left
          ·rintro w' ⟨s0, s1, s2, s3, s4, s5⟩
           go_simp
           with_reducible rfl
          rotate_left
          ·simp only [Act.put, sA, sZ, sS, i64_w, i32_w]
           rfl
          refine take_ (i := 4) (N := some 48) (v := ?_) (a' := ?_) (bl 8 31) rfl rfl (take_ofW HT_.out HW_.out (by kernel_rfl)) (fun _ _ _ h => h) (Or.inl ⟨by rfl, ?_⟩) hHeld ?_ ?_
          rotate_left
          ·rintro w' ⟨s0, s1, s2, s3, s4, s5⟩
           go_simp
           with_reducible rfl
          rotate_left
          ·simp only [Act.put, sA, sZ, sS, i64_w, i32_w]
           rfl
          refine one_ (i := 5) (N := some 49) (bl 8 63) rfl rfl (one_of HT_.out (by kernel_rfl)) (by decide) (fun K hK => ?_)
          refine goes_ Try.func41 (by kernel_rfl) rfl #[.agg #[.bool t104, .string t105, .int .i64 t106], .agg #[.bool ((rd_T24 l1 x21_1).isSym), .string ((rd_T24 l1 x21_1).sym), .int .i64 ((rd_T24 l1 x21_1).n)]] (by rfl) rfl rfl (by (try simp only [List.map_toArray, List.map_cons, List.map_nil]); first | done | rfl | (simp only [List.length_drop, List.length_take]; rfl)) ?_
          with_reducible refine (value_Same.calls k1 t104 t105 t106 ((rd_T24 l1 x21_1).isSym) ((rd_T24 l1 x21_1).sym) ((rd_T24 l1 x21_1).n) false _ A13.out).mono ?_
          rintro e w38 ⟨rfl, hb⟩
          refine ⟨_, rfl, ?_⟩
          replace HO_2 := am (Kd.V_below (by (with_reducible repeat (first | apply Va | apply Vn | apply Vd)); exact HO_2.out) hb)
          replace BK101 := am (blk_below (g := gb101) (o := .cells #[.string a0_0, .slice (some ad102) l0_1.length c0_1] 46 (0, 0)) (by (with_reducible repeat (first | refine bN ?_ _ | refine bD ?_ | refine bA ?_ _)); exact BK101.out) hb)
          replace BK103 := am (blk_below (g := gb103) (o := .cells #[.bool ((rd_T49 l0_1 x21_1).isVar), .string ((rd_T49 l0_1 x21_1).name), .bool ((rd_T49 l0_1 x21_1).val.isSym), .string ((rd_T49 l0_1 x21_1).val.sym), .int .i64 ((rd_T49 l0_1 x21_1).val.n)] 49 (0, 0)) (by (with_reducible repeat (first | refine bN ?_ _ | refine bD ?_ | refine bA ?_ _)); exact BK103.out) hb)
          replace BK108 := am (blk_below (g := gb108) (o := .cells #[.bool t104, .string t105, .int .i64 t106] 24 (0, 0)) (by (with_reducible repeat (first | refine bN ?_ _ | refine bD ?_ | refine bA ?_ _)); exact BK108.out) hb)
          replace HB := am (below_step (by repeat (first | (with_reducible first | exact HB.out | apply lA | apply lN | apply lD | refine lS ?_ GE101.out | refine lS ?_ GE103.out | refine lS ?_ GE108.out) | exact HB.out)) hb)
          (try clear hb)
          (try clear hb2)
          (try clear hk)
          (try clear hi)
          refine hK.out _ _ ⟨(blk_cell BK108.out 0).trans rfl, (blk_cell BK108.out 1).trans rfl, (blk_cell BK108.out 2).trans rfl, ((HB.out.cell (blt_ hw109_0)).trans hw109_0), ((HB.out.cell (blt_ hw109_1)).trans hw109_1), ((HB.out.cell (blt_ hw109_2)).trans hw109_2)⟩ (fun hHeld => ?_)
          clear hK K
          refine norm_ (a' := ?_) ?_ ?_
          rotate_left
          ·show Act.put _ (some 49) _ = _
           simp only [Act.put, sA, sZ, sS, i64_w, i32_w]
           rfl
          refine pure_ (i := 6) (N := some 50) (v := ?_) (a' := ?_) (bl 8 127) rfl rfl (any_of HT_.out (by kernel_rfl)) (fun _ _ _ h => h) (Or.inl ⟨by rfl, ?_⟩) ?_ ?_
          rotate_left
          ·intro w'
           go_simp
           with_reducible rfl
          rotate_left
          ·simp only [Act.put, sA, sZ, sS, i64_w, i32_w]
           rfl
          refine pure_ (i := 7) (N := some 43) (v := ?_) (a' := ?_) (bl 8 255) rfl rfl (any_of HT_.out (by kernel_rfl)) (fun _ _ _ h => h) (Or.inl ⟨by rfl, ?_⟩) ?_ ?_
          rotate_left
          ·intro w'
           go_simp
           with_reducible rfl
          rotate_left
          ·simp only [Act.put, sA, sZ, sS, i64_w, i32_w]
           rfl
          refine done_ (done_of HT_.out (by kernel_rfl)) ?_
          try go_wp2
          go_ret2
          exact ⟨_, by first | rfl | (simp [errW_none, errW_some] <;> rfl) | (simp [*, errW_none, errW_some] <;> rfl), (by first | exact Kd.V_nil _ _ _ _ _ | exact Kd.V_mono (Kd.R_V (by first | exact Kd.R_nil _ _ _ _ _ | exact Kd.N_nil _ _ _ _ _ | exact Kd.V_nil _ _ _ _ _ | exact Kd.Q_nil _ _ _ _ _ | exact Kd.S_nil _ _ _ _ _)) (fun k_ hk => by first | exact ⟨(.inr (hk.1)), hk.2⟩ | exact (.inr (hk)))), by repeat (first | (with_reducible first | exact HB.out | apply lA | apply lN | apply lD | refine lS ?_ GE101.out | refine lS ?_ GE103.out | refine lS ?_ GE108.out) | exact HB.out)⟩
        ·rw [if_neg c12] at H
         exact absurd H (by simp)
       ·replace c11 := Bool.eq_false_iff.mpr c11
        subst c11
        have H1 : (if x21_1 < (l1.length : Int) then ((subst_Env_With.f x2_1 ((rd_T49 l0_1 x21_1).name) ((rd_T24 l1 x21_1).isSym) ((rd_T24 l1 x21_1).sym) ((rd_T24 l1 x21_1).n)).bind fun t112 => (subst_Match.l0 k1 l1 t112 l0_1 (l0_1.length : Int) (wrap64 (x21_1 + 1)))) else (none)) = some (r1, r2) := by rw [if_neg (show ¬ (false = true) by decide)] at H; exact H
        clear H
        have H := H1
        clear H1
        by_cases c39 : x21_1 < (l1.length : Int)
        ·rw [if_pos c39] at H
         have c39b0 : decide (x21_1 < (l1.length : Int)) = true := decide_eq_true c39
         clear c39
         replace H := Option.bind_eq_some_iff.mp H
         obtain ⟨t112, A400, H⟩ := H
         replace H : (subst_Match.l0 k1 l1 t112 l0_1 (l0_1.length : Int) (wrap64 (x21_1 + 1))) = some (r1, r2) := H
         have A40 := am A400
         clear A400
         have H' := am H
         clear H
         have p102 : 0 ≤ (x21_1 : Int) := of_decide_eq_true (by first | (with_reducible assumption) | assumption)
         have q102 : x21_1 < (l0_1.length : Int) := of_decide_eq_true (by first | (with_reducible assumption) | assumption)
         obtain ⟨ad102, e102, hx102_0, hx102_1, hx102_2, hx102_3, hx102_4⟩ := at_T49 HR0_1.out x21_1 p102 q102
         cases e102
         replace hx102_0 := (HB.out.cell (blt_ hx102_0)).trans hx102_0
         replace hx102_1 := (HB.out.cell (blt_ hx102_1)).trans hx102_1
         replace hx102_2 := (HB.out.cell (blt_ hx102_2)).trans hx102_2
         replace hx102_3 := (HB.out.cell (blt_ hx102_3)).trans hx102_3
         replace hx102_4 := (HB.out.cell (blt_ hx102_4)).trans hx102_4
         replace p102 := eq_true p102
         replace q102 := eq_true q102
         try go_wp2_with (first | ((with_reducible refine gate_dst (N := 9) rfl ?_); refine box_event ?hg (N := 9) ?hd (cs := #[.bool false, .string (⟨#[]⟩ : ByteArray), .bool false, .string (⟨#[]⟩ : ByteArray), .int .i64 0]) (t := 49) ?hr ?_; (case hd => rfl); (case hg => rfl); (case hr => first | (go_simp; done) | (go_simp; rfl)); intro gb103 hg w41 hbox hb; replace HO_2 := am (Kd.V_below (Kd.V_elderB (by (with_reducible repeat (first | apply Va | apply Vn | apply Vd)); exact HO_2.out) gb103 (Nat.le_of_eq hg.symm)) hb); have BK103 := am (hbox); have GW103 := am ((by rw [hg]; exact (below_size (by repeat (first | (with_reducible first | exact HB.out | apply lA | apply lN | apply lD | refine lS ?_ GE101.out) | exact HB.out))) : w.heap.size ≤ gb103)); have GE103 := am ((by rw [hg]; exact (below_size (by repeat (first | (with_reducible first | exact HB.out | apply lA | apply lN | apply lD | refine lS ?_ GE101.out) | exact HB.out))) : w.heap.size ≤ gb103)); replace HB := am (below_step (by repeat (first | (with_reducible first | exact HB.out | apply lA | apply lN | apply lD | refine lS ?_ GE101.out) | exact HB.out)) hb); have NB101_103 := am ((by rw [hg]; exact Nat.ne_of_lt (blk_lt (g := gb101) (o := .cells #[.string a0_0, .slice (some ad102) l0_1.length c0_1] 46 (0, 0)) (by (with_reducible repeat (first | refine bN ?_ _ | refine bD ?_ | refine bA ?_ _)); exact BK101.out)) : gb101 ≠ gb103)); have NB103_101 := am ((by rw [hg]; exact Nat.ne_of_gt (blk_lt (g := gb101) (o := .cells #[.string a0_0, .slice (some ad102) l0_1.length c0_1] 46 (0, 0)) (by (with_reducible repeat (first | refine bN ?_ _ | refine bD ?_ | refine bA ?_ _)); exact BK101.out)) : gb103 ≠ gb101)); replace BK101 := am (blk_below (g := gb101) (o := .cells #[.string a0_0, .slice (some ad102) l0_1.length c0_1] 46 (0, 0)) (by (with_reducible repeat (first | refine bN ?_ _ | refine bD ?_ | refine bA ?_ _)); exact BK101.out) hb); clear hb hbox hg; have hnb42 := NB103_101.out; have hnc42 := NB101_103.out; have hcz43_0 : w41.cell? ⟨gb103, 0, none⟩ = some (.bool false) := (blk_cell BK103.out 0).trans rfl; have hcz43_1 : w41.cell? ⟨gb103, 1, none⟩ = some (.string (⟨#[]⟩ : ByteArray)) := (blk_cell BK103.out 1).trans rfl; have hcz43_2 : w41.cell? ⟨gb103, 2, none⟩ = some (.bool false) := (blk_cell BK103.out 2).trans rfl; have hcz43_3 : w41.cell? ⟨gb103, 3, none⟩ = some (.string (⟨#[]⟩ : ByteArray)) := (blk_cell BK103.out 3).trans rfl; have hcz43_4 : w41.cell? ⟨gb103, 4, none⟩ = some (.int .i64 0) := (blk_cell BK103.out 4).trans rfl; have hfz43_0 := blk_frozen BK103.out 0; have hfz43_1 := blk_frozen BK103.out 1; have hfz43_2 := blk_frozen BK103.out 2; have hfz43_3 := blk_frozen BK103.out 3; have hfz43_4 := blk_frozen BK103.out 4; obtain ⟨Ao44, co44, eo44⟩ := Kd.V_slice HO_2.out; subst eo44) | ((with_reducible refine gate_callee (f := 28) rfl ?_); refine goesL_ (some 29) rfl rfl Try.func28 (by kernel_rfl) rfl #[.agg #[.bool ((rd_T49 l0_1 x21_1).isVar), .string ((rd_T49 l0_1 x21_1).name), .bool ((rd_T49 l0_1 x21_1).val.isSym), .string ((rd_T49 l0_1 x21_1).val.sym), .int .i64 ((rd_T49 l0_1 x21_1).val.n)], .slice Ao44 x2_1.length co44] rfl (by (try simp only [List.map_toArray, List.map_cons, List.map_nil]); first | done | rfl | (simp only [List.length_drop, List.length_take]; rfl)) ?_; (with_reducible refine (subst_Value.calls ((rd_T49 l0_1 x21_1).isVar) ((rd_T49 l0_1 x21_1).name) ((rd_T49 l0_1 x21_1).val.isSym) ((rd_T49 l0_1 x21_1).val.sym) ((rd_T49 l0_1 x21_1).val.n) _ _ x2_1 t104 t105 t106 false _ ?side1 ?side2 A10.out).mono ?_); (case side1 => refine (Kd.V_reads' (e := 41) (base := w.heap.size) (ok := fun k_ => (((P2_ k_ ∨ w.heap.size ≤ k_) ∧ k_ ≠ gb101) ∧ k_ ≠ gb103)) (n := x2_1.length) (c := co44) ?_).2.2; exact (by (with_reducible repeat (first | apply Va | apply Vn | apply Vd)); exact (Kd.V_mono (Kd.V_far (p := ⟨gb103, 4, none⟩) (Kd.V_far (p := ⟨gb103, 3, none⟩) (Kd.V_far (p := ⟨gb103, 2, none⟩) (Kd.V_far (p := ⟨gb103, 1, none⟩) (Kd.V_far (p := ⟨gb103, 0, none⟩) (Kd.V_mono HO_2.out (fun k_ hk => (⟨hk, hk.2⟩ : _ ∧ k_ ≠ gb103))) (fun _ hk => hk.2) _) (fun _ hk => hk.2) _) (fun _ hk => hk.2) _) (fun _ hk => hk.2) _) (fun _ hk => hk.2) _) (fun _ h_ => h_.1)))); (case side2 => exact (Kd.V_reads' HO_2.out).2.1); rintro e w45 ⟨rfl, hb⟩; refine ⟨_, rfl, ?_⟩; replace HO_2 := am (Kd.V_below (by (with_reducible repeat (first | apply Va | apply Vn | apply Vd)); exact (Kd.V_mono (Kd.V_far (p := ⟨gb103, 4, none⟩) (Kd.V_far (p := ⟨gb103, 3, none⟩) (Kd.V_far (p := ⟨gb103, 2, none⟩) (Kd.V_far (p := ⟨gb103, 1, none⟩) (Kd.V_far (p := ⟨gb103, 0, none⟩) (Kd.V_mono HO_2.out (fun k_ hk => (⟨hk, hk.2⟩ : _ ∧ k_ ≠ gb103))) (fun _ hk => hk.2) _) (fun _ hk => hk.2) _) (fun _ hk => hk.2) _) (fun _ hk => hk.2) _) (fun _ hk => hk.2) _) (fun _ h_ => h_.1))) hb); replace BK101 := am (blk_below (g := gb101) (o := .cells #[.string a0_0, .slice (some ad102) l0_1.length c0_1] 46 (0, 0)) (by repeat (first | (with_reducible first | exact BK101.out | refine bN ?_ _ | refine bD ?_ | refine bA ?_ _) | refine blk_far ?_ NB101_103.out _ | exact BK101.out)) hb); replace BK103 := am (blk_below (g := gb103) (o := .cells #[.bool ((rd_T49 l0_1 x21_1).isVar), .string ((rd_T49 l0_1 x21_1).name), .bool ((rd_T49 l0_1 x21_1).val.isSym), .string ((rd_T49 l0_1 x21_1).val.sym), .int .i64 ((rd_T49 l0_1 x21_1).val.n)] 49 (0, 0)) (by (with_reducible repeat (first | refine bN ?_ _ | refine bD ?_ | refine bA ?_ _)); refine blk_put (cs := #[.bool ((rd_T49 l0_1 x21_1).isVar), .string ((rd_T49 l0_1 x21_1).name), .bool ((rd_T49 l0_1 x21_1).val.isSym), .string ((rd_T49 l0_1 x21_1).val.sym), .int .i64 0]) ?_ 4 _ rfl; (with_reducible repeat (first | refine bN ?_ _ | refine bD ?_ | refine bA ?_ _)); refine blk_put (cs := #[.bool ((rd_T49 l0_1 x21_1).isVar), .string ((rd_T49 l0_1 x21_1).name), .bool ((rd_T49 l0_1 x21_1).val.isSym), .string (⟨#[]⟩ : ByteArray), .int .i64 0]) ?_ 3 _ rfl; (with_reducible repeat (first | refine bN ?_ _ | refine bD ?_ | refine bA ?_ _)); refine blk_put (cs := #[.bool ((rd_T49 l0_1 x21_1).isVar), .string ((rd_T49 l0_1 x21_1).name), .bool false, .string (⟨#[]⟩ : ByteArray), .int .i64 0]) ?_ 2 _ rfl; (with_reducible repeat (first | refine bN ?_ _ | refine bD ?_ | refine bA ?_ _)); refine blk_put (cs := #[.bool ((rd_T49 l0_1 x21_1).isVar), .string (⟨#[]⟩ : ByteArray), .bool false, .string (⟨#[]⟩ : ByteArray), .int .i64 0]) ?_ 1 _ rfl; (with_reducible repeat (first | refine bN ?_ _ | refine bD ?_ | refine bA ?_ _)); refine blk_put (cs := #[.bool false, .string (⟨#[]⟩ : ByteArray), .bool false, .string (⟨#[]⟩ : ByteArray), .int .i64 0]) ?_ 0 _ rfl; (with_reducible repeat (first | refine bN ?_ _ | refine bD ?_ | refine bA ?_ _)); exact BK103.out) hb); replace HB := am (below_step (by repeat (first | (with_reducible first | exact HB.out | apply lA | apply lN | apply lD | refine lS ?_ GE101.out | refine lS ?_ GE103.out) | exact HB.out)) hb); (try clear hb); (try clear hb2); (try clear hk); (try clear hi)) | ((with_reducible refine gate_dst (N := 10) rfl ?_); refine box_event ?hg (N := 10) ?hd (cs := #[.bool false, .string (⟨#[]⟩ : ByteArray), .int .i64 0]) (t := 24) ?hr ?_; (case hd => rfl); (case hg => rfl); (case hr => first | (go_simp; done) | (go_simp; rfl)); intro gb108 hg w46 hbox hb; replace HO_2 := am (Kd.V_below (Kd.V_elderB (by (with_reducible repeat (first | apply Va | apply Vn | apply Vd)); exact HO_2.out) gb108 (Nat.le_of_eq hg.symm)) hb); have BK108 := am (hbox); have GW108 := am ((by rw [hg]; exact (below_size (by repeat (first | (with_reducible first | exact HB.out | apply lA | apply lN | apply lD | refine lS ?_ GE101.out | refine lS ?_ GE103.out) | exact HB.out))) : w.heap.size ≤ gb108)); have GE108 := am ((by rw [hg]; exact (below_size (by repeat (first | (with_reducible first | exact HB.out | apply lA | apply lN | apply lD | refine lS ?_ GE101.out | refine lS ?_ GE103.out) | exact HB.out))) : w.heap.size ≤ gb108)); replace HB := am (below_step (by repeat (first | (with_reducible first | exact HB.out | apply lA | apply lN | apply lD | refine lS ?_ GE101.out | refine lS ?_ GE103.out) | exact HB.out)) hb); have NB101_108 := am ((by rw [hg]; exact Nat.ne_of_lt (blk_lt (g := gb101) (o := .cells #[.string a0_0, .slice (some ad102) l0_1.length c0_1] 46 (0, 0)) (by (with_reducible repeat (first | refine bN ?_ _ | refine bD ?_ | refine bA ?_ _)); exact BK101.out)) : gb101 ≠ gb108)); have NB108_101 := am ((by rw [hg]; exact Nat.ne_of_gt (blk_lt (g := gb101) (o := .cells #[.string a0_0, .slice (some ad102) l0_1.length c0_1] 46 (0, 0)) (by (with_reducible repeat (first | refine bN ?_ _ | refine bD ?_ | refine bA ?_ _)); exact BK101.out)) : gb108 ≠ gb101)); replace BK101 := am (blk_below (g := gb101) (o := .cells #[.string a0_0, .slice (some ad102) l0_1.length c0_1] 46 (0, 0)) (by (with_reducible repeat (first | refine bN ?_ _ | refine bD ?_ | refine bA ?_ _)); exact BK101.out) hb); have NB103_108 := am ((by rw [hg]; exact Nat.ne_of_lt (blk_lt (g := gb103) (o := .cells #[.bool ((rd_T49 l0_1 x21_1).isVar), .string ((rd_T49 l0_1 x21_1).name), .bool ((rd_T49 l0_1 x21_1).val.isSym), .string ((rd_T49 l0_1 x21_1).val.sym), .int .i64 ((rd_T49 l0_1 x21_1).val.n)] 49 (0, 0)) (by (with_reducible repeat (first | refine bN ?_ _ | refine bD ?_ | refine bA ?_ _)); exact BK103.out)) : gb103 ≠ gb108)); have NB108_103 := am ((by rw [hg]; exact Nat.ne_of_gt (blk_lt (g := gb103) (o := .cells #[.bool ((rd_T49 l0_1 x21_1).isVar), .string ((rd_T49 l0_1 x21_1).name), .bool ((rd_T49 l0_1 x21_1).val.isSym), .string ((rd_T49 l0_1 x21_1).val.sym), .int .i64 ((rd_T49 l0_1 x21_1).val.n)] 49 (0, 0)) (by (with_reducible repeat (first | refine bN ?_ _ | refine bD ?_ | refine bA ?_ _)); exact BK103.out)) : gb108 ≠ gb103)); replace BK103 := am (blk_below (g := gb103) (o := .cells #[.bool ((rd_T49 l0_1 x21_1).isVar), .string ((rd_T49 l0_1 x21_1).name), .bool ((rd_T49 l0_1 x21_1).val.isSym), .string ((rd_T49 l0_1 x21_1).val.sym), .int .i64 ((rd_T49 l0_1 x21_1).val.n)] 49 (0, 0)) (by (with_reducible repeat (first | refine bN ?_ _ | refine bD ?_ | refine bA ?_ _)); exact BK103.out) hb); clear hb hbox hg; have hnb47 := NB108_101.out; have hnc47 := NB101_108.out; have hnb48 := NB108_103.out; have hnc48 := NB103_108.out; have hcz49_0 : w46.cell? ⟨gb108, 0, none⟩ = some (.bool false) := (blk_cell BK108.out 0).trans rfl; have hcz49_1 : w46.cell? ⟨gb108, 1, none⟩ = some (.string (⟨#[]⟩ : ByteArray)) := (blk_cell BK108.out 1).trans rfl; have hcz49_2 : w46.cell? ⟨gb108, 2, none⟩ = some (.int .i64 0) := (blk_cell BK108.out 2).trans rfl; have hfz49_0 := blk_frozen BK108.out 0; have hfz49_1 := blk_frozen BK108.out 1; have hfz49_2 := blk_frozen BK108.out 2))
         have n0_ : Aside0 (Kd.V k41 41 (((w46.setCell ⟨gb108, 0, none⟩ (.bool t104)).setCell ⟨gb108, 1, none⟩ (.string t105)).setCell ⟨gb108, 2, none⟩ (.int .i64 t106)) w.heap.size (fun k_ => (P2_ k_ ∨ w.heap.size ≤ k_) ∧ k_ ≠ gb101 ∧ k_ ≠ gb103 ∧ k_ ≠ gb108) (.slice Ao44 x2_1.length co44) x2_1) := ⟨by (with_reducible repeat (first | apply Va | apply Vn | apply Vd)); exact Kd.V_mono (Kd.V_far (p := ⟨gb108, 2, none⟩) (Kd.V_far (p := ⟨gb108, 1, none⟩) (Kd.V_far (p := ⟨gb108, 0, none⟩) (Kd.V_mono HO_2.out (fun k_ hk => (⟨hk, hk.2⟩ : _ ∧ k_ ≠ gb108))) (fun _ hk => hk.2) _) (fun _ hk => hk.2) _) (fun _ hk => hk.2) _) (fun _ hk => ⟨hk.1.1.1.1, ⟨hk.1.1.1.2, ⟨hk.1.1.2, hk.1.2⟩⟩⟩)⟩
         have n1_ : Aside0 ((((w46.setCell ⟨gb108, 0, none⟩ (.bool t104)).setCell ⟨gb108, 1, none⟩ (.string t105)).setCell ⟨gb108, 2, none⟩ (.int .i64 t106)).heap[gb101]? = some (.cells #[.string a0_0, .slice (some ad102) l0_1.length c0_1] 46 (0, 0))) := ⟨by repeat (first | (with_reducible first | exact BK101.out | refine bN ?_ _ | refine bD ?_ | refine bA ?_ _) | refine blk_far ?_ NB101_108.out _ | exact BK101.out)⟩
         have n2_ : Aside0 ((((w46.setCell ⟨gb108, 0, none⟩ (.bool t104)).setCell ⟨gb108, 1, none⟩ (.string t105)).setCell ⟨gb108, 2, none⟩ (.int .i64 t106)).heap[gb103]? = some (.cells #[.bool ((rd_T49 l0_1 x21_1).isVar), .string ((rd_T49 l0_1 x21_1).name), .bool ((rd_T49 l0_1 x21_1).val.isSym), .string ((rd_T49 l0_1 x21_1).val.sym), .int .i64 ((rd_T49 l0_1 x21_1).val.n)] 49 (0, 0))) := ⟨by repeat (first | (with_reducible first | exact BK103.out | refine bN ?_ _ | refine bD ?_ | refine bA ?_ _) | refine blk_far ?_ NB103_108.out _ | exact BK103.out)⟩
         have n3_ : Aside0 ((((w46.setCell ⟨gb108, 0, none⟩ (.bool t104)).setCell ⟨gb108, 1, none⟩ (.string t105)).setCell ⟨gb108, 2, none⟩ (.int .i64 t106)).heap[gb108]? = some (.cells #[.bool t104, .string t105, .int .i64 t106] 24 (0, 0))) := ⟨by (with_reducible repeat (first | refine bN ?_ _ | refine bD ?_ | refine bA ?_ _)); refine blk_put (cs := #[.bool t104, .string t105, .int .i64 0]) ?_ 2 _ rfl; (with_reducible repeat (first | refine bN ?_ _ | refine bD ?_ | refine bA ?_ _)); refine blk_put (cs := #[.bool t104, .string (⟨#[]⟩ : ByteArray), .int .i64 0]) ?_ 1 _ rfl; (with_reducible repeat (first | refine bN ?_ _ | refine bD ?_ | refine bA ?_ _)); refine blk_put (cs := #[.bool false, .string (⟨#[]⟩ : ByteArray), .int .i64 0]) ?_ 0 _ rfl; (with_reducible repeat (first | refine bN ?_ _ | refine bD ?_ | refine bA ?_ _)); exact BK108.out⟩
         have n4_ : Aside0 (Below w.heap.size w (((w46.setCell ⟨gb108, 0, none⟩ (.bool t104)).setCell ⟨gb108, 1, none⟩ (.string t105)).setCell ⟨gb108, 2, none⟩ (.int .i64 t106))) := ⟨by repeat (first | (with_reducible first | exact HB.out | apply lA | apply lN | apply lD | refine lS ?_ GE101.out | refine lS ?_ GE103.out | refine lS ?_ GE108.out) | exact HB.out)⟩
         (try clear HO_2)
         (try clear BK101)
         (try clear BK103)
         (try clear BK108)
         (try clear HB)
         generalize (((w46.setCell ⟨gb108, 0, none⟩ (.bool t104)).setCell ⟨gb108, 1, none⟩ (.string t105)).setCell ⟨gb108, 2, none⟩ (.int .i64 t106)) = w50 at n0_ n1_ n2_ n3_ n4_ ⊢
         have HO_2 := n0_
         have BK101 := n1_
         have BK103 := n2_
         have BK108 := n3_
         have HB := n4_
         clear n0_ n1_ n2_ n3_ n4_
         replace HO_2 := am (Kd.V_drew HO_2.out)
         replace BK101 := am (blk_drew BK101.out)
         replace BK103 := am (blk_drew BK103.out)
         replace BK108 := am (blk_drew BK108.out)
         replace HB := am (below_drew1 HB.out)
         have p111 : 0 ≤ (x21_1 : Int) := of_decide_eq_true (by first | (with_reducible assumption) | assumption)
         have q111 : x21_1 < (l1.length : Int) := of_decide_eq_true (by first | (with_reducible assumption) | assumption)
         obtain ⟨ad111, e111, hx111_0, hx111_1, hx111_2⟩ := at_T24 HR1.out x21_1 p111 q111
         have hw111_2 := hx111_2
         have hw111_1 := hx111_1
         have hw111_0 := hx111_0
         cases e111
         replace hx111_0 := (HB.out.cell (blt_ hx111_0)).trans hx111_0
         replace hx111_1 := (HB.out.cell (blt_ hx111_1)).trans hx111_1
         replace hx111_2 := (HB.out.cell (blt_ hx111_2)).trans hx111_2
         replace p111 := eq_true p111
         replace q111 := eq_true q111
         refine start_ (n := 9) (S := fun w' => w'.cell? ⟨gb103, 0, none⟩ = some (.bool ((rd_T49 l0_1 x21_1).isVar)) ∧ w'.cell? ⟨gb103, 1, none⟩ = some (.string ((rd_T49 l0_1 x21_1).name)) ∧ w'.cell? ⟨gb103, 2, none⟩ = some (.bool ((rd_T49 l0_1 x21_1).val.isSym)) ∧ w'.cell? ⟨gb103, 3, none⟩ = some (.string ((rd_T49 l0_1 x21_1).val.sym)) ∧ w'.cell? ⟨gb103, 4, none⟩ = some (.int .i64 ((rd_T49 l0_1 x21_1).val.n)) ∧ w'.cell? (ad111.add ((x21_1).toNat * 3)) = some (.bool ((rd_T24 l1 x21_1).isSym)) ∧ w'.cell? ⟨(ad111.add ((x21_1).toNat * 3)).block, (ad111.add ((x21_1).toNat * 3)).off + 1, none⟩ = some (.string ((rd_T24 l1 x21_1).sym)) ∧ w'.cell? ⟨(ad111.add ((x21_1).toNat * 3)).block, (ad111.add ((x21_1).toNat * 3)).off + 2, none⟩ = some (.int .i64 ((rd_T24 l1 x21_1).n))) (ds := []) (bl 9 0) (by kernel_rfl) rfl rfl ⟨(blk_cell BK103.out 0).trans rfl, (blk_cell BK103.out 1).trans rfl, (blk_cell BK103.out 2).trans rfl, (blk_cell BK103.out 3).trans rfl, (blk_cell BK103.out 4).trans rfl, ((HB.out.cell (blt_ hw111_0)).trans hw111_0), ((HB.out.cell (blt_ hw111_1)).trans hw111_1), ((HB.out.cell (blt_ hw111_2)).trans hw111_2)⟩ (fun hHeld => ?_); refine with_tabW subst_Match.tab8 subst_Match.bits8 (fun HT_ HW_ => ?_)
         generalize w50.drew = w51 at HO_2 BK101 BK103 BK108 HB hx111_0 hx111_1 hx111_2 hHeld ⊢
         refine pure_ (i := 0) (N := some 35) (v := ?_) (a' := ?_) (bl 9 1) rfl rfl (any_of HT_.out (by kernel_rfl)) (fun _ _ _ h => h) (Or.inl ⟨by rfl, ?_⟩) ?_ ?_
         rotate_left
         ·intro w'
          go_simp
          with_reducible rfl
         rotate_left
         ·simp only [Act.put, sA, sZ, sS, i64_w, i32_w]
          rfl
         refine pure_ (i := 1) (N := some 36) (v := ?_) (a' := ?_) (bl 9 3) rfl rfl (any_of HT_.out (by kernel_rfl)) (fun _ _ _ h => h) (Or.inl ⟨by rfl, ?_⟩) ?_ ?_
         rotate_left
         ·intro w'
          go_simp
          with_reducible rfl
         rotate_left
         ·simp only [Act.put, sA, sZ, sS, i64_w, i32_w]
          rfl
         refine pure_ (i := 3) (N := some 38) (v := ?_) (a' := ?_) (bl 9 11) rfl rfl (any_of HT_.out (by kernel_rfl)) (fun _ _ _ h => h) (Or.inl ⟨by rfl, ?_⟩) ?_ ?_
         rotate_left
         ·intro w'
          go_simp
          with_reducible rfl
         rotate_left
         ·simp only [Act.put, sA, sZ, sS, i64_w, i32_w]
          rfl
         refine pure_ (i := 4) (N := some 39) (v := ?_) (a' := ?_) (bl 9 27) rfl rfl (any_of HT_.out (by kernel_rfl)) (fun _ _ _ h => h) (Or.inl ⟨by rfl, ?_⟩) ?_ ?_
         rotate_left
         ·intro w'
          go_simp
          with_reducible rfl
         rotate_left
         ·simp only [Act.put, sA, sZ, sS, i64_w, i32_w]
          rfl
         refine pure_ (i := 5) (N := some 40) (v := ?_) (a' := ?_) (bl 9 59) rfl rfl (any_of HT_.out (by kernel_rfl)) (fun _ _ _ h => h) (Or.inl ⟨by rfl, ?_⟩) ?_ ?_
         rotate_left
         ·intro w'
          go_simp
          with_reducible rfl
         rotate_left
         ·simp only [Act.put, sA, sZ, sS, i64_w, i32_w]
          rfl
         refine take_ (i := 2) (N := some 37) (v := ?_) (a' := ?_) (bl 9 63) rfl rfl (take_ofW HT_.out HW_.out (by kernel_rfl)) (fun _ _ _ h => h) (Or.inl ⟨by rfl, ?_⟩) hHeld ?_ ?_
         rotate_left
         ·rintro w' ⟨s0, s1, s2, s3, s4, s5, s6, s7⟩
          go_simp
          with_reducible rfl
         rotate_left
         ·simp only [Act.put, sA, sZ, sS, i64_w, i32_w]
          rfl
         refine take_ (i := 6) (N := some 41) (v := ?_) (a' := ?_) (bl 9 127) rfl rfl (take_ofW HT_.out HW_.out (by kernel_rfl)) (fun _ _ _ h => h) (Or.inl ⟨by rfl, ?_⟩) hHeld ?_ ?_
         rotate_left
         ·rintro w' ⟨s0, s1, s2, s3, s4, s5, s6, s7⟩
          go_simp
          with_reducible rfl
         rotate_left
         ·simp only [Act.put, sA, sZ, sS, i64_w, i32_w]
          rfl
         refine one_ (i := 7) (N := some 42) (bl 9 255) rfl rfl (one_of HT_.out (by kernel_rfl)) (by decide) (fun K hK => ?_)
         refine goes_ Try.func18 (by kernel_rfl) rfl #[.slice Ao44 x2_1.length co44, .string ((rd_T49 l0_1 x21_1).name), .agg #[.bool ((rd_T24 l1 x21_1).isSym), .string ((rd_T24 l1 x21_1).sym), .int .i64 ((rd_T24 l1 x21_1).n)]] (by rfl) rfl rfl (by (try simp only [List.map_toArray, List.map_cons, List.map_nil]); first | done | rfl | (simp only [List.length_drop, List.length_take]; rfl)) ?_
         with_reducible refine (subst_Env_With.calls _ _ x2_1 ((rd_T49 l0_1 x21_1).name) ((rd_T24 l1 x21_1).isSym) ((rd_T24 l1 x21_1).sym) ((rd_T24 l1 x21_1).n) t112 _ ?side1 ?side2 A40.out).mono ?_
         (case side1 => repeat (first | exact (Kd.V_reads' HO_2.out).2.2 | (with_reducible refine Kd.C_alloc ?_ _) | (with_reducible refine Kd.C_drewN ?_ _) | (with_reducible refine Kd.C_drew ?_)))
         (case side2 => exact (Kd.V_reads' HO_2.out).2.1)
         rintro e w52 ⟨v113, rfl, ho0, hb⟩
         refine ⟨_, rfl, ?_⟩
         replace HO_2 := am (Kd.V_elder' (by (with_reducible repeat (first | apply Va | apply Vn | apply Vd)); exact HO_2.out) (Kd.R_base ho0) hb)
         have HO114 := am (Kd.R_lower (Kd.R_newM (M := fun k_ => (w.heap.size ≤ k_)) ho0 (below_size (by repeat (first | (with_reducible first | exact HB.out | apply lA | apply lN | apply lD | refine lS ?_ GE101.out | refine lS ?_ GE103.out | refine lS ?_ GE108.out) | exact HB.out))) (fun k_ h_ => h_)) (below_size (by repeat (first | (with_reducible first | exact HB.out | apply lA | apply lN | apply lD | refine lS ?_ GE101.out | refine lS ?_ GE103.out | refine lS ?_ GE108.out) | exact HB.out))))
         replace BK101 := am (blk_below (g := gb101) (o := .cells #[.string a0_0, .slice (some ad102) l0_1.length c0_1] 46 (0, 0)) (by (with_reducible repeat (first | refine bN ?_ _ | refine bD ?_ | refine bA ?_ _)); exact BK101.out) hb)
         replace BK103 := am (blk_below (g := gb103) (o := .cells #[.bool ((rd_T49 l0_1 x21_1).isVar), .string ((rd_T49 l0_1 x21_1).name), .bool ((rd_T49 l0_1 x21_1).val.isSym), .string ((rd_T49 l0_1 x21_1).val.sym), .int .i64 ((rd_T49 l0_1 x21_1).val.n)] 49 (0, 0)) (by (with_reducible repeat (first | refine bN ?_ _ | refine bD ?_ | refine bA ?_ _)); exact BK103.out) hb)
         replace BK108 := am (blk_below (g := gb108) (o := .cells #[.bool t104, .string t105, .int .i64 t106] 24 (0, 0)) (by (with_reducible repeat (first | refine bN ?_ _ | refine bD ?_ | refine bA ?_ _)); exact BK108.out) hb)
         replace HB := am (below_step (by repeat (first | (with_reducible first | exact HB.out | apply lA | apply lN | apply lD | refine lS ?_ GE101.out | refine lS ?_ GE103.out | refine lS ?_ GE108.out) | exact HB.out)) hb)
         (try clear hb)
         (try clear hb2)
         (try clear hk)
         (try clear hi)
         (try clear ho0)
         refine hK.out _ _ ⟨(blk_cell BK103.out 0).trans rfl, (blk_cell BK103.out 1).trans rfl, (blk_cell BK103.out 2).trans rfl, (blk_cell BK103.out 3).trans rfl, (blk_cell BK103.out 4).trans rfl, ((HB.out.cell (blt_ hw111_0)).trans hw111_0), ((HB.out.cell (blt_ hw111_1)).trans hw111_1), ((HB.out.cell (blt_ hw111_2)).trans hw111_2)⟩ (fun hHeld => ?_)
         clear hK K
         refine norm_ (a' := ?_) ?_ ?_
         rotate_left
         ·show Act.put _ (some 42) _ = _
          simp only [Act.put, sA, sZ, sS, i64_w, i32_w]
          rfl
         refine pure_ (i := 8) (N := some 2) (v := ?_) (a' := ?_) (bl 9 511) rfl rfl (any_of HT_.out (by kernel_rfl)) (fun _ _ _ h => h) (Or.inl ⟨by rfl, ?_⟩) ?_ ?_
         rotate_left
         ·intro w'
          go_simp
          with_reducible rfl
         rotate_left
         ·simp only [Act.put, sA, sZ, sS, i64_w, i32_w]
          rfl
         refine done_ (done_of HT_.out (by kernel_rfl)) ?_
         try go_wp2
         go_roundg k1
         case measure => have := HK1.out; omega
         case rel => exact ⟨(t112), (wrap64 (x21_1 + 1)), (by first | rfl | (simp; done) | (simp [*]; done)), H', ⟨by have := HK1.out; omega⟩, ⟨(by first | exact Kd.V_mono (Kd.R_V (by (with_reducible repeat (first | apply Ra | apply Rn | apply Rd)); exact Kd.R_mono (Kd.R_types HO114.out BK101.out (by decide)) (fun _ hk => ⟨hk.1.1, hk.2⟩))) (fun k_ hk => by first | exact ⟨(.inr (hk.1)), hk.2⟩ | exact (.inr (hk))) | exact Kd.R_Vr (by (with_reducible repeat (first | apply Ra | apply Rn | apply Rd)); exact Kd.R_mono (Kd.R_types HO114.out BK101.out (by decide)) (fun _ hk => ⟨hk.1.1, hk.2⟩)) | exact Kd.R_Vr1 (by (with_reducible repeat (first | apply Ra | apply Rn | apply Rd)); exact Kd.R_mono (Kd.R_types HO114.out BK101.out (by decide)) (fun _ hk => ⟨hk.1.1, hk.2⟩)))⟩, ⟨by (with_reducible repeat (first | refine bN ?_ _ | refine bD ?_ | refine bA ?_ _)); exact BK101.out⟩, ⟨by repeat (first | (with_reducible first | exact HB.out | apply lA | apply lN | apply lD | refine lS ?_ GE101.out | refine lS ?_ GE103.out | refine lS ?_ GE108.out) | exact HB.out)⟩⟩
        ·rw [if_neg c39] at H
         exact absurd H (by simp)
      ·rw [if_neg c9] at H
       exact absurd H (by simp)
     ·rw [if_neg c8] at H
      exact absurd H (by simp)
    ·rw [if_neg c7] at H
     have c7b0 : decide (x21_1 < (l0_1.length : Int)) = false := decide_eq_false c7
     clear c7
     simp only [Option.some.injEq, Prod.mk.injEq] at H
     obtain ⟨rfl, rfl⟩ := H
     go_wp2
     go_ret2
     exact ⟨_, by first | rfl | (simp [errW_none, errW_some] <;> rfl) | (simp [*, errW_none, errW_some] <;> rfl), by (with_reducible repeat (first | apply Va | apply Vn | apply Vd)); exact Kd.V_mono HO_2.out (fun _ hk => hk.1), by repeat (first | (with_reducible first | exact HB.out | apply lA | apply lN | apply lD | refine lS ?_ GE101.out) | exact HB.out)⟩
 ·rw [if_neg c4] at H
  have c4b0 : ((l0_1.length : Int) == (l1.length : Int)) = false := beq_eq_false_iff_ne.mpr c4
  have c4b1 : ((l0_1.length : Int) != (l1.length : Int)) = true := bne_iff_ne.mpr c4
  have c4b2 : (l0_1.length == l1.length) = false := by first | simpa using c4 | (simp at c4 ⊢; omega)
  simp only [Option.some.injEq, Prod.mk.injEq] at H
  obtain ⟨rfl, rfl⟩ := H
  go_enter Try.func22, Try.ntmps22
  go_wp2_with (first | ((with_reducible refine gate_dst (N := 3) rfl ?_); refine box_event ?hg (N := 3) ?hd (cs := #[.string a0_0, .slice A0_1 l0_1.length c0_1]) (t := 46) ?hr ?_; (case hd => rfl); (case hg => rfl); (case hr => first | (go_simp; done) | (go_simp; rfl)); intro gb101 hg w53 hbox hb; replace HO2 := am (Kd.V_below (Kd.V_elderB (by (with_reducible repeat (first | apply Va | apply Vn | apply Vd)); exact HO2.out) gb101 (Nat.le_of_eq hg.symm)) hb); have BK101 := am (hbox); have GW101 := am ((by rw [hg]; exact (below_size (by repeat (first | (with_reducible first | exact HB.out | apply lA | apply lN | apply lD) | exact HB.out))) : w.heap.size ≤ gb101)); have GE101 := am ((by rw [hg]; exact (below_size (by repeat (first | (with_reducible first | exact HB.out | apply lA | apply lN | apply lD) | exact HB.out))) : w.heap.size ≤ gb101)); replace HB := am (below_step (by repeat (first | (with_reducible first | exact HB.out | apply lA | apply lN | apply lD) | exact HB.out)) hb); clear hb hbox hg; have hcz54_0 : w53.cell? ⟨gb101, 0, none⟩ = some (.string a0_0) := (blk_cell BK101.out 0).trans rfl; have hcz54_1 : w53.cell? ⟨gb101, 1, none⟩ = some (.slice A0_1 l0_1.length c0_1) := (blk_cell BK101.out 1).trans rfl; have hfz54_0 := blk_frozen BK101.out 0; have hfz54_1 := blk_frozen BK101.out 1))
  go_ret2
  exact ⟨_, by first | rfl | (simp [errW_none, errW_some] <;> rfl) | (simp [*, errW_none, errW_some] <;> rfl), (by first | exact Kd.V_nil _ _ _ _ _ | exact Kd.V_mono (Kd.R_V (by first | exact Kd.R_nil _ _ _ _ _ | exact Kd.N_nil _ _ _ _ _ | exact Kd.V_nil _ _ _ _ _ | exact Kd.Q_nil _ _ _ _ _ | exact Kd.S_nil _ _ _ _ _)) (fun k_ hk => by first | exact ⟨(.inr (hk.1)), hk.2⟩ | exact (.inr (hk)))), by repeat (first | (with_reducible first | exact HB.out | apply lA | apply lN | apply lD | refine lS ?_ GE101.out) | exact HB.out)⟩
end Go.Proofs.Ytdanihbbnepjpaa.H
namespace Go.Proofs.Ytdanihbbnepjpaa.H
open Go.RowKit Go.Proofs.YtdanihbbnepjpaaW.PrintWords
set_option linter.unusedVariables false
set_option linter.unusedSimpArgs false
theorem value_eq (t : Term) (e : List Pair) : subst_Value.f t.isVar t.name t.val.isSym t.val.sym t.val.n e = some (tup (valueOf t e)) := by
  unfold subst_Value.f valueOf
  rw [get_eq, bare_eq]
  cases t.isVar <;> simp [tup]
def mtup (o : Option (List Pair)) : List Pair × Bool := match o with
  | some x => (x, true)
  | none => ([], false)
theorem match_l0 (ts : List Term) (rs : List Val) (hts : ts.length ≤ 10000) (hl : ts.length = rs.length) : ∀ (a : List Term) (b : List Val) (n : Nat) (e : List Pair), ts.drop n = a → rs.drop n = b → n ≤ ts.length → e.length ≤ 10000 + n →
    Ev (fun k => subst_Match.l0 k rs e ts (ts.length : Int) n) (mtup (matchGo a b e))
  | [], b, n, e, h, h', hn, hc => by
    refine Ev.step (fun k => by rw [subst_Match.l0]) ?_
    exact Ev.neg (drop_end h) (Ev.now _)
  | x :: a, [], n, e, h, h', hn, hc => by
    have e1 := congrArg List.length h
    have e2 := congrArg List.length h'
    simp at e1 e2
    omega
  | x :: a, y :: b, n, e, h, h', hn, hc => by
    obtain ⟨h1, h2, h3, h4, h5⟩ := drop_more h (by omega)
    obtain ⟨g1, g2, g3, g4, g5⟩ := drop_more h' (by omega)
    refine Ev.step (fun k => by rw [subst_Match.l0]) ?_
    refine Ev.pos h1 (Ev.pos h2 (Ev.pos h1 ?_))
    rw [show rd_T49 ts n = x from h3 _, show rd_T24 rs n = y from g3 _, h5]
    refine Ev.pure (value_eq x e) ?_
    unfold matchGo
    cases hv : valueOf x e with
    | none =>
      refine Ev.neg (by simp [tup]) (Ev.pos g1 (Ev.pure (with_eq e x.name y (by omega)) ?_))
      exact match_l0 ts rs hts hl a b (n + 1) _ h4 g4 (by omega) (by have := with_len_le e x.name y; omega)
    | some v =>
      refine Ev.pos (by simp [tup]) (Ev.pos g1 (Ev.bind (Same_val_ev v y) ?_))
      dsimp only
      by_cases c : sameV v y = true
      · rw [if_pos c]
        exact Ev.pos c (match_l0 ts rs hts hl a b (n + 1) e h4 g4 (by omega) (by omega))
      · rw [if_neg c]
        exact Ev.neg c (Ev.now _)
theorem match_ev (p : ByteArray) (ts : List Term) (rs : List Val) (e : List Pair) (hts : ts.length ≤ 10000) (he : e.length ≤ 10000) : Ev (fun k => subst_Match.f k p ts rs e) (mtup (matchOf ts rs e)) := by
  unfold subst_Match.f matchOf
  by_cases c : ts.length = rs.length
  · rw [if_pos c]
    exact Ev.pos (by omega) (match_l0 ts rs hts c ts rs 0 e rfl rfl (by omega) (by omega))
  · rw [if_neg c]
    exact Ev.neg (by omega) (Ev.now _)
end Go.Proofs.Ytdanihbbnepjpaa.H
namespace Go.Proofs.Ytdanihbbnepjpaa.H
open Go.RowKit Go.Proofs.YtdanihbbnepjpaaW.PrintWords Go.Proofs.YtdanihbbnepjpaaW.PrintLast Go.Proofs.YtdanihbbnepjpaaW.PrintMore
set_option linter.unusedVariables false
theorem blk_newN {w : World} {n : Nat} (h : w.heap.size = n) (o : Obj) : (w.alloc o).heap[n]? = some o := by subst h; exact blk_new w o
def shX : Term := ⟨true, ⟨#[88]⟩, ⟨false, ⟨#[]⟩, 0⟩⟩
def shA : Term := ⟨false, ⟨#[]⟩, ⟨true, ⟨#[97]⟩, 0⟩⟩
def shR (n : Int) : List Val := [⟨false, ⟨#[]⟩, 1⟩, ⟨true, ⟨#[97]⟩, 0⟩, ⟨false, ⟨#[]⟩, n⟩]
theorem sh12_yes : matchOf [shX, shA, shX] (shR 1) [] = some [⟨⟨#[88]⟩, ⟨false, ⟨#[]⟩, 1⟩⟩] := by
  simp [shX, shA, shR, matchOf, matchGo, valueOf, getOf, withOf, dropOf, sameV, bareOf]
theorem sh12_no : matchOf [shX, shA, shX] (shR 2) [] = none := by
  simp [shX, shA, shR, matchOf, matchGo, valueOf, getOf, withOf, dropOf, sameV, bareOf]
theorem sh12_call (W : World) (bt bv : Nat) (n : Int) (hT : W.heap[bt]? = some (.cells #[.bool true, .string ⟨#[88]⟩, .bool false, .string ⟨#[]⟩, .int .i64 0, .bool false, .string ⟨#[]⟩, .bool true, .string ⟨#[97]⟩, .int .i64 0, .bool true, .string ⟨#[88]⟩, .bool false, .string ⟨#[]⟩, .int .i64 0] 49 (0, 0)))
    (hV : W.heap[bv]? = some (.cells #[.bool false, .string ⟨#[]⟩, .int .i64 1, .bool true, .string ⟨#[97]⟩, .int .i64 0, .bool false, .string ⟨#[]⟩, .int .i64 n] 24 (0, 0))) (o : List Pair × Bool) (ho : mtup (matchOf [shX, shA, shX] (shR n) []) = o) :
    Calls Try.prog 22 #[.agg #[.string ⟨#[112]⟩, .slice (some ⟨bt, 0, none⟩) 3 3], .slice (some ⟨bv, 0, none⟩) 3 3, .slice none 0 0] W fun e w' => ∃ (A : Option Addr) (c : Nat), e = .returned (.tuple #[.slice A o.1.length c, .bool o.2]) ∧ Kd.C k41 w' A o.1.length o.1 ∧ Below W.heap.size W w' := by
  have gT : Kd.C k49 W (some ⟨bt, 0, none⟩) 3 [shX, shA, shX] := C_cells hT (Reps.snoc (Reps.snoc (Reps.snoc (Reps.none _ _) (k49_mk W shX) rfl) (k49_mk W shA) rfl) (k49_mk W shX) rfl) (by simp)
  have gV : Kd.C k24 W (some ⟨bv, 0, none⟩) 3 (shR n) := C_cells hV (Reps.snoc (Reps.snoc (Reps.snoc (Reps.none _ _) (k24_mk W ⟨false, ⟨#[]⟩, 1⟩) rfl) (k24_mk W ⟨true, ⟨#[97]⟩, 0⟩) rfl) (k24_mk W ⟨false, ⟨#[]⟩, n⟩) rfl) (by simp [shR])
  obtain ⟨k, hk⟩ := Ev.rounds (g := fun k => subst_Match.f k ⟨#[112]⟩ [shX, shA, shX] (shR n) []) (match_ev ⟨#[112]⟩ [shX, shA, shX] (shR n) [] (by simp) (by simp))
  rw [ho] at hk
  refine (subst_Match.calls k ⟨#[112]⟩ (some ⟨bt, 0, none⟩) 3 [shX, shA, shX] (some ⟨bv, 0, none⟩) 3 (shR n) (fun _ => False) none 0 [] o.1 o.2 W gT (Nat.le_refl 3) gV (Nat.le_refl 3) (Kd.V_nil _ _ _ _ _) hk).mono ?_
  rintro e w' ⟨v, rfl, hv, hb⟩
  obtain ⟨A, c, rfl, hl, hF⟩ := hv
  exact ⟨A, c, rfl, hF w' (fun _ _ _ => rfl), hb⟩
theorem sh12_first (w W : World) (bt bv ba bp : Nat) (hB : Below w.heap.size w W) (hT : W.heap[bt]? = some (.cells #[.bool true, .string ⟨#[88]⟩, .bool false, .string ⟨#[]⟩, .int .i64 0, .bool false, .string ⟨#[]⟩, .bool true, .string ⟨#[97]⟩, .int .i64 0, .bool true, .string ⟨#[88]⟩, .bool false, .string ⟨#[]⟩, .int .i64 0] 49 (0, 0))) (hV : W.heap[bv]? = some (.cells #[.bool false, .string ⟨#[]⟩, .int .i64 1, .bool true, .string ⟨#[97]⟩, .int .i64 0, .bool false, .string ⟨#[]⟩, .int .i64 1] 24 (0, 0)))
    (hA : W.heap[ba]? = some (.cells #[.bool false, .string ⟨#[]⟩, .bool true, .string ⟨#[97]⟩, .int .i64 0] 49 (0, 0))) (hP : W.heap[bp]? = some (.cells #[.string ⟨#[112]⟩, .slice (some ⟨bt, 0, none⟩) 3 3] 46 (0, 0))) :
    Calls Try.prog 22 #[.agg #[.string ⟨#[112]⟩, .slice (some ⟨bt, 0, none⟩) 3 3], .slice (some ⟨bv, 0, none⟩) 3 3, .slice none 0 0] W fun e w' => ∃ (ad : Addr) (c : Nat), e = .returned (.tuple #[.slice (some ad) 1 c, .bool true]) ∧ Aside0 (Below w.heap.size w w') ∧ Aside0 (w'.heap[bt]? = some (.cells #[.bool true, .string ⟨#[88]⟩, .bool false, .string ⟨#[]⟩, .int .i64 0, .bool false, .string ⟨#[]⟩, .bool true, .string ⟨#[97]⟩, .int .i64 0, .bool true, .string ⟨#[88]⟩, .bool false, .string ⟨#[]⟩, .int .i64 0] 49 (0, 0))) ∧
      w'.cell? ⟨bp, 0, none⟩ = some (.string ⟨#[112]⟩) ∧ w'.cell? ⟨bp, 1, none⟩ = some (.slice (some ⟨bt, 0, none⟩) 3 3) ∧ w'.cell? ⟨ba, 2, none⟩ = some (.bool true) ∧ w'.cell? ⟨ba, 3, none⟩ = some (.string ⟨#[97]⟩) ∧ w'.cell? ⟨ba, 4, none⟩ = some (.int .i64 0) ∧
      Aside0 (w'.cell? (ad.add 0) = some (.string ⟨#[88]⟩) ∧ w'.cell? ⟨(ad.add 0).block, (ad.add 0).off + 3, none⟩ = some (.int .i64 1)) := by
  refine (sh12_call W bt bv 1 hT hV ([⟨⟨#[88]⟩, ⟨false, ⟨#[]⟩, 1⟩⟩], true) (by rw [sh12_yes]; rfl)).mono ?_
  rintro e w' ⟨A, c, rfl, hC, hb⟩
  obtain ⟨ad, e1, hx0, hx1, hx2, hx3⟩ := at_Pair hC (i := 0) rfl
  cases e1
  have HA := blk_below hA hb
  have HP := blk_below hP hb
  exact ⟨ad, c, rfl, ⟨Below.then hB hb⟩, ⟨blk_below hT hb⟩, (blk_cell HP 0).trans rfl, (blk_cell HP 1).trans rfl, (blk_cell HA 2).trans rfl, (blk_cell HA 3).trans rfl, (blk_cell HA 4).trans rfl, ⟨hx0, hx3⟩⟩
theorem sh12_second (w W : World) (bt bv : Nat) (ad : Addr) (hB : Below w.heap.size w W) (hT : W.heap[bt]? = some (.cells #[.bool true, .string ⟨#[88]⟩, .bool false, .string ⟨#[]⟩, .int .i64 0, .bool false, .string ⟨#[]⟩, .bool true, .string ⟨#[97]⟩, .int .i64 0, .bool true, .string ⟨#[88]⟩, .bool false, .string ⟨#[]⟩, .int .i64 0] 49 (0, 0))) (hV : W.heap[bv]? = some (.cells #[.bool false, .string ⟨#[]⟩, .int .i64 1, .bool true, .string ⟨#[97]⟩, .int .i64 0, .bool false, .string ⟨#[]⟩, .int .i64 2] 24 (0, 0)))
    (h0 : W.cell? (ad.add 0) = some (.string ⟨#[88]⟩)) (h3 : W.cell? ⟨(ad.add 0).block, (ad.add 0).off + 3, none⟩ = some (.int .i64 1)) :
    Calls Try.prog 22 #[.agg #[.string ⟨#[112]⟩, .slice (some ⟨bt, 0, none⟩) 3 3], .slice (some ⟨bv, 0, none⟩) 3 3, .slice none 0 0] W fun e w' => ∃ (A : Option Addr) (c : Nat), e = .returned (.tuple #[.slice A 0 c, .bool false]) ∧ Aside0 (Below w.heap.size w w') ∧ w'.cell? (ad.add 0) = some (.string ⟨#[88]⟩) ∧ w'.cell? ⟨(ad.add 0).block, (ad.add 0).off + 3, none⟩ = some (.int .i64 1) := by
  refine (sh12_call W bt bv 2 hT hV ([], false) (by rw [sh12_no]; rfl)).mono ?_
  rintro e w' ⟨A, c, rfl, hC, hb⟩
  exact ⟨A, c, rfl, ⟨Below.then hB hb⟩, Below.old hb h0, Below.old hb h3⟩
theorem sh12_one (w : World) : Calls Try.prog 22 #[.agg #[.string ⟨#[112]⟩, .slice (some ⟨w.heap.size + 1 + 1, 0, none⟩) 3 3], .slice (some ⟨w.heap.size + 1 + 1 + 1 + 1, 0, none⟩) 3 3, .slice none 0 0] (((((w.alloc (.cells #[.bool true, .string ⟨#[88]⟩, .bool false, .string ⟨#[]⟩, .int .i64 0] 49)).alloc (.cells #[.bool false, .string ⟨#[]⟩, .bool true, .string ⟨#[97]⟩, .int .i64 0] 49)).alloc (.cells #[.bool true, .string ⟨#[88]⟩, .bool false, .string ⟨#[]⟩, .int .i64 0, .bool false, .string ⟨#[]⟩, .bool true, .string ⟨#[97]⟩, .int .i64 0, .bool true, .string ⟨#[88]⟩, .bool false, .string ⟨#[]⟩, .int .i64 0] 49)).alloc (.cells #[.string ⟨#[112]⟩, .slice (some ⟨w.heap.size + 1 + 1, 0, none⟩) 3 3] 46)).alloc (.cells #[.bool false, .string ⟨#[]⟩, .int .i64 1, .bool true, .string ⟨#[97]⟩, .int .i64 0, .bool false, .string ⟨#[]⟩, .int .i64 1] 24)) fun e w' => ∃ (ad : Addr) (c : Nat), e = .returned (.tuple #[.slice (some ad) 1 c, .bool true]) ∧ Aside0 (Below w.heap.size w w') ∧ Aside0 (w'.heap[w.heap.size + 1 + 1]? = some (.cells #[.bool true, .string ⟨#[88]⟩, .bool false, .string ⟨#[]⟩, .int .i64 0, .bool false, .string ⟨#[]⟩, .bool true, .string ⟨#[97]⟩, .int .i64 0, .bool true, .string ⟨#[88]⟩, .bool false, .string ⟨#[]⟩, .int .i64 0] 49 (0, 0))) ∧
      w'.cell? ⟨w.heap.size + 1 + 1 + 1, 0, none⟩ = some (.string ⟨#[112]⟩) ∧ w'.cell? ⟨w.heap.size + 1 + 1 + 1, 1, none⟩ = some (.slice (some ⟨w.heap.size + 1 + 1, 0, none⟩) 3 3) ∧ w'.cell? ⟨w.heap.size + 1, 2, none⟩ = some (.bool true) ∧ w'.cell? ⟨w.heap.size + 1, 3, none⟩ = some (.string ⟨#[97]⟩) ∧ w'.cell? ⟨w.heap.size + 1, 4, none⟩ = some (.int .i64 0) ∧
      Aside0 (w'.cell? (ad.add 0) = some (.string ⟨#[88]⟩) ∧ w'.cell? ⟨(ad.add 0).block, (ad.add 0).off + 3, none⟩ = some (.int .i64 1)) := by
  refine sh12_first w _ (w.heap.size + 1 + 1) (w.heap.size + 1 + 1 + 1 + 1) (w.heap.size + 1) (w.heap.size + 1 + 1 + 1) ?_ ?_ ?_ ?_ ?_
  · exact below_alloc (below_alloc (below_alloc (below_alloc (below_alloc (Below.refl _ _) _) _) _) _) _
  · exact blk_alloc (blk_alloc (blk_newN (by simp) _) _) _
  · exact blk_newN (by simp) _
  · exact blk_alloc (blk_alloc (blk_alloc (blk_newN (by simp) _) _) _) _
  · exact blk_alloc (blk_newN (by simp) _) _
theorem sh12_two (w w1 : World) (ad : Addr) (hB : Below w.heap.size w w1) (hT : w1.heap[w.heap.size + 1 + 1]? = some (.cells #[.bool true, .string ⟨#[88]⟩, .bool false, .string ⟨#[]⟩, .int .i64 0, .bool false, .string ⟨#[]⟩, .bool true, .string ⟨#[97]⟩, .int .i64 0, .bool true, .string ⟨#[88]⟩, .bool false, .string ⟨#[]⟩, .int .i64 0] 49 (0, 0))) (h0 : w1.cell? (ad.add 0) = some (.string ⟨#[88]⟩)) (h3 : w1.cell? ⟨(ad.add 0).block, (ad.add 0).off + 3, none⟩ = some (.int .i64 1)) :
    Calls Try.prog 22 #[.agg #[.string ⟨#[112]⟩, .slice (some ⟨w.heap.size + 1 + 1, 0, none⟩) 3 3], .slice (some ⟨w1.heap.size, 0, none⟩) 3 3, .slice none 0 0] (w1.alloc (.cells #[.bool false, .string ⟨#[]⟩, .int .i64 1, .bool true, .string ⟨#[97]⟩, .int .i64 0, .bool false, .string ⟨#[]⟩, .int .i64 2] 24)) fun e w' => ∃ (A : Option Addr) (c : Nat), e = .returned (.tuple #[.slice A 0 c, .bool false]) ∧ Aside0 (Below w.heap.size w w') ∧ w'.cell? (ad.add 0) = some (.string ⟨#[88]⟩) ∧ w'.cell? ⟨(ad.add 0).block, (ad.add 0).off + 3, none⟩ = some (.int .i64 1) := by
  have hb := below_alloc (Below.refl w1.heap.size w1) (.cells #[.bool false, .string ⟨#[]⟩, .int .i64 1, .bool true, .string ⟨#[97]⟩, .int .i64 0, .bool false, .string ⟨#[]⟩, .int .i64 2] 24)
  exact sh12_second w _ (w.heap.size + 1 + 1) w1.heap.size ad (below_alloc hB _) (blk_alloc hT _) (blk_newN rfl _) (Below.old hb h0) (Below.old hb h3)
set_option maxHeartbeats 4000000 in
set_option maxRecDepth 100000 in
theorem law12_shown (w : World) : Calls Try.prog 9 #[] w fun e w' => e = .returned (.bool true) ∧ Below w.heap.size w w' := by
  have hu := Try.underlying49
  have hu2 := Try.underlying46
  have hu3 := Try.underlying24
  have hu4 := Try.underlying41
  go_enter Try.func9, Try.ntmps9
  go_upto_region 5 with (go_at_call 22; go_must (refine (sh12_one w).mono ?_); rintro e w1 ⟨ad, c, rfl, HB, HT, hp0, hp1, ha2, ha3, ha4, HX⟩)
  obtain ⟨hx0, hx3⟩ := HX.out
  go_wp2_with (go_at_call 22; go_must (refine (sh12_two w w1 ad HB.out HT.out hx0 hx3).mono ?_); rintro e w2 ⟨A, c2, rfl, HB2, hy0, hy3⟩; rw [show ad.add 0 = ad by simp [Addr.add]] at hy0 hy3)
  go_ret
  exact ⟨rfl, HB2.out⟩
def lambrequinlaw12_shown.f (_ : Nat) : Option Bool := some true
theorem lambrequinlaw12_shown.mono : ∀ k, LeO (lambrequinlaw12_shown.f k) (lambrequinlaw12_shown.f (k + 1)) := fun _ => LeO.refl _
theorem lambrequinlaw12_shown.calls (k : Nat) (r : Bool) (w : World) (h : lambrequinlaw12_shown.f k = some r) :
    Calls Try.prog 9 #[] w fun e w' => e = .returned (.bool r) ∧ Below w.heap.size w w' := by
  cases h
  exact law12_shown w
theorem shown12_ev : Ev (fun k => lambrequinlaw12_shown.f k) true := Ev.now _
end Go.Proofs.Ytdanihbbnepjpaa.H
namespace Go.Proofs.Ytdanihbbnepjpaa.H
theorem shown12_here : True := trivial
end Go.Proofs.Ytdanihbbnepjpaa.H
namespace Go.Proofs.Ytdanihbbnepjpaa.H
open Go.RowKit Go.Proofs.YtdanihbbnepjpaaW.PrintWords Go.Proofs.YtdanihbbnepjpaaW.PrintLast Go.Proofs.YtdanihbbnepjpaaW.PrintMore
attribute [local go_sem] max2_int min2_int max_two min_two max_three min_three max_four min_four
set_option linter.unusedVariables false
set_option linter.unusedSimpArgs false
def subst_Ground.l0 : Nat → List (Pair) → List (Val) → List (Term) → Int → Int → Option ((List (Val)) × Bool)
 | 0, _, _, _, _, _ => none
 | k + 1, x1, x6, x12, x13, x14 => if x14 < x13 then (if 0 ≤ x14 then (if x14 < (x12.length : Int) then ((subst_Value.f ((rd_T49 x12 x14).isVar) ((rd_T49 x12 x14).name) ((rd_T49 x12 x14).val.isSym) ((rd_T49 x12 x14).val.sym) ((rd_T49 x12 x14).val.n) x1).bind fun bt104 => (if bt104.2.2.2 = true then (if x6.length < 4398046511104 then (subst_Ground.l0 k x1 (x6 ++ [(⟨bt104.1, bt104.2.1, bt104.2.2.1⟩ : Val)]) x12 x13 (wrap64 (x14 + 1))) else (none)) else (some (([] : List (Val)), false)))) else (none)) else (none)) else (some (x6, true))
def subst_Ground.f (k : Nat) (a0_0 : ByteArray) (l0_1 : List (Term)) (l1 : List (Pair)) : Option ((List (Val)) × Bool) := subst_Ground.l0 k l1 ([] : List (Val)) l0_1 (l0_1.length : Int) 0
theorem subst_Ground.mono_l : ∀ k, (∀ y0 y1 y2 y3 y4, LeO (subst_Ground.l0 k y0 y1 y2 y3 y4) (subst_Ground.l0 (k + 1) y0 y1 y2 y3 y4))
 | 0 => fun _ _ _ _ _ r h => by simp [subst_Ground.l0] at h
 | k + 1 => by
  have ih0 := subst_Ground.mono_l k
  ·intro y0 y1 y2 y3 y4
   unfold subst_Ground.l0
   repeat' first
   | (with_reducible exact ih0 _ _ _ _ _)
   | (with_reducible exact LeO.refl _)
   | (with_reducible exact LeO.none _)
   | (with_reducible refine LeO.ite ?_ ?_)
   | (with_reducible refine LeO.bind ?_ (fun _ => ?_))
   | exact ih0 _ _ _ _ _
   | exact LeO.none _
   | refine LeO.ite ?_ ?_
   | refine LeO.bind ?_ (fun _ => ?_)
theorem subst_Ground.mono : ∀ a0 a1 a2 k, LeO (subst_Ground.f k a0 a1 a2) (subst_Ground.f (k + 1) a0 a1 a2) := by
 intro a0 a1 a2 k
 have ih0 := subst_Ground.mono_l k
 unfold subst_Ground.f
 repeat' first
   | (with_reducible exact ih0 _ _ _ _ _)
   | (with_reducible exact LeO.refl _)
   | (with_reducible exact LeO.none _)
   | (with_reducible refine LeO.ite ?_ ?_)
   | (with_reducible refine LeO.bind ?_ (fun _ => ?_))
   | exact ih0 _ _ _ _ _
   | exact LeO.none _
   | refine LeO.ite ?_ ?_
   | refine LeO.bind ?_ (fun _ => ?_)
set_option maxHeartbeats 8000000 in
set_option maxRecDepth 100000 in
theorem subst_Ground.calls (k : Nat) (a0_0 : ByteArray) (A0_1 : Option Addr) (c0_1 : Nat) (l0_1 : List (Term)) (A1 : Option Addr) (c1 : Nat) (l1 : List (Pair)) (r1 : List (Val)) (r2 : Bool) (w : World) (hr0_1 : Kd.C k49 w A0_1 l0_1.length l0_1) (hc0_1 : l0_1.length ≤ c0_1) (hr1 : Kd.C k41 w A1 l1.length l1) (hc1 : l1.length ≤ c1) (h : subst_Ground.f k a0_0 l0_1 l1 = some (r1, r2)) :
  Calls Try.prog 21 #[.agg #[.string a0_0, .slice A0_1 l0_1.length c0_1], .slice A1 l1.length c1] w fun e w' => ∃ v0_ : Value, e = .returned (.tuple #[v0_, .bool r2]) ∧ Kd.R k24 24 w' w.heap.size (fun _ => True) v0_ r1 ∧ Below w.heap.size w w' := by
 have hu46 := Try.underlying46
 have hu49 := Try.underlying49
 have hu24 := Try.underlying24
 have HR0_1 := am hr0_1
 have HC0_1 := am hc0_1
 clear hr0_1 hc0_1
 have HR1 := am hr1
 have HC1 := am hc1
 clear hr1 hc1
 have HB := am (Below.refl w.heap.size w)
 have H : (subst_Ground.l0 k l1 ([] : List (Val)) l0_1 (l0_1.length : Int) 0) = some (r1, r2) := h
 clear h
 have H' := am H
 clear H
 go_enter Try.func21, Try.ntmps21
 go_wp2_with (first | ((with_reducible refine gate_dst (N := 2) rfl ?_); refine box_event ?hg (N := 2) ?hd (cs := #[.string a0_0, .slice A0_1 l0_1.length c0_1]) (t := 46) ?hr ?_; (case hd => rfl); (case hg => rfl); (case hr => first | (go_simp; done) | (go_simp; rfl)); intro gb101 hg w3 hbox hb; have BK101 := am (hbox); have GW101 := am ((by rw [hg]; exact (below_size (by repeat (first | (with_reducible first | exact HB.out | apply lA | apply lN | apply lD) | exact HB.out))) : w.heap.size ≤ gb101)); have GE101 := am ((by rw [hg]; exact (below_size (by repeat (first | (with_reducible first | exact HB.out | apply lA | apply lN | apply lD) | exact HB.out))) : w.heap.size ≤ gb101)); replace HB := am (below_step (by repeat (first | (with_reducible first | exact HB.out | apply lA | apply lN | apply lD) | exact HB.out)) hb); clear hb hbox hg; have hcz4_0 : w3.cell? ⟨gb101, 0, none⟩ = some (.string a0_0) := (blk_cell BK101.out 0).trans rfl; have hcz4_1 : w3.cell? ⟨gb101, 1, none⟩ = some (.slice A0_1 l0_1.length c0_1) := (blk_cell BK101.out 1).trans rfl; have hfz4_0 := blk_frozen BK101.out 0; have hfz4_1 := blk_frozen BK101.out 1))
 go_loopg [6, 14] k (fun kq v6 v14 w' => ∃ (x6_1 : List (Val)) (x14_1 : Int), v14 = .int .i64 x14_1 ∧ Aside0 (subst_Ground.l0 kq l1 x6_1 l0_1 (l0_1.length : Int) x14_1 = some (r1, r2)) ∧ Aside0 (kq ≤ k) ∧ Aside0 (Kd.R k24 24 w' w.heap.size (fun _ => True) v6 x6_1) ∧ Aside0 (w'.heap[gb101]? = some (.cells #[.string a0_0, (.slice A0_1 l0_1.length c0_1)] 46 (0, 0))) ∧ Aside0 (Below w.heap.size w w'))
 case atStart => exact ⟨(([] : List (Val))), (0), (by first | rfl | (simp; done) | (simp [*]; done)), H', ⟨Nat.le_refl _⟩, ⟨by first | exact Kd.R_nil _ _ _ _ _ | exact Kd.N_nil _ _ _ _ _ | exact Kd.V_nil _ _ _ _ _ | exact Kd.Q_nil _ _ _ _ _ | exact Kd.S_nil _ _ _ _ _⟩, ⟨by (with_reducible repeat (first | refine bN ?_ _ | refine bD ?_ | refine bA ?_ _)); exact BK101.out⟩, ⟨by repeat (first | (with_reducible first | exact HB.out | apply lA | apply lN | apply lD | refine lS ?_ GE101.out) | exact HB.out)⟩⟩
 case round =>
  clear H'
  try clear c1
  try clear c2
  try clear p2
  try clear hcz4_0
  try clear hcz4_1
  try clear hfz4_0
  try clear hfz4_1
  obtain ⟨x6_1, x14_1, rfl, HA, HK1, HO_6, BK101, HB⟩ := hrel
  cases gk with
  | zero => exact absurd HA.out (by simp [subst_Ground.l0])
  | succ k1 =>
   have H := HA.out
   clear HA
   simp only [subst_Ground.l0] at H
   by_cases c5 : x14_1 < (l0_1.length : Int)
   ·rw [if_pos c5] at H
    have c5b0 : decide (x14_1 < (l0_1.length : Int)) = true := decide_eq_true c5
    clear c5
    by_cases c6 : 0 ≤ x14_1
    ·rw [if_pos c6] at H
     have c6b0 : decide (0 ≤ x14_1) = true := decide_eq_true c6
     clear c6
     by_cases c7 : x14_1 < (l0_1.length : Int)
     ·rw [if_pos c7] at H
      have c7b0 : decide (x14_1 < (l0_1.length : Int)) = true := decide_eq_true c7
      clear c7
      replace H := Option.bind_eq_some_iff.mp H
      obtain ⟨⟨t104, t105, t106, t107⟩, A80, H⟩ := H
      replace H : (if t107 = true then (if x6_1.length < 4398046511104 then (subst_Ground.l0 k1 l1 (x6_1 ++ [(⟨t104, t105, t106⟩ : Val)]) l0_1 (l0_1.length : Int) (wrap64 (x14_1 + 1))) else (none)) else (some (([] : List (Val)), false))) = some (r1, r2) := H
      have A8 := am A80
      clear A80
      by_cases c9 : t107 = true
      ·subst c9
       have H1 : (if x6_1.length < 4398046511104 then (subst_Ground.l0 k1 l1 (x6_1 ++ [(⟨t104, t105, t106⟩ : Val)]) l0_1 (l0_1.length : Int) (wrap64 (x14_1 + 1))) else (none)) = some (r1, r2) := by rw [if_pos rfl] at H; exact H
       clear H
       have H := H1
       clear H1
       by_cases c10 : x6_1.length < 4398046511104
       ·rw [if_pos c10] at H
        have LMc10 := am c10
        clear c10
        obtain ⟨y109, hy109⟩ : ∃ y_ : List (Val), y_ = (x6_1 ++ [(⟨t104, t105, t106⟩ : Val)]) := ⟨_, rfl⟩
        replace H : (subst_Ground.l0 k1 l1 y109 l0_1 (l0_1.length : Int) (wrap64 (x14_1 + 1))) = some (r1, r2) := by first | (rw [hy109]; with_reducible exact H) | (have H2_ := (Option.bind_some _ _).symm.trans H; rw [hy109]; with_reducible exact H2_) | (have H2_ := (Option.bind_some _ _).symm.trans H; with_reducible exact H2_) | with_reducible exact H | (rw [hy109]; exact H) | exact H
        have Ny109 := am hy109
        clear hy109
        have H' := am H
        clear H
        have p102 : 0 ≤ (x14_1 : Int) := of_decide_eq_true (by first | (with_reducible assumption) | assumption)
        have q102 : x14_1 < (l0_1.length : Int) := of_decide_eq_true (by first | (with_reducible assumption) | assumption)
        obtain ⟨ad102, e102, hx102_0, hx102_1, hx102_2, hx102_3, hx102_4⟩ := at_T49 HR0_1.out x14_1 p102 q102
        cases e102
        replace hx102_0 := (HB.out.cell (blt_ hx102_0)).trans hx102_0
        replace hx102_1 := (HB.out.cell (blt_ hx102_1)).trans hx102_1
        replace hx102_2 := (HB.out.cell (blt_ hx102_2)).trans hx102_2
        replace hx102_3 := (HB.out.cell (blt_ hx102_3)).trans hx102_3
        replace hx102_4 := (HB.out.cell (blt_ hx102_4)).trans hx102_4
        replace p102 := eq_true p102
        replace q102 := eq_true q102
        go_wp2_with (first | ((with_reducible refine gate_dst (N := 8) rfl ?_); refine box_event ?hg (N := 8) ?hd (cs := #[.bool false, .string (⟨#[]⟩ : ByteArray), .bool false, .string (⟨#[]⟩ : ByteArray), .int .i64 0]) (t := 49) ?hr ?_; (case hd => rfl); (case hg => rfl); (case hr => first | (go_simp; done) | (go_simp; rfl)); intro gb103 hg w11 hbox hb; replace HO_6 := am (Kd.R_below (by (with_reducible repeat (first | apply Ra | apply Rn | apply Rd)); exact HO_6.out) hb); have BK103 := am (hbox); have GW103 := am ((by rw [hg]; exact (below_size (by repeat (first | (with_reducible first | exact HB.out | apply lA | apply lN | apply lD | refine lS ?_ GE101.out) | exact HB.out))) : w.heap.size ≤ gb103)); have GE103 := am ((by rw [hg]; exact (below_size (by repeat (first | (with_reducible first | exact HB.out | apply lA | apply lN | apply lD | refine lS ?_ GE101.out) | exact HB.out))) : w.heap.size ≤ gb103)); replace HB := am (below_step (by repeat (first | (with_reducible first | exact HB.out | apply lA | apply lN | apply lD | refine lS ?_ GE101.out) | exact HB.out)) hb); have NB101_103 := am ((by rw [hg]; exact Nat.ne_of_lt (blk_lt (g := gb101) (o := .cells #[.string a0_0, .slice (some ad102) l0_1.length c0_1] 46 (0, 0)) (by (with_reducible repeat (first | refine bN ?_ _ | refine bD ?_ | refine bA ?_ _)); exact BK101.out)) : gb101 ≠ gb103)); have NB103_101 := am ((by rw [hg]; exact Nat.ne_of_gt (blk_lt (g := gb101) (o := .cells #[.string a0_0, .slice (some ad102) l0_1.length c0_1] 46 (0, 0)) (by (with_reducible repeat (first | refine bN ?_ _ | refine bD ?_ | refine bA ?_ _)); exact BK101.out)) : gb103 ≠ gb101)); replace BK101 := am (blk_below (g := gb101) (o := .cells #[.string a0_0, .slice (some ad102) l0_1.length c0_1] 46 (0, 0)) (by (with_reducible repeat (first | refine bN ?_ _ | refine bD ?_ | refine bA ?_ _)); exact BK101.out) hb); clear hb hbox hg; have hnb12 := NB103_101.out; have hnc12 := NB101_103.out; have hcz13_0 : w11.cell? ⟨gb103, 0, none⟩ = some (.bool false) := (blk_cell BK103.out 0).trans rfl; have hcz13_1 : w11.cell? ⟨gb103, 1, none⟩ = some (.string (⟨#[]⟩ : ByteArray)) := (blk_cell BK103.out 1).trans rfl; have hcz13_2 : w11.cell? ⟨gb103, 2, none⟩ = some (.bool false) := (blk_cell BK103.out 2).trans rfl; have hcz13_3 : w11.cell? ⟨gb103, 3, none⟩ = some (.string (⟨#[]⟩ : ByteArray)) := (blk_cell BK103.out 3).trans rfl; have hcz13_4 : w11.cell? ⟨gb103, 4, none⟩ = some (.int .i64 0) := (blk_cell BK103.out 4).trans rfl; have hfz13_0 := blk_frozen BK103.out 0; have hfz13_1 := blk_frozen BK103.out 1; have hfz13_2 := blk_frozen BK103.out 2; have hfz13_3 := blk_frozen BK103.out 3; have hfz13_4 := blk_frozen BK103.out 4) | ((with_reducible refine gate_callee (f := 28) rfl ?_); refine goesL_ (some 21) rfl rfl Try.func28 (by kernel_rfl) rfl #[.agg #[.bool ((rd_T49 l0_1 x14_1).isVar), .string ((rd_T49 l0_1 x14_1).name), .bool ((rd_T49 l0_1 x14_1).val.isSym), .string ((rd_T49 l0_1 x14_1).val.sym), .int .i64 ((rd_T49 l0_1 x14_1).val.n)], .slice A1 l1.length c1] rfl (by (try simp only [List.map_toArray, List.map_cons, List.map_nil]); first | done | rfl | (simp only [List.length_drop, List.length_take]; rfl)) ?_; (with_reducible refine (subst_Value.calls ((rd_T49 l0_1 x14_1).isVar) ((rd_T49 l0_1 x14_1).name) ((rd_T49 l0_1 x14_1).val.isSym) ((rd_T49 l0_1 x14_1).val.sym) ((rd_T49 l0_1 x14_1).val.n) _ _ l1 t104 t105 t106 true _ ?side1 ?side2 A8.out).mono ?_); (case side1 => exact Kd.C_below HR1.out (by repeat (first | (with_reducible first | exact HB.out | apply lA | apply lN | apply lD | refine lS ?_ GE101.out | refine lS ?_ GE103.out) | exact HB.out))); (case side2 => exact HC1.out); rintro e w14 ⟨rfl, hb⟩; refine ⟨_, rfl, ?_⟩; replace HO_6 := am (Kd.R_below (by (with_reducible repeat (first | apply Ra | apply Rn | apply Rd)); exact (Kd.R_mono (Kd.R_far (p := ⟨gb103, 4, none⟩) (Kd.R_far (p := ⟨gb103, 3, none⟩) (Kd.R_far (p := ⟨gb103, 2, none⟩) (Kd.R_far (p := ⟨gb103, 1, none⟩) (Kd.R_far (p := ⟨gb103, 0, none⟩) (Kd.R_types HO_6.out BK103.out (by decide)) (fun _ hk => hk.2) _) (fun _ hk => hk.2) _) (fun _ hk => hk.2) _) (fun _ hk => hk.2) _) (fun _ hk => hk.2) _) (fun _ h_ => h_.1))) hb); replace BK101 := am (blk_below (g := gb101) (o := .cells #[.string a0_0, .slice (some ad102) l0_1.length c0_1] 46 (0, 0)) (by repeat (first | (with_reducible first | exact BK101.out | refine bN ?_ _ | refine bD ?_ | refine bA ?_ _) | refine blk_far ?_ NB101_103.out _ | exact BK101.out)) hb); replace BK103 := am (blk_below (g := gb103) (o := .cells #[.bool ((rd_T49 l0_1 x14_1).isVar), .string ((rd_T49 l0_1 x14_1).name), .bool ((rd_T49 l0_1 x14_1).val.isSym), .string ((rd_T49 l0_1 x14_1).val.sym), .int .i64 ((rd_T49 l0_1 x14_1).val.n)] 49 (0, 0)) (by (with_reducible repeat (first | refine bN ?_ _ | refine bD ?_ | refine bA ?_ _)); refine blk_put (cs := #[.bool ((rd_T49 l0_1 x14_1).isVar), .string ((rd_T49 l0_1 x14_1).name), .bool ((rd_T49 l0_1 x14_1).val.isSym), .string ((rd_T49 l0_1 x14_1).val.sym), .int .i64 0]) ?_ 4 _ rfl; (with_reducible repeat (first | refine bN ?_ _ | refine bD ?_ | refine bA ?_ _)); refine blk_put (cs := #[.bool ((rd_T49 l0_1 x14_1).isVar), .string ((rd_T49 l0_1 x14_1).name), .bool ((rd_T49 l0_1 x14_1).val.isSym), .string (⟨#[]⟩ : ByteArray), .int .i64 0]) ?_ 3 _ rfl; (with_reducible repeat (first | refine bN ?_ _ | refine bD ?_ | refine bA ?_ _)); refine blk_put (cs := #[.bool ((rd_T49 l0_1 x14_1).isVar), .string ((rd_T49 l0_1 x14_1).name), .bool false, .string (⟨#[]⟩ : ByteArray), .int .i64 0]) ?_ 2 _ rfl; (with_reducible repeat (first | refine bN ?_ _ | refine bD ?_ | refine bA ?_ _)); refine blk_put (cs := #[.bool ((rd_T49 l0_1 x14_1).isVar), .string (⟨#[]⟩ : ByteArray), .bool false, .string (⟨#[]⟩ : ByteArray), .int .i64 0]) ?_ 1 _ rfl; (with_reducible repeat (first | refine bN ?_ _ | refine bD ?_ | refine bA ?_ _)); refine blk_put (cs := #[.bool false, .string (⟨#[]⟩ : ByteArray), .bool false, .string (⟨#[]⟩ : ByteArray), .int .i64 0]) ?_ 0 _ rfl; (with_reducible repeat (first | refine bN ?_ _ | refine bD ?_ | refine bA ?_ _)); exact BK103.out) hb); replace HB := am (below_step (by repeat (first | (with_reducible first | exact HB.out | apply lA | apply lN | apply lD | refine lS ?_ GE101.out | refine lS ?_ GE103.out) | exact HB.out)) hb); (try clear hb); (try clear hb2); (try clear hk); (try clear hi)) | ((with_reducible refine gate_dst (N := 9) rfl ?_); refine box_event ?hg (N := 9) ?hd (cs := #[.bool false, .string (⟨#[]⟩ : ByteArray), .int .i64 0]) (t := 24) ?hr ?_; (case hd => rfl); (case hg => rfl); (case hr => first | (go_simp; done) | (go_simp; rfl)); intro gb108 hg w15 hbox hb; replace HO_6 := am (Kd.R_below (Kd.R_elderB (by (with_reducible repeat (first | apply Ra | apply Rn | apply Rd)); exact HO_6.out) gb108 (Nat.le_of_eq hg.symm)) hb); have BK108 := am (hbox); have GW108 := am ((by rw [hg]; exact (below_size (by repeat (first | (with_reducible first | exact HB.out | apply lA | apply lN | apply lD | refine lS ?_ GE101.out | refine lS ?_ GE103.out) | exact HB.out))) : w.heap.size ≤ gb108)); have GE108 := am ((by rw [hg]; exact (below_size (by repeat (first | (with_reducible first | exact HB.out | apply lA | apply lN | apply lD | refine lS ?_ GE101.out | refine lS ?_ GE103.out) | exact HB.out))) : w.heap.size ≤ gb108)); replace HB := am (below_step (by repeat (first | (with_reducible first | exact HB.out | apply lA | apply lN | apply lD | refine lS ?_ GE101.out | refine lS ?_ GE103.out) | exact HB.out)) hb); have NB101_108 := am ((by rw [hg]; exact Nat.ne_of_lt (blk_lt (g := gb101) (o := .cells #[.string a0_0, .slice (some ad102) l0_1.length c0_1] 46 (0, 0)) (by (with_reducible repeat (first | refine bN ?_ _ | refine bD ?_ | refine bA ?_ _)); exact BK101.out)) : gb101 ≠ gb108)); have NB108_101 := am ((by rw [hg]; exact Nat.ne_of_gt (blk_lt (g := gb101) (o := .cells #[.string a0_0, .slice (some ad102) l0_1.length c0_1] 46 (0, 0)) (by (with_reducible repeat (first | refine bN ?_ _ | refine bD ?_ | refine bA ?_ _)); exact BK101.out)) : gb108 ≠ gb101)); replace BK101 := am (blk_below (g := gb101) (o := .cells #[.string a0_0, .slice (some ad102) l0_1.length c0_1] 46 (0, 0)) (by (with_reducible repeat (first | refine bN ?_ _ | refine bD ?_ | refine bA ?_ _)); exact BK101.out) hb); have NB103_108 := am ((by rw [hg]; exact Nat.ne_of_lt (blk_lt (g := gb103) (o := .cells #[.bool ((rd_T49 l0_1 x14_1).isVar), .string ((rd_T49 l0_1 x14_1).name), .bool ((rd_T49 l0_1 x14_1).val.isSym), .string ((rd_T49 l0_1 x14_1).val.sym), .int .i64 ((rd_T49 l0_1 x14_1).val.n)] 49 (0, 0)) (by (with_reducible repeat (first | refine bN ?_ _ | refine bD ?_ | refine bA ?_ _)); exact BK103.out)) : gb103 ≠ gb108)); have NB108_103 := am ((by rw [hg]; exact Nat.ne_of_gt (blk_lt (g := gb103) (o := .cells #[.bool ((rd_T49 l0_1 x14_1).isVar), .string ((rd_T49 l0_1 x14_1).name), .bool ((rd_T49 l0_1 x14_1).val.isSym), .string ((rd_T49 l0_1 x14_1).val.sym), .int .i64 ((rd_T49 l0_1 x14_1).val.n)] 49 (0, 0)) (by (with_reducible repeat (first | refine bN ?_ _ | refine bD ?_ | refine bA ?_ _)); exact BK103.out)) : gb108 ≠ gb103)); replace BK103 := am (blk_below (g := gb103) (o := .cells #[.bool ((rd_T49 l0_1 x14_1).isVar), .string ((rd_T49 l0_1 x14_1).name), .bool ((rd_T49 l0_1 x14_1).val.isSym), .string ((rd_T49 l0_1 x14_1).val.sym), .int .i64 ((rd_T49 l0_1 x14_1).val.n)] 49 (0, 0)) (by (with_reducible repeat (first | refine bN ?_ _ | refine bD ?_ | refine bA ?_ _)); exact BK103.out) hb); clear hb hbox hg; have hnb16 := NB108_101.out; have hnc16 := NB101_108.out; have hnb17 := NB108_103.out; have hnc17 := NB103_108.out; have hcz18_0 : w15.cell? ⟨gb108, 0, none⟩ = some (.bool false) := (blk_cell BK108.out 0).trans rfl; have hcz18_1 : w15.cell? ⟨gb108, 1, none⟩ = some (.string (⟨#[]⟩ : ByteArray)) := (blk_cell BK108.out 1).trans rfl; have hcz18_2 : w15.cell? ⟨gb108, 2, none⟩ = some (.int .i64 0) := (blk_cell BK108.out 2).trans rfl; have hfz18_0 := blk_frozen BK108.out 0; have hfz18_1 := blk_frozen BK108.out 1; have hfz18_2 := blk_frozen BK108.out 2) | ((with_reducible refine gate_builtin (b := .append) (xs := #[.tmp 26, .tmp 28]) rfl ?_); at_builtin; refine Kd.R_append k24 (w0 := w) w.heap.size rfl (.tmp 26) (.tmp 28) 47 24 (.agg #[(.bool false), (.string ⟨#[]⟩), (.int .i64 0)]) 32 rfl Try.underlying47 info24 rfl (by decide) (by omega) u6 x6_1 (⟨t104, t105, t106⟩ : Val) [.bool t104, .string t105, .int .i64 t106] (fun k_ => k_ ≠ gb108) (fun _ => False) rfl (by first | (go_simp; done) | (go_simp; rfl)) ?aP (fun _ hk => hk.elim) ?aF ?aO ?aB ?aS ?aL ?_; (case aP => exact k24_mkM _ _ _ (⟨t104, t105, t106⟩ : Val)); (case aB => exact (by repeat (first | (with_reducible first | exact HB.out | apply lA | apply lN | apply lD | refine lS ?_ GE101.out | refine lS ?_ GE103.out | refine lS ?_ GE108.out) | exact HB.out))); (case aF => exact (fun k_ hk => Kd.freshB (g := gb108) (o := .cells #[.bool t104, .string t105, .int .i64 t106] 24 (0, 0)) (by (with_reducible repeat (first | refine bN ?_ _ | refine bD ?_ | refine bA ?_ _)); refine blk_put (cs := #[.bool t104, .string t105, .int .i64 0]) ?_ 2 _ rfl; (with_reducible repeat (first | refine bN ?_ _ | refine bD ?_ | refine bA ?_ _)); refine blk_put (cs := #[.bool t104, .string (⟨#[]⟩ : ByteArray), .int .i64 0]) ?_ 1 _ rfl; (with_reducible repeat (first | refine bN ?_ _ | refine bD ?_ | refine bA ?_ _)); refine blk_put (cs := #[.bool false, .string (⟨#[]⟩ : ByteArray), .int .i64 0]) ?_ 0 _ rfl; (with_reducible repeat (first | refine bN ?_ _ | refine bD ?_ | refine bA ?_ _)); exact BK108.out) k_ hk)); (case aO => exact (by (with_reducible repeat (first | apply Ra | apply Rn | apply Rd)); exact Kd.R_mono (Kd.R_far (p := ⟨gb108, 2, none⟩) (Kd.R_far (p := ⟨gb108, 1, none⟩) (Kd.R_far (p := ⟨gb108, 0, none⟩) (Kd.R_mono HO_6.out (fun k_ hk => (⟨hk, hk.2⟩ : _ ∧ k_ ≠ gb108))) (fun _ hk => hk.2) _) (fun _ hk => hk.2) _) (fun _ hk => hk.2) _) (fun _ hk => hk.1.2))); (case aS => exact (below_size (by repeat (first | (with_reducible first | exact HB.out | apply lA | apply lN | apply lD | refine lS ?_ GE101.out | refine lS ?_ GE103.out | refine lS ?_ GE108.out) | exact HB.out)))); (case aL => have := LMc10.out; omega); intro v110 w19 ho hb hg hat; rw [← Ny109.out] at ho; replace BK101 := am (blk_grown (g := gb101) (o := .cells #[.string a0_0, .slice (some ad102) l0_1.length c0_1] 46 (0, 0)) (by repeat (first | (with_reducible first | exact BK101.out | refine bN ?_ _ | refine bD ?_ | refine bA ?_ _) | refine blk_far ?_ NB101_108.out _ | exact BK101.out)) hg (Kd.R_ne HO_6.out BK101.out (by decide))); replace BK103 := am (blk_grown (g := gb103) (o := .cells #[.bool ((rd_T49 l0_1 x14_1).isVar), .string ((rd_T49 l0_1 x14_1).name), .bool ((rd_T49 l0_1 x14_1).val.isSym), .string ((rd_T49 l0_1 x14_1).val.sym), .int .i64 ((rd_T49 l0_1 x14_1).val.n)] 49 (0, 0)) (by repeat (first | (with_reducible first | exact BK103.out | refine bN ?_ _ | refine bD ?_ | refine bA ?_ _) | refine blk_far ?_ NB103_108.out _ | exact BK103.out)) hg (Kd.R_ne HO_6.out BK103.out (by decide))); replace BK108 := am (blk_grown (g := gb108) (o := .cells #[.bool t104, .string t105, .int .i64 t106] 24 (0, 0)) (by (with_reducible repeat (first | refine bN ?_ _ | refine bD ?_ | refine bA ?_ _)); refine blk_put (cs := #[.bool t104, .string t105, .int .i64 0]) ?_ 2 _ rfl; (with_reducible repeat (first | refine bN ?_ _ | refine bD ?_ | refine bA ?_ _)); refine blk_put (cs := #[.bool t104, .string (⟨#[]⟩ : ByteArray), .int .i64 0]) ?_ 1 _ rfl; (with_reducible repeat (first | refine bN ?_ _ | refine bD ?_ | refine bA ?_ _)); refine blk_put (cs := #[.bool false, .string (⟨#[]⟩ : ByteArray), .int .i64 0]) ?_ 0 _ rfl; (with_reducible repeat (first | refine bN ?_ _ | refine bD ?_ | refine bA ?_ _)); exact BK108.out) hg (Kd.R_away HO_6.out (fun _ hk => hk.2))); replace HB := am (hb); have HO111 := am (ho); clear HO_6; clear ho hb hg hat))
        go_roundg k1
        case measure => have := HK1.out; omega
        case rel => exact ⟨(y109), (wrap64 (x14_1 + 1)), (by first | rfl | (simp; done) | (simp [*]; done)), H', ⟨by have := HK1.out; omega⟩, ⟨by (with_reducible repeat (first | apply Ra | apply Rn | apply Rd)); exact Kd.R_mono HO111.out (fun _ hk => trivial)⟩, ⟨by (with_reducible repeat (first | refine bN ?_ _ | refine bD ?_ | refine bA ?_ _)); exact BK101.out⟩, ⟨by repeat (first | (with_reducible first | exact HB.out | apply lA | apply lN | apply lD | refine lS ?_ GE101.out | refine lS ?_ GE103.out | refine lS ?_ GE108.out) | exact HB.out)⟩⟩
       ·rw [if_neg c10] at H
        exact absurd H (by simp)
      ·replace c9 := Bool.eq_false_iff.mpr c9
       subst c9
       have H1 : (some (([] : List (Val)), false)) = some (r1, r2) := by rw [if_neg (show ¬ (false = true) by decide)] at H; exact H
       clear H
       have H := H1
       clear H1
       simp only [Option.some.injEq, Prod.mk.injEq] at H
       obtain ⟨rfl, rfl⟩ := H
       have p102 : 0 ≤ (x14_1 : Int) := of_decide_eq_true (by first | (with_reducible assumption) | assumption)
       have q102 : x14_1 < (l0_1.length : Int) := of_decide_eq_true (by first | (with_reducible assumption) | assumption)
       obtain ⟨ad102, e102, hx102_0, hx102_1, hx102_2, hx102_3, hx102_4⟩ := at_T49 HR0_1.out x14_1 p102 q102
       cases e102
       replace hx102_0 := (HB.out.cell (blt_ hx102_0)).trans hx102_0
       replace hx102_1 := (HB.out.cell (blt_ hx102_1)).trans hx102_1
       replace hx102_2 := (HB.out.cell (blt_ hx102_2)).trans hx102_2
       replace hx102_3 := (HB.out.cell (blt_ hx102_3)).trans hx102_3
       replace hx102_4 := (HB.out.cell (blt_ hx102_4)).trans hx102_4
       replace p102 := eq_true p102
       replace q102 := eq_true q102
       go_wp2_with (first | ((with_reducible refine gate_dst (N := 8) rfl ?_); refine box_event ?hg (N := 8) ?hd (cs := #[.bool false, .string (⟨#[]⟩ : ByteArray), .bool false, .string (⟨#[]⟩ : ByteArray), .int .i64 0]) (t := 49) ?hr ?_; (case hd => rfl); (case hg => rfl); (case hr => first | (go_simp; done) | (go_simp; rfl)); intro gb103 hg w20 hbox hb; replace HO_6 := am (Kd.R_below (by (with_reducible repeat (first | apply Ra | apply Rn | apply Rd)); exact HO_6.out) hb); have BK103 := am (hbox); have GW103 := am ((by rw [hg]; exact (below_size (by repeat (first | (with_reducible first | exact HB.out | apply lA | apply lN | apply lD | refine lS ?_ GE101.out) | exact HB.out))) : w.heap.size ≤ gb103)); have GE103 := am ((by rw [hg]; exact (below_size (by repeat (first | (with_reducible first | exact HB.out | apply lA | apply lN | apply lD | refine lS ?_ GE101.out) | exact HB.out))) : w.heap.size ≤ gb103)); replace HB := am (below_step (by repeat (first | (with_reducible first | exact HB.out | apply lA | apply lN | apply lD | refine lS ?_ GE101.out) | exact HB.out)) hb); have NB101_103 := am ((by rw [hg]; exact Nat.ne_of_lt (blk_lt (g := gb101) (o := .cells #[.string a0_0, .slice (some ad102) l0_1.length c0_1] 46 (0, 0)) (by (with_reducible repeat (first | refine bN ?_ _ | refine bD ?_ | refine bA ?_ _)); exact BK101.out)) : gb101 ≠ gb103)); have NB103_101 := am ((by rw [hg]; exact Nat.ne_of_gt (blk_lt (g := gb101) (o := .cells #[.string a0_0, .slice (some ad102) l0_1.length c0_1] 46 (0, 0)) (by (with_reducible repeat (first | refine bN ?_ _ | refine bD ?_ | refine bA ?_ _)); exact BK101.out)) : gb103 ≠ gb101)); replace BK101 := am (blk_below (g := gb101) (o := .cells #[.string a0_0, .slice (some ad102) l0_1.length c0_1] 46 (0, 0)) (by (with_reducible repeat (first | refine bN ?_ _ | refine bD ?_ | refine bA ?_ _)); exact BK101.out) hb); clear hb hbox hg; have hnb21 := NB103_101.out; have hnc21 := NB101_103.out; have hcz22_0 : w20.cell? ⟨gb103, 0, none⟩ = some (.bool false) := (blk_cell BK103.out 0).trans rfl; have hcz22_1 : w20.cell? ⟨gb103, 1, none⟩ = some (.string (⟨#[]⟩ : ByteArray)) := (blk_cell BK103.out 1).trans rfl; have hcz22_2 : w20.cell? ⟨gb103, 2, none⟩ = some (.bool false) := (blk_cell BK103.out 2).trans rfl; have hcz22_3 : w20.cell? ⟨gb103, 3, none⟩ = some (.string (⟨#[]⟩ : ByteArray)) := (blk_cell BK103.out 3).trans rfl; have hcz22_4 : w20.cell? ⟨gb103, 4, none⟩ = some (.int .i64 0) := (blk_cell BK103.out 4).trans rfl; have hfz22_0 := blk_frozen BK103.out 0; have hfz22_1 := blk_frozen BK103.out 1; have hfz22_2 := blk_frozen BK103.out 2; have hfz22_3 := blk_frozen BK103.out 3; have hfz22_4 := blk_frozen BK103.out 4) | ((with_reducible refine gate_callee (f := 28) rfl ?_); refine goesL_ (some 21) rfl rfl Try.func28 (by kernel_rfl) rfl #[.agg #[.bool ((rd_T49 l0_1 x14_1).isVar), .string ((rd_T49 l0_1 x14_1).name), .bool ((rd_T49 l0_1 x14_1).val.isSym), .string ((rd_T49 l0_1 x14_1).val.sym), .int .i64 ((rd_T49 l0_1 x14_1).val.n)], .slice A1 l1.length c1] rfl (by (try simp only [List.map_toArray, List.map_cons, List.map_nil]); first | done | rfl | (simp only [List.length_drop, List.length_take]; rfl)) ?_; (with_reducible refine (subst_Value.calls ((rd_T49 l0_1 x14_1).isVar) ((rd_T49 l0_1 x14_1).name) ((rd_T49 l0_1 x14_1).val.isSym) ((rd_T49 l0_1 x14_1).val.sym) ((rd_T49 l0_1 x14_1).val.n) _ _ l1 t104 t105 t106 false _ ?side1 ?side2 A8.out).mono ?_); (case side1 => exact Kd.C_below HR1.out (by repeat (first | (with_reducible first | exact HB.out | apply lA | apply lN | apply lD | refine lS ?_ GE101.out | refine lS ?_ GE103.out) | exact HB.out))); (case side2 => exact HC1.out); rintro e w23 ⟨rfl, hb⟩; refine ⟨_, rfl, ?_⟩; replace HO_6 := am (Kd.R_below (by (with_reducible repeat (first | apply Ra | apply Rn | apply Rd)); exact (Kd.R_mono (Kd.R_far (p := ⟨gb103, 4, none⟩) (Kd.R_far (p := ⟨gb103, 3, none⟩) (Kd.R_far (p := ⟨gb103, 2, none⟩) (Kd.R_far (p := ⟨gb103, 1, none⟩) (Kd.R_far (p := ⟨gb103, 0, none⟩) (Kd.R_types HO_6.out BK103.out (by decide)) (fun _ hk => hk.2) _) (fun _ hk => hk.2) _) (fun _ hk => hk.2) _) (fun _ hk => hk.2) _) (fun _ hk => hk.2) _) (fun _ h_ => h_.1))) hb); replace BK101 := am (blk_below (g := gb101) (o := .cells #[.string a0_0, .slice (some ad102) l0_1.length c0_1] 46 (0, 0)) (by repeat (first | (with_reducible first | exact BK101.out | refine bN ?_ _ | refine bD ?_ | refine bA ?_ _) | refine blk_far ?_ NB101_103.out _ | exact BK101.out)) hb); replace BK103 := am (blk_below (g := gb103) (o := .cells #[.bool ((rd_T49 l0_1 x14_1).isVar), .string ((rd_T49 l0_1 x14_1).name), .bool ((rd_T49 l0_1 x14_1).val.isSym), .string ((rd_T49 l0_1 x14_1).val.sym), .int .i64 ((rd_T49 l0_1 x14_1).val.n)] 49 (0, 0)) (by (with_reducible repeat (first | refine bN ?_ _ | refine bD ?_ | refine bA ?_ _)); refine blk_put (cs := #[.bool ((rd_T49 l0_1 x14_1).isVar), .string ((rd_T49 l0_1 x14_1).name), .bool ((rd_T49 l0_1 x14_1).val.isSym), .string ((rd_T49 l0_1 x14_1).val.sym), .int .i64 0]) ?_ 4 _ rfl; (with_reducible repeat (first | refine bN ?_ _ | refine bD ?_ | refine bA ?_ _)); refine blk_put (cs := #[.bool ((rd_T49 l0_1 x14_1).isVar), .string ((rd_T49 l0_1 x14_1).name), .bool ((rd_T49 l0_1 x14_1).val.isSym), .string (⟨#[]⟩ : ByteArray), .int .i64 0]) ?_ 3 _ rfl; (with_reducible repeat (first | refine bN ?_ _ | refine bD ?_ | refine bA ?_ _)); refine blk_put (cs := #[.bool ((rd_T49 l0_1 x14_1).isVar), .string ((rd_T49 l0_1 x14_1).name), .bool false, .string (⟨#[]⟩ : ByteArray), .int .i64 0]) ?_ 2 _ rfl; (with_reducible repeat (first | refine bN ?_ _ | refine bD ?_ | refine bA ?_ _)); refine blk_put (cs := #[.bool ((rd_T49 l0_1 x14_1).isVar), .string (⟨#[]⟩ : ByteArray), .bool false, .string (⟨#[]⟩ : ByteArray), .int .i64 0]) ?_ 1 _ rfl; (with_reducible repeat (first | refine bN ?_ _ | refine bD ?_ | refine bA ?_ _)); refine blk_put (cs := #[.bool false, .string (⟨#[]⟩ : ByteArray), .bool false, .string (⟨#[]⟩ : ByteArray), .int .i64 0]) ?_ 0 _ rfl; (with_reducible repeat (first | refine bN ?_ _ | refine bD ?_ | refine bA ?_ _)); exact BK103.out) hb); replace HB := am (below_step (by repeat (first | (with_reducible first | exact HB.out | apply lA | apply lN | apply lD | refine lS ?_ GE101.out | refine lS ?_ GE103.out) | exact HB.out)) hb); (try clear hb); (try clear hb2); (try clear hk); (try clear hi)) | ((with_reducible refine gate_dst (N := 9) rfl ?_); refine box_event ?hg (N := 9) ?hd (cs := #[.bool false, .string (⟨#[]⟩ : ByteArray), .int .i64 0]) (t := 24) ?hr ?_; (case hd => rfl); (case hg => rfl); (case hr => first | (go_simp; done) | (go_simp; rfl)); intro gb108 hg w24 hbox hb; replace HO_6 := am (Kd.R_below (Kd.R_elderB (by (with_reducible repeat (first | apply Ra | apply Rn | apply Rd)); exact HO_6.out) gb108 (Nat.le_of_eq hg.symm)) hb); have BK108 := am (hbox); have GW108 := am ((by rw [hg]; exact (below_size (by repeat (first | (with_reducible first | exact HB.out | apply lA | apply lN | apply lD | refine lS ?_ GE101.out | refine lS ?_ GE103.out) | exact HB.out))) : w.heap.size ≤ gb108)); have GE108 := am ((by rw [hg]; exact (below_size (by repeat (first | (with_reducible first | exact HB.out | apply lA | apply lN | apply lD | refine lS ?_ GE101.out | refine lS ?_ GE103.out) | exact HB.out))) : w.heap.size ≤ gb108)); replace HB := am (below_step (by repeat (first | (with_reducible first | exact HB.out | apply lA | apply lN | apply lD | refine lS ?_ GE101.out | refine lS ?_ GE103.out) | exact HB.out)) hb); have NB101_108 := am ((by rw [hg]; exact Nat.ne_of_lt (blk_lt (g := gb101) (o := .cells #[.string a0_0, .slice (some ad102) l0_1.length c0_1] 46 (0, 0)) (by (with_reducible repeat (first | refine bN ?_ _ | refine bD ?_ | refine bA ?_ _)); exact BK101.out)) : gb101 ≠ gb108)); have NB108_101 := am ((by rw [hg]; exact Nat.ne_of_gt (blk_lt (g := gb101) (o := .cells #[.string a0_0, .slice (some ad102) l0_1.length c0_1] 46 (0, 0)) (by (with_reducible repeat (first | refine bN ?_ _ | refine bD ?_ | refine bA ?_ _)); exact BK101.out)) : gb108 ≠ gb101)); replace BK101 := am (blk_below (g := gb101) (o := .cells #[.string a0_0, .slice (some ad102) l0_1.length c0_1] 46 (0, 0)) (by (with_reducible repeat (first | refine bN ?_ _ | refine bD ?_ | refine bA ?_ _)); exact BK101.out) hb); have NB103_108 := am ((by rw [hg]; exact Nat.ne_of_lt (blk_lt (g := gb103) (o := .cells #[.bool ((rd_T49 l0_1 x14_1).isVar), .string ((rd_T49 l0_1 x14_1).name), .bool ((rd_T49 l0_1 x14_1).val.isSym), .string ((rd_T49 l0_1 x14_1).val.sym), .int .i64 ((rd_T49 l0_1 x14_1).val.n)] 49 (0, 0)) (by (with_reducible repeat (first | refine bN ?_ _ | refine bD ?_ | refine bA ?_ _)); exact BK103.out)) : gb103 ≠ gb108)); have NB108_103 := am ((by rw [hg]; exact Nat.ne_of_gt (blk_lt (g := gb103) (o := .cells #[.bool ((rd_T49 l0_1 x14_1).isVar), .string ((rd_T49 l0_1 x14_1).name), .bool ((rd_T49 l0_1 x14_1).val.isSym), .string ((rd_T49 l0_1 x14_1).val.sym), .int .i64 ((rd_T49 l0_1 x14_1).val.n)] 49 (0, 0)) (by (with_reducible repeat (first | refine bN ?_ _ | refine bD ?_ | refine bA ?_ _)); exact BK103.out)) : gb108 ≠ gb103)); replace BK103 := am (blk_below (g := gb103) (o := .cells #[.bool ((rd_T49 l0_1 x14_1).isVar), .string ((rd_T49 l0_1 x14_1).name), .bool ((rd_T49 l0_1 x14_1).val.isSym), .string ((rd_T49 l0_1 x14_1).val.sym), .int .i64 ((rd_T49 l0_1 x14_1).val.n)] 49 (0, 0)) (by (with_reducible repeat (first | refine bN ?_ _ | refine bD ?_ | refine bA ?_ _)); exact BK103.out) hb); clear hb hbox hg; have hnb25 := NB108_101.out; have hnc25 := NB101_108.out; have hnb26 := NB108_103.out; have hnc26 := NB103_108.out; have hcz27_0 : w24.cell? ⟨gb108, 0, none⟩ = some (.bool false) := (blk_cell BK108.out 0).trans rfl; have hcz27_1 : w24.cell? ⟨gb108, 1, none⟩ = some (.string (⟨#[]⟩ : ByteArray)) := (blk_cell BK108.out 1).trans rfl; have hcz27_2 : w24.cell? ⟨gb108, 2, none⟩ = some (.int .i64 0) := (blk_cell BK108.out 2).trans rfl; have hfz27_0 := blk_frozen BK108.out 0; have hfz27_1 := blk_frozen BK108.out 1; have hfz27_2 := blk_frozen BK108.out 2))
       go_ret2
       exact ⟨_, by first | rfl | (simp [errW_none, errW_some] <;> rfl) | (simp [*, errW_none, errW_some] <;> rfl), by first | exact Kd.R_nil _ _ _ _ _ | exact Kd.N_nil _ _ _ _ _ | exact Kd.V_nil _ _ _ _ _ | exact Kd.Q_nil _ _ _ _ _ | exact Kd.S_nil _ _ _ _ _, by repeat (first | (with_reducible first | exact HB.out | apply lA | apply lN | apply lD | refine lS ?_ GE101.out | refine lS ?_ GE103.out | refine lS ?_ GE108.out) | exact HB.out)⟩
     ·rw [if_neg c7] at H
      exact absurd H (by simp)
    ·rw [if_neg c6] at H
     exact absurd H (by simp)
   ·rw [if_neg c5] at H
    have c5b0 : decide (x14_1 < (l0_1.length : Int)) = false := decide_eq_false c5
    clear c5
    simp only [Option.some.injEq, Prod.mk.injEq] at H
    obtain ⟨rfl, rfl⟩ := H
    go_wp2
    go_ret2
    exact ⟨_, by first | rfl | (simp [errW_none, errW_some] <;> rfl) | (simp [*, errW_none, errW_some] <;> rfl), by (with_reducible repeat (first | apply Ra | apply Rn | apply Rd)); exact HO_6.out, by repeat (first | (with_reducible first | exact HB.out | apply lA | apply lN | apply lD | refine lS ?_ GE101.out) | exact HB.out)⟩
end Go.Proofs.Ytdanihbbnepjpaa.H
namespace Go.Proofs.Ytdanihbbnepjpaa.H
open Go.RowKit Go.Proofs.YtdanihbbnepjpaaW.PrintWords Go.Proofs.YtdanihbbnepjpaaW.PrintLast Go.Proofs.YtdanihbbnepjpaaW.PrintMore
attribute [local go_sem] max2_int min2_int max_two min_two max_three min_three max_four min_four
set_option linter.unusedVariables false
set_option linter.unusedSimpArgs false
mutual
def lambrequinref03_Compare.l0 : Nat → List (Val) → List (Val) → Int → Option (Int)
 | 0, _, _, _ => none
 | k + 1, x0, x1, x5 => if x5 < (x0.length : Int) then (lambrequinref03_Compare.j1 k x0 x1 x5 (decide (x5 < (x1.length : Int)))) else (lambrequinref03_Compare.j1 k x0 x1 x5 false)
def lambrequinref03_Compare.j1 : Nat → List (Val) → List (Val) → Int → Bool → Option (Int)
 | 0, _, _, _, _ => none
 | k + 1, x0, x1, x5, x15 => if x15 = true then (if 0 ≤ x5 then (if x5 < (x0.length : Int) then (if x5 < (x1.length : Int) then ((lambrequinref01_Same.f k ((rd_T24 x0 x5).isSym) ((rd_T24 x0 x5).sym) ((rd_T24 x0 x5).n) ((rd_T24 x1 x5).isSym) ((rd_T24 x1 x5).sym) ((rd_T24 x1 x5).n)).bind fun t103 => (if t103 = true then (lambrequinref03_Compare.l0 k x0 x1 (wrap64 (x5 + 1))) else ((lambrequinref01_Compare.f k ((rd_T24 x0 x5).isSym) ((rd_T24 x0 x5).sym) ((rd_T24 x0 x5).n) ((rd_T24 x1 x5).isSym) ((rd_T24 x1 x5).sym) ((rd_T24 x1 x5).n)).bind fun t106 => (some t106)))) else (none)) else (none)) else (none)) else (if (x0.length : Int) < (x1.length : Int) then (some (-1)) else (if (x0.length : Int) > (x1.length : Int) then (some 1) else (some 0)))
end
def lambrequinref03_Compare.f (k : Nat) (l0 : List (Val)) (l1 : List (Val)) : Option (Int) := lambrequinref03_Compare.l0 k l0 l1 0
theorem lambrequinref03_Compare.mono_l : ∀ k, (∀ y0 y1 y2, LeO (lambrequinref03_Compare.l0 k y0 y1 y2) (lambrequinref03_Compare.l0 (k + 1) y0 y1 y2)) ∧ (∀ y0 y1 y2 y3, LeO (lambrequinref03_Compare.j1 k y0 y1 y2 y3) (lambrequinref03_Compare.j1 (k + 1) y0 y1 y2 y3))
 | 0 => ⟨fun _ _ _ r h => by simp [lambrequinref03_Compare.l0] at h, fun _ _ _ _ r h => by simp [lambrequinref03_Compare.j1] at h⟩
 | k + 1 => by
  obtain ⟨ih0, ih1⟩ := lambrequinref03_Compare.mono_l k
  refine ⟨?_, ?_⟩
  ·intro y0 y1 y2
   unfold lambrequinref03_Compare.l0
   repeat' first
   | (with_reducible exact ih0 _ _ _)
   | (with_reducible exact ih1 _ _ _ _)
   | (with_reducible exact lambrequinref01_Compare.mono _ _ _ _ _ _ _)
   | (with_reducible exact lambrequinref01_Same.mono _ _ _ _ _ _ _)
   | (with_reducible exact LeO.refl _)
   | (with_reducible exact LeO.none _)
   | (with_reducible refine LeO.ite ?_ ?_)
   | (with_reducible refine LeO.bind ?_ (fun _ => ?_))
   | exact ih0 _ _ _
   | exact ih1 _ _ _ _
   | exact lambrequinref01_Compare.mono _ _ _ _ _ _ _
   | exact lambrequinref01_Same.mono _ _ _ _ _ _ _
   | exact LeO.none _
   | refine LeO.ite ?_ ?_
   | refine LeO.bind ?_ (fun _ => ?_)
  ·intro y0 y1 y2 y3
   unfold lambrequinref03_Compare.j1
   repeat' first
   | (with_reducible exact ih0 _ _ _)
   | (with_reducible exact ih1 _ _ _ _)
   | (with_reducible exact lambrequinref01_Compare.mono _ _ _ _ _ _ _)
   | (with_reducible exact lambrequinref01_Same.mono _ _ _ _ _ _ _)
   | (with_reducible exact LeO.refl _)
   | (with_reducible exact LeO.none _)
   | (with_reducible refine LeO.ite ?_ ?_)
   | (with_reducible refine LeO.bind ?_ (fun _ => ?_))
   | exact ih0 _ _ _
   | exact ih1 _ _ _ _
   | exact lambrequinref01_Compare.mono _ _ _ _ _ _ _
   | exact lambrequinref01_Same.mono _ _ _ _ _ _ _
   | exact LeO.none _
   | refine LeO.ite ?_ ?_
   | refine LeO.bind ?_ (fun _ => ?_)
theorem lambrequinref03_Compare.mono : ∀ a0 a1 k, LeO (lambrequinref03_Compare.f k a0 a1) (lambrequinref03_Compare.f (k + 1) a0 a1) := by
 intro a0 a1 k
 obtain ⟨ih0, ih1⟩ := lambrequinref03_Compare.mono_l k
 unfold lambrequinref03_Compare.f
 repeat' first
   | (with_reducible exact ih0 _ _ _)
   | (with_reducible exact ih1 _ _ _ _)
   | (with_reducible exact lambrequinref01_Compare.mono _ _ _ _ _ _ _)
   | (with_reducible exact lambrequinref01_Same.mono _ _ _ _ _ _ _)
   | (with_reducible exact LeO.refl _)
   | (with_reducible exact LeO.none _)
   | (with_reducible refine LeO.ite ?_ ?_)
   | (with_reducible refine LeO.bind ?_ (fun _ => ?_))
   | exact ih0 _ _ _
   | exact ih1 _ _ _ _
   | exact lambrequinref01_Compare.mono _ _ _ _ _ _ _
   | exact lambrequinref01_Same.mono _ _ _ _ _ _ _
   | exact LeO.none _
   | refine LeO.ite ?_ ?_
   | refine LeO.bind ?_ (fun _ => ?_)
def lambrequinref03_Compare.T4 : Bool × List (List Nat × List Nat) := (true, [([], []), ([], []), ([0, 1], [0, 1]), ([2], [2]), ([], []), ([], []), ([4, 5], [4, 5]), ([6], [6]), ([3, 7], [3, 7]), ([8], [8])])
def lambrequinref03_Compare.B4 : List Nat := [0, 0, 3, 7, 0, 0, 48, 112, 255, 511]
theorem lambrequinref03_Compare.tab4 : rtab .any (opsOf Try.f23 4) = lambrequinref03_Compare.T4 := by kernel_rfl
theorem lambrequinref03_Compare.bits4 : waitsOk lambrequinref03_Compare.T4.2 lambrequinref03_Compare.B4 = true := by kernel_rfl
def lambrequinref03_Compare.T5 : Bool × List (List Nat × List Nat) := (true, [([], []), ([], []), ([0, 1], [0, 1]), ([2], [2]), ([], []), ([], []), ([4, 5], [4, 5]), ([6], [6]), ([3, 7], [3, 7]), ([8, 8, 0, 1, 2, 3, 4, 5, 6, 7, 8], [8])])
def lambrequinref03_Compare.B5 : List Nat := [0, 0, 3, 7, 0, 0, 48, 112, 255, 511]
theorem lambrequinref03_Compare.tab5 : rtab .any (opsOf Try.f23 5) = lambrequinref03_Compare.T5 := by kernel_rfl
theorem lambrequinref03_Compare.bits5 : waitsOk lambrequinref03_Compare.T5.2 lambrequinref03_Compare.B5 = true := by kernel_rfl
set_option maxHeartbeats 8000000 in
set_option maxRecDepth 100000 in
theorem lambrequinref03_Compare.calls (k : Nat) (A0 : Option Addr) (c0 : Nat) (l0 : List (Val)) (A1 : Option Addr) (c1 : Nat) (l1 : List (Val)) (r : Int) (w : World) (hr0 : Kd.C k24 w A0 l0.length l0) (hc0 : l0.length ≤ c0) (hr1 : Kd.C k24 w A1 l1.length l1) (hc1 : l1.length ≤ c1) (h : lambrequinref03_Compare.f k l0 l1 = some r) :
  Calls Try.prog 23 #[.slice A0 l0.length c0, .slice A1 l1.length c1] w fun e w' => e = .returned (.int .i64 r) ∧ Below w.heap.size w w' := by
 have hu24 := Try.underlying24
 have HR0 := am hr0
 have HC0 := am hc0
 clear hr0 hc0
 have HR1 := am hr1
 have HC1 := am hc1
 clear hr1 hc1
 have HB := am (Below.refl w.heap.size w)
 have H : (lambrequinref03_Compare.l0 k l0 l1 0) = some r := h
 clear h
 have H' := am H
 clear H
 go_enter Try.func23, Try.ntmps23
 go_wp2
 go_loopg [5] k (fun kq v5 w' => ∃ (x5_1 : Int), v5 = .int .i64 x5_1 ∧ Aside0 (lambrequinref03_Compare.l0 kq l0 l1 x5_1 = some r) ∧ Aside0 (kq ≤ k) ∧ Aside0 (Below w.heap.size w w'))
 case atStart => exact ⟨(0), (by first | rfl | (simp; done) | (simp [*]; done)), H', ⟨Nat.le_refl _⟩, ⟨by repeat (first | (with_reducible first | exact HB.out | apply lA | apply lN | apply lD) | exact HB.out)⟩⟩
 case round =>
  clear H'
  try clear c1
  try clear c2
  try clear p2
  obtain ⟨x5_1, rfl, HA, HK1, HB⟩ := hrel
  cases gk with
  | zero => exact absurd HA.out (by simp [lambrequinref03_Compare.l0])
  | succ k1 =>
   have H := HA.out
   clear HA
   simp only [lambrequinref03_Compare.l0] at H
   have HC3 := am H
   clear H
   go_upto_region 2 with (fail)
   go_cut [15] (fun v15 wc => ∃ (kq : Nat) (x15_2 : Bool), v15 = .bool x15_2 ∧ Aside0 (lambrequinref03_Compare.j1 kq l0 l1 x5_1 x15_2 = some r) ∧ Aside0 (kq ≤ k1) ∧ Aside0 (Below w.heap.size w wc))
   case first =>
    have H := HC3.out
    clear HC3
    by_cases c4 : x5_1 < (l0.length : Int)
    ·rw [if_pos c4] at H
     have c4b0 : decide (x5_1 < (l0.length : Int)) = true := decide_eq_true c4
     clear c4
     (first | rw [c4b0] | (simp only [i64_w, i32_w]; rw [c4b0]) | skip)
     have H' := am H
     clear H
     go_wp2
     go_meet
     case rel => exact ⟨_, (decide (x5_1 < (l1.length : Int))), (by first | rfl | (simp; done) | (simp [*]; done)), H', ⟨by have := HK1.out; first | omega | exact Nat.le_refl _⟩, ⟨by repeat (first | (with_reducible first | exact HB.out | apply lA | apply lN | apply lD) | exact HB.out)⟩⟩
    ·rw [if_neg c4] at H
     have c4b0 : decide (x5_1 < (l0.length : Int)) = false := decide_eq_false c4
     clear c4
     (first | rw [c4b0] | (simp only [i64_w, i32_w]; rw [c4b0]) | skip)
     have H' := am H
     clear H
     go_wp2
     go_meet
     case rel => exact ⟨_, (false), (by first | rfl | (simp; done) | (simp [*]; done)), H', ⟨by have := HK1.out; first | omega | exact Nat.le_refl _⟩, ⟨by repeat (first | (with_reducible first | exact HB.out | apply lA | apply lN | apply lD) | exact HB.out)⟩⟩
   case rest =>
    clear HC3
    try clear c1
    try clear c2
    try clear p2
    try clear c4
    try clear c4b0
    try clear p2
    obtain ⟨kq, x15_2, rfl, HA, HJ2, HB⟩ := hcut
    cases kq with
    | zero => exact absurd HA.out (by simp [lambrequinref03_Compare.j1])
    | succ kj2 =>
     have H := HA.out
     clear HA
     simp only [lambrequinref03_Compare.j1] at H
     by_cases c5 : x15_2 = true
     ·subst c5
      have H1 : (if 0 ≤ x5_1 then (if x5_1 < (l0.length : Int) then (if x5_1 < (l1.length : Int) then ((lambrequinref01_Same.f kj2 ((rd_T24 l0 x5_1).isSym) ((rd_T24 l0 x5_1).sym) ((rd_T24 l0 x5_1).n) ((rd_T24 l1 x5_1).isSym) ((rd_T24 l1 x5_1).sym) ((rd_T24 l1 x5_1).n)).bind fun t103 => (if t103 = true then (lambrequinref03_Compare.l0 kj2 l0 l1 (wrap64 (x5_1 + 1))) else ((lambrequinref01_Compare.f kj2 ((rd_T24 l0 x5_1).isSym) ((rd_T24 l0 x5_1).sym) ((rd_T24 l0 x5_1).n) ((rd_T24 l1 x5_1).isSym) ((rd_T24 l1 x5_1).sym) ((rd_T24 l1 x5_1).n)).bind fun t106 => (some t106)))) else (none)) else (none)) else (none)) = some r := by rw [if_pos rfl] at H; exact H
      clear H
      have H := H1
      clear H1
      by_cases c6 : 0 ≤ x5_1
      ·rw [if_pos c6] at H
       have c6b0 : decide (0 ≤ x5_1) = true := decide_eq_true c6
       clear c6
       by_cases c7 : x5_1 < (l0.length : Int)
       ·rw [if_pos c7] at H
        have c7b0 : decide (x5_1 < (l0.length : Int)) = true := decide_eq_true c7
        clear c7
        by_cases c8 : x5_1 < (l1.length : Int)
        ·rw [if_pos c8] at H
         have c8b0 : decide (x5_1 < (l1.length : Int)) = true := decide_eq_true c8
         clear c8
         replace H := Option.bind_eq_some_iff.mp H
         obtain ⟨t103, A90, H⟩ := H
         replace H : (if t103 = true then (lambrequinref03_Compare.l0 kj2 l0 l1 (wrap64 (x5_1 + 1))) else ((lambrequinref01_Compare.f kj2 ((rd_T24 l0 x5_1).isSym) ((rd_T24 l0 x5_1).sym) ((rd_T24 l0 x5_1).n) ((rd_T24 l1 x5_1).isSym) ((rd_T24 l1 x5_1).sym) ((rd_T24 l1 x5_1).n)).bind fun t106 => (some t106))) = some r := H
         have A9 := am A90
         clear A90
         by_cases c10 : t103 = true
         ·subst c10
          have H1 : (lambrequinref03_Compare.l0 kj2 l0 l1 (wrap64 (x5_1 + 1))) = some r := by rw [if_pos rfl] at H; exact H
          clear H
          have H := H1
          clear H1
          have H' := am H
          clear H
          try go_wp2
          replace HB := am (below_drew1 HB.out)
          have p101 : 0 ≤ (x5_1 : Int) := of_decide_eq_true (by first | (with_reducible assumption) | assumption)
          have q101 : x5_1 < (l0.length : Int) := of_decide_eq_true (by first | (with_reducible assumption) | assumption)
          obtain ⟨ad101, e101, hx101_0, hx101_1, hx101_2⟩ := at_T24 HR0.out x5_1 p101 q101
          have hw101_2 := hx101_2
          have hw101_1 := hx101_1
          have hw101_0 := hx101_0
          cases e101
          replace hx101_0 := (HB.out.cell (blt_ hx101_0)).trans hx101_0
          replace hx101_1 := (HB.out.cell (blt_ hx101_1)).trans hx101_1
          replace hx101_2 := (HB.out.cell (blt_ hx101_2)).trans hx101_2
          replace p101 := eq_true p101
          replace q101 := eq_true q101
          have p102 : 0 ≤ (x5_1 : Int) := of_decide_eq_true (by first | (with_reducible assumption) | assumption)
          have q102 : x5_1 < (l1.length : Int) := of_decide_eq_true (by first | (with_reducible assumption) | assumption)
          obtain ⟨ad102, e102, hx102_0, hx102_1, hx102_2⟩ := at_T24 HR1.out x5_1 p102 q102
          have hw102_2 := hx102_2
          have hw102_1 := hx102_1
          have hw102_0 := hx102_0
          cases e102
          replace hx102_0 := (HB.out.cell (blt_ hx102_0)).trans hx102_0
          replace hx102_1 := (HB.out.cell (blt_ hx102_1)).trans hx102_1
          replace hx102_2 := (HB.out.cell (blt_ hx102_2)).trans hx102_2
          replace p102 := eq_true p102
          replace q102 := eq_true q102
          refine start_ (n := 10) (S := fun w' => w'.cell? (ad101.add ((x5_1).toNat * 3)) = some (.bool ((rd_T24 l0 x5_1).isSym)) ∧ w'.cell? ⟨(ad101.add ((x5_1).toNat * 3)).block, (ad101.add ((x5_1).toNat * 3)).off + 1, none⟩ = some (.string ((rd_T24 l0 x5_1).sym)) ∧ w'.cell? ⟨(ad101.add ((x5_1).toNat * 3)).block, (ad101.add ((x5_1).toNat * 3)).off + 2, none⟩ = some (.int .i64 ((rd_T24 l0 x5_1).n)) ∧ w'.cell? (ad102.add ((x5_1).toNat * 3)) = some (.bool ((rd_T24 l1 x5_1).isSym)) ∧ w'.cell? ⟨(ad102.add ((x5_1).toNat * 3)).block, (ad102.add ((x5_1).toNat * 3)).off + 1, none⟩ = some (.string ((rd_T24 l1 x5_1).sym)) ∧ w'.cell? ⟨(ad102.add ((x5_1).toNat * 3)).block, (ad102.add ((x5_1).toNat * 3)).off + 2, none⟩ = some (.int .i64 ((rd_T24 l1 x5_1).n))) (ds := []) (bl 10 0) (by kernel_rfl) rfl rfl ⟨((HB.out.cell (blt_ hw101_0)).trans hw101_0), ((HB.out.cell (blt_ hw101_1)).trans hw101_1), ((HB.out.cell (blt_ hw101_2)).trans hw101_2), ((HB.out.cell (blt_ hw102_0)).trans hw102_0), ((HB.out.cell (blt_ hw102_1)).trans hw102_1), ((HB.out.cell (blt_ hw102_2)).trans hw102_2)⟩ (fun hHeld => ?_); refine with_tabW lambrequinref03_Compare.tab4 lambrequinref03_Compare.bits4 (fun HT_ HW_ => ?_)
          generalize wc.drew = w11 at HB hx101_0 hx101_1 hx101_2 hx102_0 hx102_1 hx102_2 hHeld ⊢
          refine pure_ (i := 0) (N := some 18) (v := ?_) (a' := ?_) (bl 10 1) rfl rfl (any_of HT_.out (by kernel_rfl)) (fun _ _ _ h => h) (Or.inl ⟨by rfl, ?_⟩) ?_ ?_
          rotate_left
          ·intro w'
           go_simp
           with_reducible rfl
          rotate_left
          ·simp only [Act.put, sA, sZ, sS, i64_w, i32_w]
           rfl
          refine pure_ (i := 1) (N := some 19) (v := ?_) (a' := ?_) (bl 10 3) rfl rfl (any_of HT_.out (by kernel_rfl)) (fun _ _ _ h => h) (Or.inl ⟨by rfl, ?_⟩) ?_ ?_
          rotate_left
          ·intro w'
           go_simp
           with_reducible rfl
          rotate_left
          ·simp only [Act.put, sA, sZ, sS, i64_w, i32_w]
           rfl
          refine pure_ (i := 2) (N := some 20) (v := ?_) (a' := ?_) (bl 10 7) rfl rfl (any_of HT_.out (by kernel_rfl)) (fun _ _ _ h => h) (Or.inl ⟨by rfl, ?_⟩) ?_ ?_
          rotate_left
          ·intro w'
           go_simp
           with_reducible rfl
          rotate_left
          ·simp only [Act.put, sA, sZ, sS, i64_w, i32_w]
           rfl
          refine pure_ (i := 4) (N := some 22) (v := ?_) (a' := ?_) (bl 10 23) rfl rfl (any_of HT_.out (by kernel_rfl)) (fun _ _ _ h => h) (Or.inl ⟨by rfl, ?_⟩) ?_ ?_
          rotate_left
          ·intro w'
           go_simp
           with_reducible rfl
          rotate_left
          ·simp only [Act.put, sA, sZ, sS, i64_w, i32_w]
           rfl
          refine pure_ (i := 5) (N := some 23) (v := ?_) (a' := ?_) (bl 10 55) rfl rfl (any_of HT_.out (by kernel_rfl)) (fun _ _ _ h => h) (Or.inl ⟨by rfl, ?_⟩) ?_ ?_
          rotate_left
          ·intro w'
           go_simp
           with_reducible rfl
          rotate_left
          ·simp only [Act.put, sA, sZ, sS, i64_w, i32_w]
           rfl
          refine pure_ (i := 6) (N := some 24) (v := ?_) (a' := ?_) (bl 10 119) rfl rfl (any_of HT_.out (by kernel_rfl)) (fun _ _ _ h => h) (Or.inl ⟨by rfl, ?_⟩) ?_ ?_
          rotate_left
          ·intro w'
           go_simp
           with_reducible rfl
          rotate_left
          ·simp only [Act.put, sA, sZ, sS, i64_w, i32_w]
           rfl
          refine take_ (i := 3) (N := some 21) (v := ?_) (a' := ?_) (bl 10 127) rfl rfl (take_ofW HT_.out HW_.out (by kernel_rfl)) (fun _ _ _ h => h) (Or.inl ⟨by rfl, ?_⟩) hHeld ?_ ?_
          rotate_left
          ·rintro w' ⟨s0, s1, s2, s3, s4, s5⟩
           go_simp
           with_reducible rfl
          rotate_left
          ·simp only [Act.put, sA, sZ, sS, i64_w, i32_w]
           rfl
          refine take_ (i := 7) (N := some 25) (v := ?_) (a' := ?_) (bl 10 255) rfl rfl (take_ofW HT_.out HW_.out (by kernel_rfl)) (fun _ _ _ h => h) (Or.inl ⟨by rfl, ?_⟩) hHeld ?_ ?_
          rotate_left
          ·rintro w' ⟨s0, s1, s2, s3, s4, s5⟩
           go_simp
           with_reducible rfl
          rotate_left
          ·simp only [Act.put, sA, sZ, sS, i64_w, i32_w]
           rfl
          refine one_ (i := 8) (N := some 26) (bl 10 511) rfl rfl (one_of HT_.out (by kernel_rfl)) (by decide) (fun K hK => ?_)
          refine goes_ Try.func20 (by kernel_rfl) rfl #[.agg #[.bool ((rd_T24 l0 x5_1).isSym), .string ((rd_T24 l0 x5_1).sym), .int .i64 ((rd_T24 l0 x5_1).n)], .agg #[.bool ((rd_T24 l1 x5_1).isSym), .string ((rd_T24 l1 x5_1).sym), .int .i64 ((rd_T24 l1 x5_1).n)]] (by rfl) rfl rfl (by (try simp only [List.map_toArray, List.map_cons, List.map_nil]); first | done | rfl | (simp only [List.length_drop, List.length_take]; rfl)) ?_
          with_reducible refine (lambrequinref01_Same.calls kj2 ((rd_T24 l0 x5_1).isSym) ((rd_T24 l0 x5_1).sym) ((rd_T24 l0 x5_1).n) ((rd_T24 l1 x5_1).isSym) ((rd_T24 l1 x5_1).sym) ((rd_T24 l1 x5_1).n) true _ A9.out).mono ?_
          rintro e w12 ⟨rfl, hb⟩
          refine ⟨_, rfl, ?_⟩
          replace HB := am (below_step (by repeat (first | (with_reducible first | exact HB.out | apply lA | apply lN | apply lD) | exact HB.out)) hb)
          (try clear hb)
          (try clear hb2)
          (try clear hk)
          (try clear hi)
          refine hK.out _ _ ⟨((HB.out.cell (blt_ hw101_0)).trans hw101_0), ((HB.out.cell (blt_ hw101_1)).trans hw101_1), ((HB.out.cell (blt_ hw101_2)).trans hw101_2), ((HB.out.cell (blt_ hw102_0)).trans hw102_0), ((HB.out.cell (blt_ hw102_1)).trans hw102_1), ((HB.out.cell (blt_ hw102_2)).trans hw102_2)⟩ (fun hHeld => ?_)
          clear hK K
          refine norm_ (a' := ?_) ?_ ?_
          rotate_left
          ·show Act.put _ (some 26) _ = _
           simp only [Act.put, sA, sZ, sS, i64_w, i32_w]
           rfl
          refine pure_ (i := 9) (N := some 27) (v := ?_) (a' := ?_) (bl 10 1023) rfl rfl (any_of HT_.out (by kernel_rfl)) (fun _ _ _ h => h) (Or.inl ⟨by rfl, ?_⟩) ?_ ?_
          rotate_left
          ·intro w'
           go_simp
           with_reducible rfl
          rotate_left
          ·simp only [Act.put, sA, sZ, sS, i64_w, i32_w]
           rfl
          refine done_ (done_of HT_.out (by kernel_rfl)) ?_
          try go_wp2
          go_roundg kj2
          case measure => have := HK1.out; have := HJ2.out; omega
          case rel => exact ⟨(wrap64 (x5_1 + 1)), (by first | rfl | (simp; done) | (simp [*]; done)), H', ⟨by have := HK1.out; have := HJ2.out; omega⟩, ⟨by repeat (first | (with_reducible first | exact HB.out | apply lA | apply lN | apply lD) | exact HB.out)⟩⟩
         ·replace c10 := Bool.eq_false_iff.mpr c10
          subst c10
          have H1 : ((lambrequinref01_Compare.f kj2 ((rd_T24 l0 x5_1).isSym) ((rd_T24 l0 x5_1).sym) ((rd_T24 l0 x5_1).n) ((rd_T24 l1 x5_1).isSym) ((rd_T24 l1 x5_1).sym) ((rd_T24 l1 x5_1).n)).bind fun t106 => (some t106)) = some r := by rw [if_neg (show ¬ (false = true) by decide)] at H; exact H
          clear H
          have H := H1
          clear H1
          replace H := Option.bind_eq_some_iff.mp H
          obtain ⟨t106, A130, H⟩ := H
          replace H : (some t106) = some r := H
          have A13 := am A130
          clear A130
          obtain rfl := Option.some.inj H
          try go_wp2
          replace HB := am (below_drew1 HB.out)
          have p101 : 0 ≤ (x5_1 : Int) := of_decide_eq_true (by first | (with_reducible assumption) | assumption)
          have q101 : x5_1 < (l0.length : Int) := of_decide_eq_true (by first | (with_reducible assumption) | assumption)
          obtain ⟨ad101, e101, hx101_0, hx101_1, hx101_2⟩ := at_T24 HR0.out x5_1 p101 q101
          have hw101_2 := hx101_2
          have hw101_1 := hx101_1
          have hw101_0 := hx101_0
          cases e101
          replace hx101_0 := (HB.out.cell (blt_ hx101_0)).trans hx101_0
          replace hx101_1 := (HB.out.cell (blt_ hx101_1)).trans hx101_1
          replace hx101_2 := (HB.out.cell (blt_ hx101_2)).trans hx101_2
          replace p101 := eq_true p101
          replace q101 := eq_true q101
          have p102 : 0 ≤ (x5_1 : Int) := of_decide_eq_true (by first | (with_reducible assumption) | assumption)
          have q102 : x5_1 < (l1.length : Int) := of_decide_eq_true (by first | (with_reducible assumption) | assumption)
          obtain ⟨ad102, e102, hx102_0, hx102_1, hx102_2⟩ := at_T24 HR1.out x5_1 p102 q102
          have hw102_2 := hx102_2
          have hw102_1 := hx102_1
          have hw102_0 := hx102_0
          cases e102
          replace hx102_0 := (HB.out.cell (blt_ hx102_0)).trans hx102_0
          replace hx102_1 := (HB.out.cell (blt_ hx102_1)).trans hx102_1
          replace hx102_2 := (HB.out.cell (blt_ hx102_2)).trans hx102_2
          replace p102 := eq_true p102
          replace q102 := eq_true q102
          refine start_ (n := 10) (S := fun w' => w'.cell? (ad101.add ((x5_1).toNat * 3)) = some (.bool ((rd_T24 l0 x5_1).isSym)) ∧ w'.cell? ⟨(ad101.add ((x5_1).toNat * 3)).block, (ad101.add ((x5_1).toNat * 3)).off + 1, none⟩ = some (.string ((rd_T24 l0 x5_1).sym)) ∧ w'.cell? ⟨(ad101.add ((x5_1).toNat * 3)).block, (ad101.add ((x5_1).toNat * 3)).off + 2, none⟩ = some (.int .i64 ((rd_T24 l0 x5_1).n)) ∧ w'.cell? (ad102.add ((x5_1).toNat * 3)) = some (.bool ((rd_T24 l1 x5_1).isSym)) ∧ w'.cell? ⟨(ad102.add ((x5_1).toNat * 3)).block, (ad102.add ((x5_1).toNat * 3)).off + 1, none⟩ = some (.string ((rd_T24 l1 x5_1).sym)) ∧ w'.cell? ⟨(ad102.add ((x5_1).toNat * 3)).block, (ad102.add ((x5_1).toNat * 3)).off + 2, none⟩ = some (.int .i64 ((rd_T24 l1 x5_1).n))) (ds := []) (bl 10 0) (by kernel_rfl) rfl rfl ⟨((HB.out.cell (blt_ hw101_0)).trans hw101_0), ((HB.out.cell (blt_ hw101_1)).trans hw101_1), ((HB.out.cell (blt_ hw101_2)).trans hw101_2), ((HB.out.cell (blt_ hw102_0)).trans hw102_0), ((HB.out.cell (blt_ hw102_1)).trans hw102_1), ((HB.out.cell (blt_ hw102_2)).trans hw102_2)⟩ (fun hHeld => ?_); refine with_tabW lambrequinref03_Compare.tab4 lambrequinref03_Compare.bits4 (fun HT_ HW_ => ?_)
          generalize wc.drew = w14 at HB hx101_0 hx101_1 hx101_2 hx102_0 hx102_1 hx102_2 hHeld ⊢
          refine pure_ (i := 0) (N := some 18) (v := ?_) (a' := ?_) (bl 10 1) rfl rfl (any_of HT_.out (by kernel_rfl)) (fun _ _ _ h => h) (Or.inl ⟨by rfl, ?_⟩) ?_ ?_
          rotate_left
          ·intro w'
           go_simp
           with_reducible rfl
          rotate_left
          ·simp only [Act.put, sA, sZ, sS, i64_w, i32_w]
           rfl
          refine pure_ (i := 1) (N := some 19) (v := ?_) (a' := ?_) (bl 10 3) rfl rfl (any_of HT_.out (by kernel_rfl)) (fun _ _ _ h => h) (Or.inl ⟨by rfl, ?_⟩) ?_ ?_
          rotate_left
          ·intro w'
           go_simp
           with_reducible rfl
          rotate_left
          ·simp only [Act.put, sA, sZ, sS, i64_w, i32_w]
           rfl
          refine pure_ (i := 2) (N := some 20) (v := ?_) (a' := ?_) (bl 10 7) rfl rfl (any_of HT_.out (by kernel_rfl)) (fun _ _ _ h => h) (Or.inl ⟨by rfl, ?_⟩) ?_ ?_
          rotate_left
          ·intro w'
           go_simp
           with_reducible rfl
          rotate_left
          ·simp only [Act.put, sA, sZ, sS, i64_w, i32_w]
           rfl
          refine pure_ (i := 4) (N := some 22) (v := ?_) (a' := ?_) (bl 10 23) rfl rfl (any_of HT_.out (by kernel_rfl)) (fun _ _ _ h => h) (Or.inl ⟨by rfl, ?_⟩) ?_ ?_
          rotate_left
          ·intro w'
           go_simp
           with_reducible rfl
          rotate_left
          ·simp only [Act.put, sA, sZ, sS, i64_w, i32_w]
           rfl
          refine pure_ (i := 5) (N := some 23) (v := ?_) (a' := ?_) (bl 10 55) rfl rfl (any_of HT_.out (by kernel_rfl)) (fun _ _ _ h => h) (Or.inl ⟨by rfl, ?_⟩) ?_ ?_
          rotate_left
          ·intro w'
           go_simp
           with_reducible rfl
          rotate_left
          ·simp only [Act.put, sA, sZ, sS, i64_w, i32_w]
           rfl
          refine pure_ (i := 6) (N := some 24) (v := ?_) (a' := ?_) (bl 10 119) rfl rfl (any_of HT_.out (by kernel_rfl)) (fun _ _ _ h => h) (Or.inl ⟨by rfl, ?_⟩) ?_ ?_
          rotate_left
          ·intro w'
           go_simp
           with_reducible rfl
          rotate_left
          ·simp only [Act.put, sA, sZ, sS, i64_w, i32_w]
           rfl
          refine take_ (i := 3) (N := some 21) (v := ?_) (a' := ?_) (bl 10 127) rfl rfl (take_ofW HT_.out HW_.out (by kernel_rfl)) (fun _ _ _ h => h) (Or.inl ⟨by rfl, ?_⟩) hHeld ?_ ?_
          rotate_left
          ·rintro w' ⟨s0, s1, s2, s3, s4, s5⟩
           go_simp
           with_reducible rfl
          rotate_left
          ·simp only [Act.put, sA, sZ, sS, i64_w, i32_w]
           rfl
          refine take_ (i := 7) (N := some 25) (v := ?_) (a' := ?_) (bl 10 255) rfl rfl (take_ofW HT_.out HW_.out (by kernel_rfl)) (fun _ _ _ h => h) (Or.inl ⟨by rfl, ?_⟩) hHeld ?_ ?_
          rotate_left
          ·rintro w' ⟨s0, s1, s2, s3, s4, s5⟩
           go_simp
           with_reducible rfl
          rotate_left
          ·simp only [Act.put, sA, sZ, sS, i64_w, i32_w]
           rfl
          refine one_ (i := 8) (N := some 26) (bl 10 511) rfl rfl (one_of HT_.out (by kernel_rfl)) (by decide) (fun K hK => ?_)
          refine goes_ Try.func20 (by kernel_rfl) rfl #[.agg #[.bool ((rd_T24 l0 x5_1).isSym), .string ((rd_T24 l0 x5_1).sym), .int .i64 ((rd_T24 l0 x5_1).n)], .agg #[.bool ((rd_T24 l1 x5_1).isSym), .string ((rd_T24 l1 x5_1).sym), .int .i64 ((rd_T24 l1 x5_1).n)]] (by rfl) rfl rfl (by (try simp only [List.map_toArray, List.map_cons, List.map_nil]); first | done | rfl | (simp only [List.length_drop, List.length_take]; rfl)) ?_
          with_reducible refine (lambrequinref01_Same.calls kj2 ((rd_T24 l0 x5_1).isSym) ((rd_T24 l0 x5_1).sym) ((rd_T24 l0 x5_1).n) ((rd_T24 l1 x5_1).isSym) ((rd_T24 l1 x5_1).sym) ((rd_T24 l1 x5_1).n) false _ A9.out).mono ?_
          rintro e w15 ⟨rfl, hb⟩
          refine ⟨_, rfl, ?_⟩
          replace HB := am (below_step (by repeat (first | (with_reducible first | exact HB.out | apply lA | apply lN | apply lD) | exact HB.out)) hb)
          (try clear hb)
          (try clear hb2)
          (try clear hk)
          (try clear hi)
          refine hK.out _ _ ⟨((HB.out.cell (blt_ hw101_0)).trans hw101_0), ((HB.out.cell (blt_ hw101_1)).trans hw101_1), ((HB.out.cell (blt_ hw101_2)).trans hw101_2), ((HB.out.cell (blt_ hw102_0)).trans hw102_0), ((HB.out.cell (blt_ hw102_1)).trans hw102_1), ((HB.out.cell (blt_ hw102_2)).trans hw102_2)⟩ (fun hHeld => ?_)
          clear hK K
          refine norm_ (a' := ?_) ?_ ?_
          rotate_left
          ·show Act.put _ (some 26) _ = _
           simp only [Act.put, sA, sZ, sS, i64_w, i32_w]
           rfl
          refine pure_ (i := 9) (N := some 27) (v := ?_) (a' := ?_) (bl 10 1023) rfl rfl (any_of HT_.out (by kernel_rfl)) (fun _ _ _ h => h) (Or.inl ⟨by rfl, ?_⟩) ?_ ?_
          rotate_left
          ·intro w'
           go_simp
           with_reducible rfl
          rotate_left
          ·simp only [Act.put, sA, sZ, sS, i64_w, i32_w]
           rfl
          refine done_ (done_of HT_.out (by kernel_rfl)) ?_
          try go_wp2
          replace HB := am (below_drew1 HB.out)
          have p104 : 0 ≤ (x5_1 : Int) := of_decide_eq_true (by first | (with_reducible assumption) | assumption)
          have q104 : x5_1 < (l0.length : Int) := of_decide_eq_true (by first | (with_reducible assumption) | assumption)
          obtain ⟨ad104, e104, hx104_0, hx104_1, hx104_2⟩ := at_T24 HR0.out x5_1 p104 q104
          have hw104_2 := hx104_2
          have hw104_1 := hx104_1
          have hw104_0 := hx104_0
          obtain rfl : ad101 = ad104 := (by injection e104)
          replace hx104_0 := (HB.out.cell (blt_ hx104_0)).trans hx104_0
          replace hx104_1 := (HB.out.cell (blt_ hx104_1)).trans hx104_1
          replace hx104_2 := (HB.out.cell (blt_ hx104_2)).trans hx104_2
          replace p104 := eq_true p104
          replace q104 := eq_true q104
          have p105 : 0 ≤ (x5_1 : Int) := of_decide_eq_true (by first | (with_reducible assumption) | assumption)
          have q105 : x5_1 < (l1.length : Int) := of_decide_eq_true (by first | (with_reducible assumption) | assumption)
          obtain ⟨ad105, e105, hx105_0, hx105_1, hx105_2⟩ := at_T24 HR1.out x5_1 p105 q105
          have hw105_2 := hx105_2
          have hw105_1 := hx105_1
          have hw105_0 := hx105_0
          obtain rfl : ad102 = ad105 := (by injection e105)
          replace hx105_0 := (HB.out.cell (blt_ hx105_0)).trans hx105_0
          replace hx105_1 := (HB.out.cell (blt_ hx105_1)).trans hx105_1
          replace hx105_2 := (HB.out.cell (blt_ hx105_2)).trans hx105_2
          replace p105 := eq_true p105
          replace q105 := eq_true q105
          refine start_ (n := 10) (S := fun w' => w'.cell? (ad101.add ((x5_1).toNat * 3)) = some (.bool ((rd_T24 l0 x5_1).isSym)) ∧ w'.cell? ⟨(ad101.add ((x5_1).toNat * 3)).block, (ad101.add ((x5_1).toNat * 3)).off + 1, none⟩ = some (.string ((rd_T24 l0 x5_1).sym)) ∧ w'.cell? ⟨(ad101.add ((x5_1).toNat * 3)).block, (ad101.add ((x5_1).toNat * 3)).off + 2, none⟩ = some (.int .i64 ((rd_T24 l0 x5_1).n)) ∧ w'.cell? (ad102.add ((x5_1).toNat * 3)) = some (.bool ((rd_T24 l1 x5_1).isSym)) ∧ w'.cell? ⟨(ad102.add ((x5_1).toNat * 3)).block, (ad102.add ((x5_1).toNat * 3)).off + 1, none⟩ = some (.string ((rd_T24 l1 x5_1).sym)) ∧ w'.cell? ⟨(ad102.add ((x5_1).toNat * 3)).block, (ad102.add ((x5_1).toNat * 3)).off + 2, none⟩ = some (.int .i64 ((rd_T24 l1 x5_1).n))) (ds := []) (bl 10 0) (by kernel_rfl) rfl rfl ⟨((HB.out.cell (blt_ hw104_0)).trans hw104_0), ((HB.out.cell (blt_ hw104_1)).trans hw104_1), ((HB.out.cell (blt_ hw104_2)).trans hw104_2), ((HB.out.cell (blt_ hw105_0)).trans hw105_0), ((HB.out.cell (blt_ hw105_1)).trans hw105_1), ((HB.out.cell (blt_ hw105_2)).trans hw105_2)⟩ (fun hHeld => ?_); refine with_tabW lambrequinref03_Compare.tab5 lambrequinref03_Compare.bits5 (fun HT_ HW_ => ?_)
          generalize w15.drew = w16 at HB hx104_0 hx104_1 hx104_2 hx105_0 hx105_1 hx105_2 hHeld ⊢
          refine pure_ (i := 0) (N := some 28) (v := ?_) (a' := ?_) (bl 10 1) rfl rfl (any_of HT_.out (by kernel_rfl)) (fun _ _ _ h => h) (Or.inl ⟨by rfl, ?_⟩) ?_ ?_
          rotate_left
          ·intro w'
           go_simp
           with_reducible rfl
          rotate_left
          ·simp only [Act.put, sA, sZ, sS, i64_w, i32_w]
           rfl
          refine pure_ (i := 1) (N := some 29) (v := ?_) (a' := ?_) (bl 10 3) rfl rfl (any_of HT_.out (by kernel_rfl)) (fun _ _ _ h => h) (Or.inl ⟨by rfl, ?_⟩) ?_ ?_
          rotate_left
          ·intro w'
           go_simp
           with_reducible rfl
          rotate_left
          ·simp only [Act.put, sA, sZ, sS, i64_w, i32_w]
           rfl
          refine pure_ (i := 2) (N := some 30) (v := ?_) (a' := ?_) (bl 10 7) rfl rfl (any_of HT_.out (by kernel_rfl)) (fun _ _ _ h => h) (Or.inl ⟨by rfl, ?_⟩) ?_ ?_
          rotate_left
          ·intro w'
           go_simp
           with_reducible rfl
          rotate_left
          ·simp only [Act.put, sA, sZ, sS, i64_w, i32_w]
           rfl
          refine pure_ (i := 4) (N := some 32) (v := ?_) (a' := ?_) (bl 10 23) rfl rfl (any_of HT_.out (by kernel_rfl)) (fun _ _ _ h => h) (Or.inl ⟨by rfl, ?_⟩) ?_ ?_
          rotate_left
          ·intro w'
           go_simp
           with_reducible rfl
          rotate_left
          ·simp only [Act.put, sA, sZ, sS, i64_w, i32_w]
           rfl
          refine pure_ (i := 5) (N := some 33) (v := ?_) (a' := ?_) (bl 10 55) rfl rfl (any_of HT_.out (by kernel_rfl)) (fun _ _ _ h => h) (Or.inl ⟨by rfl, ?_⟩) ?_ ?_
          rotate_left
          ·intro w'
           go_simp
           with_reducible rfl
          rotate_left
          ·simp only [Act.put, sA, sZ, sS, i64_w, i32_w]
           rfl
          refine pure_ (i := 6) (N := some 34) (v := ?_) (a' := ?_) (bl 10 119) rfl rfl (any_of HT_.out (by kernel_rfl)) (fun _ _ _ h => h) (Or.inl ⟨by rfl, ?_⟩) ?_ ?_
          rotate_left
          ·intro w'
           go_simp
           with_reducible rfl
          rotate_left
          ·simp only [Act.put, sA, sZ, sS, i64_w, i32_w]
           rfl
          refine take_ (i := 3) (N := some 31) (v := ?_) (a' := ?_) (bl 10 127) rfl rfl (take_ofW HT_.out HW_.out (by kernel_rfl)) (fun _ _ _ h => h) (Or.inl ⟨by rfl, ?_⟩) hHeld ?_ ?_
          rotate_left
          ·rintro w' ⟨s0, s1, s2, s3, s4, s5⟩
           go_simp
           with_reducible rfl
          rotate_left
          ·simp only [Act.put, sA, sZ, sS, i64_w, i32_w]
           rfl
          refine take_ (i := 7) (N := some 35) (v := ?_) (a' := ?_) (bl 10 255) rfl rfl (take_ofW HT_.out HW_.out (by kernel_rfl)) (fun _ _ _ h => h) (Or.inl ⟨by rfl, ?_⟩) hHeld ?_ ?_
          rotate_left
          ·rintro w' ⟨s0, s1, s2, s3, s4, s5⟩
           go_simp
           with_reducible rfl
          rotate_left
          ·simp only [Act.put, sA, sZ, sS, i64_w, i32_w]
           rfl
          refine one_ (i := 8) (N := some 36) (bl 10 511) rfl rfl (one_of HT_.out (by kernel_rfl)) (by decide) (fun K hK => ?_)
          refine goes_ Try.func40 (by kernel_rfl) rfl #[.agg #[.bool ((rd_T24 l0 x5_1).isSym), .string ((rd_T24 l0 x5_1).sym), .int .i64 ((rd_T24 l0 x5_1).n)], .agg #[.bool ((rd_T24 l1 x5_1).isSym), .string ((rd_T24 l1 x5_1).sym), .int .i64 ((rd_T24 l1 x5_1).n)]] (by rfl) rfl rfl (by (try simp only [List.map_toArray, List.map_cons, List.map_nil]); first | done | rfl | (simp only [List.length_drop, List.length_take]; rfl)) ?_
          with_reducible refine (lambrequinref01_Compare.calls kj2 ((rd_T24 l0 x5_1).isSym) ((rd_T24 l0 x5_1).sym) ((rd_T24 l0 x5_1).n) ((rd_T24 l1 x5_1).isSym) ((rd_T24 l1 x5_1).sym) ((rd_T24 l1 x5_1).n) t106 _ A13.out).mono ?_
          rintro e w17 ⟨rfl, hb⟩
          refine ⟨_, rfl, ?_⟩
          replace HB := am (below_step (by repeat (first | (with_reducible first | exact HB.out | apply lA | apply lN | apply lD) | exact HB.out)) hb)
          (try clear hb)
          (try clear hb2)
          (try clear hk)
          (try clear hi)
          refine hK.out _ _ ⟨((HB.out.cell (blt_ hw104_0)).trans hw104_0), ((HB.out.cell (blt_ hw104_1)).trans hw104_1), ((HB.out.cell (blt_ hw104_2)).trans hw104_2), ((HB.out.cell (blt_ hw105_0)).trans hw105_0), ((HB.out.cell (blt_ hw105_1)).trans hw105_1), ((HB.out.cell (blt_ hw105_2)).trans hw105_2)⟩ (fun hHeld => ?_)
          clear hK K
          refine norm_ (a' := ?_) ?_ ?_
          rotate_left
          ·show Act.put _ (some 36) _ = _
           simp only [Act.put, sA, sZ, sS, i64_w, i32_w]
           rfl
          refine pure_ (i := 9) (N := some 4) (v := ?_) (a' := ?_) (bl 10 1023) rfl rfl (any_of HT_.out (by kernel_rfl)) (fun _ _ _ h => h) (Or.inl ⟨by rfl, ?_⟩) ?_ ?_
          rotate_left
          ·intro w'
           go_simp
           with_reducible rfl
          rotate_left
          ·simp only [Act.put, sA, sZ, sS, i64_w, i32_w]
           rfl
          refine done_ (done_of HT_.out (by kernel_rfl)) ?_
          try go_wp2
          go_ret
          exact ⟨by first | rfl | (simp [errW_none, errW_some] <;> rfl) | (simp [*, errW_none, errW_some] <;> rfl), by repeat (first | (with_reducible first | exact HB.out | apply lA | apply lN | apply lD) | exact HB.out)⟩
        ·rw [if_neg c8] at H
         exact absurd H (by simp)
       ·rw [if_neg c7] at H
        exact absurd H (by simp)
      ·rw [if_neg c6] at H
       exact absurd H (by simp)
     ·replace c5 := Bool.eq_false_iff.mpr c5
      subst c5
      have H1 : (if (l0.length : Int) < (l1.length : Int) then (some (-1)) else (if (l0.length : Int) > (l1.length : Int) then (some 1) else (some 0))) = some r := by rw [if_neg (show ¬ (false = true) by decide)] at H; exact H
      clear H
      have H := H1
      clear H1
      by_cases c18 : (l0.length : Int) < (l1.length : Int)
      ·rw [if_pos c18] at H
       have c18b0 : decide ((l0.length : Int) < (l1.length : Int)) = true := decide_eq_true c18
       have c18b1 : decide (l0.length < l1.length) = true := decide_eq_true (Int.ofNat_lt.mp c18)
       clear c18
       obtain rfl := Option.some.inj H
       go_wp2
       go_ret
       exact ⟨by first | rfl | (simp [errW_none, errW_some] <;> rfl) | (simp [*, errW_none, errW_some] <;> rfl), by repeat (first | (with_reducible first | exact HB.out | apply lA | apply lN | apply lD) | exact HB.out)⟩
      ·rw [if_neg c18] at H
       have c18b0 : decide ((l0.length : Int) < (l1.length : Int)) = false := decide_eq_false c18
       have c18b1 : decide (l0.length < l1.length) = false := decide_eq_false (fun h => c18 (Int.ofNat_lt.mpr h))
       clear c18
       by_cases c19 : (l0.length : Int) > (l1.length : Int)
       ·rw [if_pos c19] at H
        have c19b0 : decide ((l1.length : Int) < (l0.length : Int)) = true := decide_eq_true c19
        have c19b1 : decide (l1.length < l0.length) = true := decide_eq_true (Int.ofNat_lt.mp c19)
        clear c19
        obtain rfl := Option.some.inj H
        go_wp2
        go_ret
        exact ⟨by first | rfl | (simp [errW_none, errW_some] <;> rfl) | (simp [*, errW_none, errW_some] <;> rfl), by repeat (first | (with_reducible first | exact HB.out | apply lA | apply lN | apply lD) | exact HB.out)⟩
       ·rw [if_neg c19] at H
        have c19b0 : decide ((l1.length : Int) < (l0.length : Int)) = false := decide_eq_false c19
        have c19b1 : decide (l1.length < l0.length) = false := decide_eq_false (fun h => c19 (Int.ofNat_lt.mpr h))
        clear c19
        obtain rfl := Option.some.inj H
        go_wp2
        go_ret
        exact ⟨by first | rfl | (simp [errW_none, errW_some] <;> rfl) | (simp [*, errW_none, errW_some] <;> rfl), by repeat (first | (with_reducible first | exact HB.out | apply lA | apply lN | apply lD) | exact HB.out)⟩
end Go.Proofs.Ytdanihbbnepjpaa.H
namespace Go.Proofs.Ytdanihbbnepjpaa.H
open Go.RowKit Go.Proofs.YtdanihbbnepjpaaW.PrintWords
set_option linter.unusedVariables false
set_option linter.unusedSimpArgs false
def cmpL : List Val → List Val → Int
  | [], [] => 0
  | [], _ :: _ => -1
  | _ :: _, [] => 1
  | x :: l, y :: m => if sameV x y = true then cmpL l m else cmpV x y
theorem cmpL_zero : ∀ {l m : List Val}, cmpL l m = 0 ↔ l.map bareOf = m.map bareOf
  | [], [] => by simp [cmpL]
  | [], _ :: _ => by simp [cmpL]
  | _ :: _, [] => by simp [cmpL]
  | x :: l, y :: m => by
    unfold cmpL
    by_cases c : sameV x y = true
    · rw [if_pos c, cmpL_zero]
      simp [sameV_iff.1 c]
    · rw [if_neg c]
      constructor
      · intro h
        exact absurd (sameV_iff.2 (cmpV_zero.1 h)) c
      · intro h
        simp at h
        exact absurd (sameV_iff.2 h.1) c
theorem rCmpL_l0 (a b : List Val) (ha : a.length ≤ 9223372036854775807) (hb : b.length ≤ 9223372036854775807) (ba : ∀ v ∈ a, bVal v) (bb : ∀ v ∈ b, bVal v) : ∀ (r s : List Val) (n : Nat), a.drop n = r → b.drop n = s → n ≤ a.length → n ≤ b.length → Ev (fun k => lambrequinref03_Compare.l0 k a b n) (cmpL r s)
  | [], [], n, h, h', hn, hn' => by
    have e1 := congrArg List.length h
    have e2 := congrArg List.length h'
    simp at e1 e2
    refine Ev.step (fun k => by rw [lambrequinref03_Compare.l0]) ?_
    refine Ev.neg (by omega) ?_
    refine Ev.step (fun k => by rw [lambrequinref03_Compare.j1]) ?_
    exact Ev.neg (by simp) (Ev.neg (by omega) (Ev.neg (by omega) (Ev.now _)))
  | [], y :: s, n, h, h', hn, hn' => by
    have e1 := congrArg List.length h
    have e2 := congrArg List.length h'
    simp at e1 e2
    refine Ev.step (fun k => by rw [lambrequinref03_Compare.l0]) ?_
    refine Ev.neg (by omega) ?_
    refine Ev.step (fun k => by rw [lambrequinref03_Compare.j1]) ?_
    exact Ev.neg (by simp) (Ev.pos (by omega) (Ev.now _))
  | x :: r, [], n, h, h', hn, hn' => by
    have e1 := congrArg List.length h
    have e2 := congrArg List.length h'
    simp at e1 e2
    refine Ev.step (fun k => by rw [lambrequinref03_Compare.l0]) ?_
    refine Ev.pos (by omega) ?_
    rw [decide_eq_false (by omega)]
    refine Ev.step (fun k => by rw [lambrequinref03_Compare.j1]) ?_
    exact Ev.neg (by simp) (Ev.neg (by omega) (Ev.pos (by omega) (Ev.now _)))
  | x :: r, y :: s, n, h, h', hn, hn' => by
    obtain ⟨h1, h2, h3, h4, h5⟩ := drop_more h ha
    obtain ⟨g1, g2, g3, g4, g5⟩ := drop_more h' hb
    have bx := ba x (List.mem_of_mem_drop (i := n) (by rw [h]; simp))
    have bY := bb y (List.mem_of_mem_drop (i := n) (by rw [h']; simp))
    refine Ev.step (fun k => by rw [lambrequinref03_Compare.l0]) ?_
    refine Ev.pos h1 ?_
    rw [decide_eq_true g1]
    refine Ev.step (fun k => by rw [lambrequinref03_Compare.j1]) ?_
    refine Ev.pos rfl (Ev.pos h2 (Ev.pos h1 (Ev.pos g1 ?_)))
    rw [show rd_T24 a n = x from h3 _, show rd_T24 b n = y from g3 _, h5]
    refine Ev.bind (rSameV_ev bx bY) ?_
    unfold cmpL
    by_cases c : sameV x y = true
    · rw [if_pos c]
      exact Ev.pos c (rCmpL_l0 a b ha hb ba bb r s (n + 1) h4 g4 (by omega) (by omega))
    · rw [if_neg c]
      exact Ev.neg c (Ev.bind (rCompare_ev bx bY) (Ev.now _))
theorem rCmpL_ev (a b : List Val) (ha : a.length ≤ 9223372036854775807) (hb : b.length ≤ 9223372036854775807) (ba : ∀ v ∈ a, bVal v) (bb : ∀ v ∈ b, bVal v) : Ev (fun k => lambrequinref03_Compare.f k a b) (cmpL a b) := rCmpL_l0 a b ha hb ba bb a b 0 rfl rfl (by omega) (by omega)
def gtup (acc : List Val) (o : Option (List Val)) : List Val × Bool := match o with
  | some g => (acc ++ g, true)
  | none => ([], false)
theorem ground_l0 (ts : List Term) (e : List Pair) (hts : ts.length ≤ 10000) : ∀ (a : List Term) (n : Nat) (acc : List Val), ts.drop n = a → n ≤ ts.length → acc.length ≤ n → Ev (fun k => subst_Ground.l0 k e acc ts (ts.length : Int) n) (gtup acc (groundOf a e))
  | [], n, acc, h, hn, hc => by
    refine Ev.step (fun k => by rw [subst_Ground.l0]) ?_
    exact Ev.neg (drop_end h) (Ev.some (by simp [groundOf, gtup]))
  | x :: a, n, acc, h, hn, hc => by
    obtain ⟨h1, h2, h3, h4, h5⟩ := drop_more h (by omega)
    refine Ev.step (fun k => by rw [subst_Ground.l0]) ?_
    refine Ev.pos h1 (Ev.pos h2 (Ev.pos h1 ?_))
    rw [show rd_T49 ts n = x from h3 _, h5]
    refine Ev.pure (value_eq x e) ?_
    unfold groundOf
    cases hv : valueOf x e with
    | none => exact Ev.neg (by simp [tup]) (Ev.now _)
    | some v =>
      refine Ev.pos (by simp [tup]) (Ev.pos (by omega) ?_)
      refine Ev.iff (ground_l0 ts e hts a (n + 1) (acc ++ [v]) h4 (by omega) (by simp; omega)) ?_
      cases groundOf a e <;> simp [gtup]
theorem ground_ev (p : ByteArray) (ts : List Term) (e : List Pair) (hts : ts.length ≤ 10000) : Ev (fun k => subst_Ground.f k p ts e) (gtup [] (groundOf ts e)) := ground_l0 ts e hts ts 0 [] rfl (by omega) (by simp)
end Go.Proofs.Ytdanihbbnepjpaa.H
namespace Go.Proofs.Ytdanihbbnepjpaa.H
open Go.RowKit Go.Proofs.YtdanihbbnepjpaaW.PrintWords
set_option linter.unusedVariables false
set_option linter.unusedSimpArgs false
theorem bVal_bare {v : Val} (h : bVal v) : bVal (bareOf v) := by
  unfold bareOf
  split
  · exact ⟨trivial, h.2.1, trivial⟩
  · exact ⟨trivial, by show (0 : Nat) ≤ _; omega, trivial⟩
theorem bGet {l : List RPair} (h : ∀ y ∈ l, bRPair y) {s : ByteArray} {v : Val} (hv : getOf (l.map toP) s = some v) : bVal v := by
  unfold getOf at hv
  obtain ⟨p, hp, rfl⟩ := Option.map_eq_some_iff.1 hv
  have := List.mem_of_find?_eq_some hp
  obtain ⟨q, hq, rfl⟩ := List.mem_map.1 this
  exact (h q hq).2
def bP (e : List Pair) : Prop := ∀ p ∈ e, bVal p.val
theorem mem_with {e : List Pair} {n : ByteArray} {v : Val} {p : Pair} (h : p ∈ withOf e n v) : p ∈ e ∨ p = ⟨n, bareOf v⟩ := by
  unfold withOf at h
  rcases List.mem_append.1 h with h | h
  · exact .inl (mem_dropOf.1 (List.takeWhile_subset _ h)).1
  · rcases List.mem_cons.1 h with h | h
    · exact .inr h
    · exact .inl (mem_dropOf.1 (List.dropWhile_subset _ h)).1
theorem bP_with {e : List Pair} (h : bP e) (n : ByteArray) {v : Val} (hv : bVal v) : bP (withOf e n v) := fun p hp => by
  rcases mem_with hp with hp | rfl
  · exact h p hp
  · exact bVal_bare hv
theorem bP_of : ∀ (l e : List Pair), bP e → bP l → bP (ofGo e l)
  | [], e, h, _ => h
  | p :: l, e, h, hl => by
    have hl' : bP l := fun q hq => hl q (by simp [hq])
    unfold ofGo
    split
    · exact bP_of l e h hl'
    · exact bP_of l _ (bP_with h _ (hl p (by simp))) hl'
theorem bP_match : ∀ (ts : List Term) (rs : List Val) {e x : List Pair}, bP e → (∀ r ∈ rs, bVal r) → matchGo ts rs e = some x → bP x
  | [], rs, e, x, he, _, h => by unfold matchGo at h; cases h; exact he
  | t :: ts, [], e, x, he, _, h => by unfold matchGo at h; cases h; exact he
  | t :: ts, r :: rs, e, x, he, hr, h => by
    have hr' : ∀ r ∈ rs, bVal r := fun q hq => hr q (by simp [hq])
    unfold matchGo at h
    cases hq : valueOf t e with
    | none => rw [hq] at h; exact bP_match ts rs (bP_with he _ (hr r (by simp))) hr' h
    | some u =>
      rw [hq] at h
      dsimp only at h
      split at h
      · exact bP_match ts rs he hr' h
      · cases h
theorem len_match : ∀ (ts : List Term) (rs : List Val) {e x : List Pair}, matchGo ts rs e = some x → x.length ≤ e.length + ts.length
  | [], rs, e, x, h => by unfold matchGo at h; cases h; simp
  | t :: ts, [], e, x, h => by unfold matchGo at h; cases h; simp
  | t :: ts, r :: rs, e, x, h => by
    unfold matchGo at h
    cases hq : valueOf t e with
    | none =>
      rw [hq] at h
      have := len_match ts rs h
      have := with_len_le e t.name r
      simp; omega
    | some u =>
      rw [hq] at h
      dsimp only at h
      split at h
      · have := len_match ts rs h
        simp; omega
      · cases h
theorem bP_ground {x : List Pair} (hx : bP x) : ∀ (ts : List Term) {g : List Val}, (∀ t ∈ ts, bTerm t) → groundOf ts x = some g → ∀ v ∈ g, bVal v
  | [], g, _, h, v, hv => by cases h; simp at hv
  | t :: ts, g, ht, h, v, hv => by
    unfold groundOf at h
    cases hq : valueOf t x with
    | none => rw [hq] at h; cases h
    | some u =>
      rw [hq] at h
      dsimp only at h
      obtain ⟨g', hg, rfl⟩ := Option.map_eq_some_iff.1 h
      rcases List.mem_cons.1 hv with rfl | hv
      · unfold valueOf at hq
        split at hq
        · unfold getOf at hq
          obtain ⟨p, hp, rfl⟩ := Option.map_eq_some_iff.1 hq
          exact hx p (List.mem_of_find?_eq_some hp)
        · cases hq
          exact bVal_bare (ht t (by simp)).2.2
      · exact bP_ground hx ts (fun z hz => ht z (by simp [hz])) hg v hv
end Go.Proofs.Ytdanihbbnepjpaa.H
namespace Go.Proofs.Ytdanihbbnepjpaa.H
open Go.RowKit Go.Proofs.YtdanihbbnepjpaaW.PrintWords Go.Proofs.YtdanihbbnepjpaaW.PrintLast Go.Proofs.YtdanihbbnepjpaaW.PrintMore
attribute [local go_sem] max2_int min2_int max_two min_two max_three min_three max_four min_four
set_option linter.unusedVariables false
set_option linter.unusedSimpArgs false
attribute [local go_sem high] eqA24
def lambrequinref03_Same.l0 : Nat → List (Val) → List (Val) → Int → Option (Bool)
 | 0, _, _, _ => none
 | k + 1, x0, x1, x5 => if x5 < (x0.length : Int) then (if 0 ≤ x5 then (if x5 < (x1.length : Int) then (if (!(((rd_T24 x0 x5).isSym) == ((rd_T24 x1 x5).isSym)) || (!((((rd_T24 x0 x5).sym).toList) == (((rd_T24 x1 x5).sym).toList)) || (!(((rd_T24 x0 x5).n) == ((rd_T24 x1 x5).n))))) = true then (some false) else (lambrequinref03_Same.l0 k x0 x1 (wrap64 (x5 + 1)))) else (none)) else (none)) else (some true)
def lambrequinref03_Same.f (k : Nat) (l0 : List (Val)) (l1 : List (Val)) : Option (Bool) := if (l0.length : Int) = (l1.length : Int) then (lambrequinref03_Same.l0 k l0 l1 0) else (some false)
theorem lambrequinref03_Same.mono_l : ∀ k, (∀ y0 y1 y2, LeO (lambrequinref03_Same.l0 k y0 y1 y2) (lambrequinref03_Same.l0 (k + 1) y0 y1 y2))
 | 0 => fun _ _ _ r h => by simp [lambrequinref03_Same.l0] at h
 | k + 1 => by
  have ih0 := lambrequinref03_Same.mono_l k
  ·intro y0 y1 y2
   unfold lambrequinref03_Same.l0
   repeat' first
   | (with_reducible exact ih0 _ _ _)
   | (with_reducible exact LeO.refl _)
   | (with_reducible exact LeO.none _)
   | (with_reducible refine LeO.ite ?_ ?_)
   | (with_reducible refine LeO.bind ?_ (fun _ => ?_))
   | exact ih0 _ _ _
   | exact LeO.none _
   | refine LeO.ite ?_ ?_
   | refine LeO.bind ?_ (fun _ => ?_)
theorem lambrequinref03_Same.mono : ∀ a0 a1 k, LeO (lambrequinref03_Same.f k a0 a1) (lambrequinref03_Same.f (k + 1) a0 a1) := by
 intro a0 a1 k
 have ih0 := lambrequinref03_Same.mono_l k
 unfold lambrequinref03_Same.f
 repeat' first
   | (with_reducible exact ih0 _ _ _)
   | (with_reducible exact LeO.refl _)
   | (with_reducible exact LeO.none _)
   | (with_reducible refine LeO.ite ?_ ?_)
   | (with_reducible refine LeO.bind ?_ (fun _ => ?_))
   | exact ih0 _ _ _
   | exact LeO.none _
   | refine LeO.ite ?_ ?_
   | refine LeO.bind ?_ (fun _ => ?_)
set_option maxHeartbeats 8000000 in
set_option maxRecDepth 100000 in
theorem lambrequinref03_Same.calls (k : Nat) (A0 : Option Addr) (c0 : Nat) (l0 : List (Val)) (A1 : Option Addr) (c1 : Nat) (l1 : List (Val)) (r : Bool) (w : World) (hr0 : Kd.C k24 w A0 l0.length l0) (hc0 : l0.length ≤ c0) (hr1 : Kd.C k24 w A1 l1.length l1) (hc1 : l1.length ≤ c1) (h : lambrequinref03_Same.f k l0 l1 = some r) :
  Calls Try.prog 30 #[.slice A0 l0.length c0, .slice A1 l1.length c1] w fun e w' => e = .returned (.bool r) ∧ Drawn0 w w' := by
 have hu24 := Try.underlying24
 have HR0 := Aside0.mk hr0
 have HC0 := Aside0.mk hc0
 clear hr0 hc0
 have HR1 := Aside0.mk hr1
 have HC1 := Aside0.mk hc1
 clear hr1 hc1
 have H : (if (l0.length : Int) = (l1.length : Int) then (lambrequinref03_Same.l0 k l0 l1 0) else (some false)) = some r := h
 clear h
 by_cases c3 : (l0.length : Int) = (l1.length : Int)
 ·rw [if_pos c3] at H
  have c3b0 : ((l0.length : Int) == (l1.length : Int)) = true := beq_iff_eq.mpr c3
  have c3b1 : ((l0.length : Int) != (l1.length : Int)) = false := bne_eq_false_iff_eq.mpr c3
  have c3b2 : (l0.length == l1.length) = true := by first | simpa using c3 | (simp at c3 ⊢; omega)
  clear c3
  have H' := Aside0.mk H
  clear H
  go_enter Try.func30, Try.ntmps30
  go_wp2
  repeat (go_quiet (fail); try go_wp2)
  go_loopg [5] k (fun kq v5 w' => ∃ (x5_1 : Int), v5 = .int .i64 x5_1 ∧ Aside0 (lambrequinref03_Same.l0 kq l0 l1 x5_1 = some r) ∧ Aside0 (kq ≤ k) ∧ Drawn0 w w')
  case atStart => exact ⟨(0), (by first | rfl | (simp; done) | (simp [*]; done)), H', ⟨Nat.le_refl _⟩, by repeat (first | exact Drawn0.refl _ | apply Drawn0.step)⟩
  case round =>
   clear H'
   try clear c1
   try clear p2
   try clear c3
   try clear c3b0
   try clear c3b1
   try clear c3b2
   obtain ⟨x5_1, rfl, HA, HK1, ⟨m1, rfl⟩⟩ := hrel
   cases gk with
   | zero => exact absurd HA.out (by simp [lambrequinref03_Same.l0])
   | succ k1 =>
    have H := HA.out
    clear HA
    simp only [lambrequinref03_Same.l0] at H
    by_cases c4 : x5_1 < (l0.length : Int)
    ·rw [if_pos c4] at H
     have c4b0 : decide (x5_1 < (l0.length : Int)) = true := decide_eq_true c4
     clear c4
     by_cases c5 : 0 ≤ x5_1
     ·rw [if_pos c5] at H
      have c5b0 : decide (0 ≤ x5_1) = true := decide_eq_true c5
      clear c5
      by_cases c6 : x5_1 < (l1.length : Int)
      ·rw [if_pos c6] at H
       have c6b0 : decide (x5_1 < (l1.length : Int)) = true := decide_eq_true c6
       clear c6
       by_cases c7 : (!(((rd_T24 l0 x5_1).isSym) == ((rd_T24 l1 x5_1).isSym)) || (!((((rd_T24 l0 x5_1).sym).toList) == (((rd_T24 l1 x5_1).sym).toList)) || (!(((rd_T24 l0 x5_1).n) == ((rd_T24 l1 x5_1).n))))) = true
       ·rw [if_pos c7] at H
        have c7b0 : (!(((rd_T24 l0 x5_1).isSym) == ((rd_T24 l1 x5_1).isSym)) || (!((((rd_T24 l0 x5_1).sym).toList) == (((rd_T24 l1 x5_1).sym).toList)) || (!(((rd_T24 l0 x5_1).n) == ((rd_T24 l1 x5_1).n))))) = true := c7
        clear c7
        obtain rfl := Option.some.inj H
        have p101 : 0 ≤ (x5_1 : Int) := of_decide_eq_true (by first | (with_reducible assumption) | assumption)
        have q101 : x5_1 < (l0.length : Int) := of_decide_eq_true (by first | (with_reducible assumption) | assumption)
        obtain ⟨ad101, e101, hx101_0, hx101_1, hx101_2⟩ := at_T24 HR0.out x5_1 p101 q101
        cases e101
        replace p101 := eq_true p101
        replace q101 := eq_true q101
        have p102 : 0 ≤ (x5_1 : Int) := of_decide_eq_true (by first | (with_reducible assumption) | assumption)
        have q102 : x5_1 < (l1.length : Int) := of_decide_eq_true (by first | (with_reducible assumption) | assumption)
        obtain ⟨ad102, e102, hx102_0, hx102_1, hx102_2⟩ := at_T24 HR1.out x5_1 p102 q102
        cases e102
        replace p102 := eq_true p102
        replace q102 := eq_true q102
        go_wp2
        repeat (go_quiet (fail); try go_wp2)
        go_ret
        exact ⟨by first | rfl | (simp; done) | (simp [*]; done), by repeat (first | exact Drawn0.refl _ | apply Drawn0.step)⟩
       ·rw [if_neg c7] at H
        have c7b0 : (!(((rd_T24 l0 x5_1).isSym) == ((rd_T24 l1 x5_1).isSym)) || (!((((rd_T24 l0 x5_1).sym).toList) == (((rd_T24 l1 x5_1).sym).toList)) || (!(((rd_T24 l0 x5_1).n) == ((rd_T24 l1 x5_1).n))))) = false := by simpa using c7
        clear c7
        have H' := Aside0.mk H
        clear H
        have p101 : 0 ≤ (x5_1 : Int) := of_decide_eq_true (by first | (with_reducible assumption) | assumption)
        have q101 : x5_1 < (l0.length : Int) := of_decide_eq_true (by first | (with_reducible assumption) | assumption)
        obtain ⟨ad101, e101, hx101_0, hx101_1, hx101_2⟩ := at_T24 HR0.out x5_1 p101 q101
        cases e101
        replace p101 := eq_true p101
        replace q101 := eq_true q101
        have p102 : 0 ≤ (x5_1 : Int) := of_decide_eq_true (by first | (with_reducible assumption) | assumption)
        have q102 : x5_1 < (l1.length : Int) := of_decide_eq_true (by first | (with_reducible assumption) | assumption)
        obtain ⟨ad102, e102, hx102_0, hx102_1, hx102_2⟩ := at_T24 HR1.out x5_1 p102 q102
        cases e102
        replace p102 := eq_true p102
        replace q102 := eq_true q102
        go_wp2
        repeat (go_quiet (fail); try go_wp2)
        go_roundg k1
        case measure => have := HK1.out; omega
        case rel => exact ⟨(wrap64 (x5_1 + 1)), (by first | rfl | (simp; done) | (simp [*]; done)), H', ⟨by have := HK1.out; omega⟩, by repeat (first | exact Drawn0.refl _ | apply Drawn0.step)⟩
      ·rw [if_neg c6] at H
       exact absurd H (by simp)
     ·rw [if_neg c5] at H
      exact absurd H (by simp)
    ·rw [if_neg c4] at H
     have c4b0 : decide (x5_1 < (l0.length : Int)) = false := decide_eq_false c4
     clear c4
     obtain rfl := Option.some.inj H
     go_wp2
     repeat (go_quiet (fail); try go_wp2)
     go_ret
     exact ⟨by first | rfl | (simp; done) | (simp [*]; done), by repeat (first | exact Drawn0.refl _ | apply Drawn0.step)⟩
 ·rw [if_neg c3] at H
  have c3b0 : ((l0.length : Int) == (l1.length : Int)) = false := beq_eq_false_iff_ne.mpr c3
  have c3b1 : ((l0.length : Int) != (l1.length : Int)) = true := bne_iff_ne.mpr c3
  have c3b2 : (l0.length == l1.length) = false := by first | simpa using c3 | (simp at c3 ⊢; omega)
  obtain rfl := Option.some.inj H
  go_enter Try.func30, Try.ntmps30
  go_wp2
  repeat (go_quiet (fail); try go_wp2)
  go_ret
  exact ⟨by first | rfl | (simp; done) | (simp [*]; done), by repeat (first | exact Drawn0.refl _ | apply Drawn0.step)⟩
end Go.Proofs.Ytdanihbbnepjpaa.H
namespace Go.Proofs.Ytdanihbbnepjpaa.H
open Go.RowKit Go.Proofs.YtdanihbbnepjpaaW.PrintWords Go.Proofs.YtdanihbbnepjpaaW.PrintLast Go.Proofs.YtdanihbbnepjpaaW.PrintMore
attribute [local go_sem] max2_int min2_int max_two min_two max_three min_three max_four min_four
set_option linter.unusedVariables false
set_option linter.unusedSimpArgs false
def lambrequinref12_Value.f (k : Nat) (a0_0 : Bool) (a0_1 : ByteArray) (a0_2 : Bool) (a0_3 : ByteArray) (a0_4 : Int) (l1 : List (RPair)) : Option (Bool × ByteArray × Int × Bool) := if a0_0 = true then ((lambrequinref12_Get.f k l1 a0_1).bind fun bt103 => (some (bt103.1, bt103.2.1, bt103.2.2.1, bt103.2.2.2))) else ((lambrequinref03_Bare.f a0_2 a0_3 a0_4).bind fun bt107 => (some (bt107.1, bt107.2.1, bt107.2.2, true)))
theorem lambrequinref12_Value.mono : ∀ a0 a1 a2 a3 a4 a5 k, LeO (lambrequinref12_Value.f k a0 a1 a2 a3 a4 a5) (lambrequinref12_Value.f (k + 1) a0 a1 a2 a3 a4 a5) := by
 intro a0 a1 a2 a3 a4 a5 k
 unfold lambrequinref12_Value.f
 repeat' first
   | (with_reducible exact lambrequinref12_Get.mono _ _ _)
   | (with_reducible exact LeO.refl _)
   | (with_reducible exact LeO.none _)
   | (with_reducible refine LeO.ite ?_ ?_)
   | (with_reducible refine LeO.bind ?_ (fun _ => ?_))
   | exact lambrequinref12_Get.mono _ _ _
   | exact LeO.none _
   | refine LeO.ite ?_ ?_
   | refine LeO.bind ?_ (fun _ => ?_)
set_option maxHeartbeats 8000000 in
set_option maxRecDepth 100000 in
theorem lambrequinref12_Value.calls (k : Nat) (a0_0 : Bool) (a0_1 : ByteArray) (a0_2 : Bool) (a0_3 : ByteArray) (a0_4 : Int) (A1 : Option Addr) (c1 : Nat) (l1 : List (RPair)) (r1 : Bool) (r2 : ByteArray) (r3 : Int) (r4 : Bool) (w : World) (hr1 : Kd.C k69 w A1 l1.length l1) (hc1 : l1.length ≤ c1) (h : lambrequinref12_Value.f k a0_0 a0_1 a0_2 a0_3 a0_4 l1 = some (r1, r2, r3, r4)) :
  Calls Try.prog 29 #[.agg #[.bool a0_0, .string a0_1, .bool a0_2, .string a0_3, .int .i64 a0_4], .slice A1 l1.length c1] w fun e w' => e = .returned (.tuple #[.agg #[.bool r1, .string r2, .int .i64 r3], .bool r4]) ∧ Below w.heap.size w w' := by
 have hu49 := Try.underlying49
 have hu24 := Try.underlying24
 have HR1 := Aside0.mk hr1
 have HC1 := Aside0.mk hc1
 clear hr1 hc1
 have HB := Aside0.mk (Below.refl w.heap.size w)
 have H : (if a0_0 = true then ((lambrequinref12_Get.f k l1 a0_1).bind fun bt103 => (some (bt103.1, bt103.2.1, bt103.2.2.1, bt103.2.2.2))) else ((lambrequinref03_Bare.f a0_2 a0_3 a0_4).bind fun bt107 => (some (bt107.1, bt107.2.1, bt107.2.2, true)))) = some (r1, r2, r3, r4) := h
 clear h
 by_cases c3 : a0_0 = true
 ·subst c3
  have H1 : ((lambrequinref12_Get.f k l1 a0_1).bind fun bt103 => (some (bt103.1, bt103.2.1, bt103.2.2.1, bt103.2.2.2))) = some (r1, r2, r3, r4) := by rw [if_pos rfl] at H; exact H
  clear H
  have H := H1
  clear H1
  replace H := Option.bind_eq_some_iff.mp H
  obtain ⟨⟨t103, t104, t105, t106⟩, A40, H⟩ := H
  replace H : (some (t103, t104, t105, t106)) = some (r1, r2, r3, r4) := H
  have A4 := Aside0.mk A40
  clear A40
  simp only [Option.some.injEq, Prod.mk.injEq] at H
  obtain ⟨rfl, rfl, rfl, rfl⟩ := H
  go_enter Try.func29, Try.ntmps29
  go_wp2_with (first | ((with_reducible refine gate_dst (N := 2) rfl ?_); refine box_event ?hg (N := 2) ?hd (cs := #[.bool true, .string a0_1, .bool a0_2, .string a0_3, .int .i64 a0_4]) (t := 49) ?hr ?_; (case hd => rfl); (case hg => rfl); (case hr => first | (go_simp; done) | (go_simp; rfl)); intro gb101 hg w5 hbox hb; have n0_ := Aside0.mk (below_step (by repeat (first | (with_reducible first | exact HB.out | apply below_alloc | apply pw_below_drewN | apply below_drew1) | exact HB.out)) hb); have n1_ := Aside0.mk (hbox); have n2_ := Aside0.mk ((by rw [hg]; exact (below_size (by repeat (first | (with_reducible first | exact HB.out | apply below_alloc | apply pw_below_drewN | apply below_drew1) | exact HB.out))) : w.heap.size ≤ gb101)); have n3_ := Aside0.mk ((by rw [hg]; exact (below_size (by repeat (first | (with_reducible first | exact HB.out | apply below_alloc | apply pw_below_drewN | apply below_drew1) | exact HB.out))) : w.heap.size ≤ gb101)); clear HB; have HB := n0_; have BK101 := n1_; have GW101 := n2_; have GE101 := n3_; clear n0_ n1_ n2_ n3_; clear hb hbox hg) | ((with_reducible refine gate_dst (N := 4) rfl ?_); refine box_event ?hg (N := 4) ?hd (cs := #[.bool false, .string (⟨#[]⟩ : ByteArray), .int .i64 0]) (t := 24) ?hr ?_; (case hd => rfl); (case hg => rfl); (case hr => first | (go_simp; done) | (go_simp; rfl)); intro gb102 hg w6 hbox hb; have n0_ := Aside0.mk (blk_below (g := gb101) (o := .cells #[.bool true, .string a0_1, .bool a0_2, .string a0_3, .int .i64 a0_4] 49 (0, 0)) (by (with_reducible repeat (first | refine blk_drewN ?_ _ | refine blk_drew ?_ | refine blk_alloc ?_ _)); exact BK101.out) hb); have n1_ := Aside0.mk (below_step (by repeat (first | (with_reducible first | exact HB.out | apply below_alloc | apply pw_below_drewN | apply below_drew1 | refine below_set ?_ GE101.out) | exact HB.out)) hb); have n2_ := Aside0.mk (hbox); have n3_ := Aside0.mk ((by rw [hg]; exact (below_size (by repeat (first | (with_reducible first | exact HB.out | apply below_alloc | apply pw_below_drewN | apply below_drew1 | refine below_set ?_ GE101.out) | exact HB.out))) : w.heap.size ≤ gb102)); have n4_ := Aside0.mk ((by rw [hg]; exact (below_size (by repeat (first | (with_reducible first | exact HB.out | apply below_alloc | apply pw_below_drewN | apply below_drew1 | refine below_set ?_ GE101.out) | exact HB.out))) : w.heap.size ≤ gb102)); have n5_ := Aside0.mk ((by rw [hg]; exact Nat.ne_of_lt (blk_lt (g := gb101) (o := .cells #[.bool true, .string a0_1, .bool a0_2, .string a0_3, .int .i64 a0_4] 49 (0, 0)) (by (with_reducible repeat (first | refine blk_drewN ?_ _ | refine blk_drew ?_ | refine blk_alloc ?_ _)); exact BK101.out)) : gb101 ≠ gb102)); have n6_ := Aside0.mk ((by rw [hg]; exact Nat.ne_of_gt (blk_lt (g := gb101) (o := .cells #[.bool true, .string a0_1, .bool a0_2, .string a0_3, .int .i64 a0_4] 49 (0, 0)) (by (with_reducible repeat (first | refine blk_drewN ?_ _ | refine blk_drew ?_ | refine blk_alloc ?_ _)); exact BK101.out)) : gb102 ≠ gb101)); clear BK101; clear HB; have BK101 := n0_; have HB := n1_; have BK102 := n2_; have GW102 := n3_; have GE102 := n4_; have NB101_102 := n5_; have NB102_101 := n6_; clear n0_ n1_ n2_ n3_ n4_ n5_ n6_; clear hb hbox hg; have hnb7 := NB101_102.out; have hnc7 := NB102_101.out; have hcz8_0 : w6.cell? ⟨gb101, 0, none⟩ = some (.bool true) := (blk_cell BK101.out 0).trans rfl; have hcz8_1 : w6.cell? ⟨gb101, 1, none⟩ = some (.string a0_1) := (blk_cell BK101.out 1).trans rfl; have hcz8_2 : w6.cell? ⟨gb101, 2, none⟩ = some (.bool a0_2) := (blk_cell BK101.out 2).trans rfl; have hcz8_3 : w6.cell? ⟨gb101, 3, none⟩ = some (.string a0_3) := (blk_cell BK101.out 3).trans rfl; have hcz8_4 : w6.cell? ⟨gb101, 4, none⟩ = some (.int .i64 a0_4) := (blk_cell BK101.out 4).trans rfl; have hfz8_0 := blk_frozen BK101.out 0; have hfz8_1 := blk_frozen BK101.out 1; have hfz8_2 := blk_frozen BK101.out 2; have hfz8_3 := blk_frozen BK101.out 3; have hfz8_4 := blk_frozen BK101.out 4) | ((with_reducible refine gate_callee (f := 13) rfl ?_); refine goesL_ (some 15) rfl rfl Try.func13 (by kernel_rfl) rfl #[.slice A1 l1.length c1, .string a0_1] rfl (by (try simp only [List.map_toArray, List.map_cons, List.map_nil]); first | done | rfl | (simp only [List.length_drop, List.length_take]; rfl)) ?_; (with_reducible refine (lambrequinref12_Get.calls k _ _ l1 a0_1 t103 t104 t105 t106 _ ?side1 ?side2 A4.out).mono ?_); (case side1 => repeat (first | exact (Kd.C_below HR1.out HB.out) | (with_reducible refine Kd.C_alloc ?_ _) | (with_reducible refine Kd.C_drewN ?_ _) | (with_reducible refine Kd.C_drew ?_))); (case side2 => exact HC1.out); rintro e w9 ⟨rfl, hb⟩; refine ⟨_, rfl, ?_⟩; have n0_ := Aside0.mk (blk_below (g := gb101) (o := .cells #[.bool true, .string a0_1, .bool a0_2, .string a0_3, .int .i64 a0_4] 49 (0, 0)) (by (with_reducible repeat (first | refine blk_drewN ?_ _ | refine blk_drew ?_ | refine blk_alloc ?_ _)); exact BK101.out) hb); have n1_ := Aside0.mk (blk_below (g := gb102) (o := .cells #[.bool false, .string (⟨#[]⟩ : ByteArray), .int .i64 0] 24 (0, 0)) (by (with_reducible repeat (first | refine blk_drewN ?_ _ | refine blk_drew ?_ | refine blk_alloc ?_ _)); exact BK102.out) hb); have n2_ := Aside0.mk (below_step (by repeat (first | (with_reducible first | exact HB.out | apply below_alloc | apply pw_below_drewN | apply below_drew1 | refine below_set ?_ GE101.out | refine below_set ?_ GE102.out) | exact HB.out)) hb); clear BK101; clear BK102; clear HB; have BK101 := n0_; have BK102 := n1_; have HB := n2_; clear n0_ n1_ n2_; (try clear hb); (try clear hb2); (try clear hk); (try clear hi); have hcz10_0 : w9.cell? ⟨gb102, 0, none⟩ = some (.bool false) := (blk_cell BK102.out 0).trans rfl; have hcz10_1 : w9.cell? ⟨gb102, 1, none⟩ = some (.string (⟨#[]⟩ : ByteArray)) := (blk_cell BK102.out 1).trans rfl; have hcz10_2 : w9.cell? ⟨gb102, 2, none⟩ = some (.int .i64 0) := (blk_cell BK102.out 2).trans rfl; have hfz10_0 := blk_frozen BK102.out 0; have hfz10_1 := blk_frozen BK102.out 1; have hfz10_2 := blk_frozen BK102.out 2))
  refine bodyPost_ret (results_ct rfl _ _ gb102 24 #[.bool t103, .string t104, .int .i64 t105] (0, 0) _ rfl (by (with_reducible repeat (first | refine blk_drewN ?_ _ | refine blk_drew ?_ | refine blk_alloc ?_ _)); refine blk_put (cs := #[.bool t103, .string t104, .int .i64 0]) ?_ 2 _ rfl; (with_reducible repeat (first | refine blk_drewN ?_ _ | refine blk_drew ?_ | refine blk_alloc ?_ _)); refine blk_put (cs := #[.bool t103, .string (⟨#[]⟩ : ByteArray), .int .i64 0]) ?_ 1 _ rfl; (with_reducible repeat (first | refine blk_drewN ?_ _ | refine blk_drew ?_ | refine blk_alloc ?_ _)); refine blk_put (cs := #[.bool false, .string (⟨#[]⟩ : ByteArray), .int .i64 0]) ?_ 0 _ rfl; (with_reducible repeat (first | refine blk_drewN ?_ _ | refine blk_drew ?_ | refine blk_alloc ?_ _)); exact BK102.out) Try.underlying24 rfl (by kernel_rfl)) rfl ?_
  exact ⟨by first | rfl | (simp [errW_none, errW_some] <;> rfl) | (simp [*, errW_none, errW_some] <;> rfl), by repeat (first | (with_reducible first | exact HB.out | apply below_alloc | apply pw_below_drewN | apply below_drew1 | refine below_set ?_ GE101.out | refine below_set ?_ GE102.out) | exact HB.out)⟩
 ·replace c3 := Bool.eq_false_iff.mpr c3
  subst c3
  have H1 : ((lambrequinref03_Bare.f a0_2 a0_3 a0_4).bind fun bt107 => (some (bt107.1, bt107.2.1, bt107.2.2, true))) = some (r1, r2, r3, r4) := by rw [if_neg (show ¬ (false = true) by decide)] at H; exact H
  clear H
  have H := H1
  clear H1
  replace H := Option.bind_eq_some_iff.mp H
  obtain ⟨⟨t107, t108, t109⟩, A110, H⟩ := H
  replace H : (some (t107, t108, t109, true)) = some (r1, r2, r3, r4) := H
  have A11 := Aside0.mk A110
  clear A110
  simp only [Option.some.injEq, Prod.mk.injEq] at H
  obtain ⟨rfl, rfl, rfl, rfl⟩ := H
  go_enter Try.func29, Try.ntmps29
  go_wp2_with (first | ((with_reducible refine gate_dst (N := 2) rfl ?_); refine box_event ?hg (N := 2) ?hd (cs := #[.bool false, .string a0_1, .bool a0_2, .string a0_3, .int .i64 a0_4]) (t := 49) ?hr ?_; (case hd => rfl); (case hg => rfl); (case hr => first | (go_simp; done) | (go_simp; rfl)); intro gb101 hg w12 hbox hb; have n0_ := Aside0.mk (below_step (by repeat (first | (with_reducible first | exact HB.out | apply below_alloc | apply pw_below_drewN | apply below_drew1) | exact HB.out)) hb); have n1_ := Aside0.mk (hbox); have n2_ := Aside0.mk ((by rw [hg]; exact (below_size (by repeat (first | (with_reducible first | exact HB.out | apply below_alloc | apply pw_below_drewN | apply below_drew1) | exact HB.out))) : w.heap.size ≤ gb101)); have n3_ := Aside0.mk ((by rw [hg]; exact (below_size (by repeat (first | (with_reducible first | exact HB.out | apply below_alloc | apply pw_below_drewN | apply below_drew1) | exact HB.out))) : w.heap.size ≤ gb101)); clear HB; have HB := n0_; have BK101 := n1_; have GW101 := n2_; have GE101 := n3_; clear n0_ n1_ n2_ n3_; clear hb hbox hg) | ((with_reducible refine gate_dst (N := 4) rfl ?_); refine box_event ?hg (N := 4) ?hd (cs := #[.bool false, .string (⟨#[]⟩ : ByteArray), .int .i64 0]) (t := 24) ?hr ?_; (case hd => rfl); (case hg => rfl); (case hr => first | (go_simp; done) | (go_simp; rfl)); intro gb102 hg w13 hbox hb; have n0_ := Aside0.mk (blk_below (g := gb101) (o := .cells #[.bool false, .string a0_1, .bool a0_2, .string a0_3, .int .i64 a0_4] 49 (0, 0)) (by (with_reducible repeat (first | refine blk_drewN ?_ _ | refine blk_drew ?_ | refine blk_alloc ?_ _)); exact BK101.out) hb); have n1_ := Aside0.mk (below_step (by repeat (first | (with_reducible first | exact HB.out | apply below_alloc | apply pw_below_drewN | apply below_drew1 | refine below_set ?_ GE101.out) | exact HB.out)) hb); have n2_ := Aside0.mk (hbox); have n3_ := Aside0.mk ((by rw [hg]; exact (below_size (by repeat (first | (with_reducible first | exact HB.out | apply below_alloc | apply pw_below_drewN | apply below_drew1 | refine below_set ?_ GE101.out) | exact HB.out))) : w.heap.size ≤ gb102)); have n4_ := Aside0.mk ((by rw [hg]; exact (below_size (by repeat (first | (with_reducible first | exact HB.out | apply below_alloc | apply pw_below_drewN | apply below_drew1 | refine below_set ?_ GE101.out) | exact HB.out))) : w.heap.size ≤ gb102)); have n5_ := Aside0.mk ((by rw [hg]; exact Nat.ne_of_lt (blk_lt (g := gb101) (o := .cells #[.bool false, .string a0_1, .bool a0_2, .string a0_3, .int .i64 a0_4] 49 (0, 0)) (by (with_reducible repeat (first | refine blk_drewN ?_ _ | refine blk_drew ?_ | refine blk_alloc ?_ _)); exact BK101.out)) : gb101 ≠ gb102)); have n6_ := Aside0.mk ((by rw [hg]; exact Nat.ne_of_gt (blk_lt (g := gb101) (o := .cells #[.bool false, .string a0_1, .bool a0_2, .string a0_3, .int .i64 a0_4] 49 (0, 0)) (by (with_reducible repeat (first | refine blk_drewN ?_ _ | refine blk_drew ?_ | refine blk_alloc ?_ _)); exact BK101.out)) : gb102 ≠ gb101)); clear BK101; clear HB; have BK101 := n0_; have HB := n1_; have BK102 := n2_; have GW102 := n3_; have GE102 := n4_; have NB101_102 := n5_; have NB102_101 := n6_; clear n0_ n1_ n2_ n3_ n4_ n5_ n6_; clear hb hbox hg; have hnb14 := NB101_102.out; have hnc14 := NB102_101.out; have hcz15_0 : w13.cell? ⟨gb101, 0, none⟩ = some (.bool false) := (blk_cell BK101.out 0).trans rfl; have hcz15_1 : w13.cell? ⟨gb101, 1, none⟩ = some (.string a0_1) := (blk_cell BK101.out 1).trans rfl; have hcz15_2 : w13.cell? ⟨gb101, 2, none⟩ = some (.bool a0_2) := (blk_cell BK101.out 2).trans rfl; have hcz15_3 : w13.cell? ⟨gb101, 3, none⟩ = some (.string a0_3) := (blk_cell BK101.out 3).trans rfl; have hcz15_4 : w13.cell? ⟨gb101, 4, none⟩ = some (.int .i64 a0_4) := (blk_cell BK101.out 4).trans rfl; have hfz15_0 := blk_frozen BK101.out 0; have hfz15_1 := blk_frozen BK101.out 1; have hfz15_2 := blk_frozen BK101.out 2; have hfz15_3 := blk_frozen BK101.out 3; have hfz15_4 := blk_frozen BK101.out 4) | ((with_reducible refine gate_callee (f := 39) rfl ?_); refine goesL_ (some 11) rfl rfl Try.func39 (by kernel_rfl) rfl #[.agg #[.bool a0_2, .string a0_3, .int .i64 a0_4]] rfl (by (try simp only [List.map_toArray, List.map_cons, List.map_nil]); first | done | rfl | (simp only [List.length_drop, List.length_take]; rfl)) ?_; (with_reducible refine (lambrequinref03_Bare.calls a0_2 a0_3 a0_4 t107 t108 t109 _ A11.out).mono ?_); rintro e w16 ⟨rfl, hb⟩; refine ⟨_, rfl, ?_⟩; have n0_ := Aside0.mk (blk_below (g := gb101) (o := .cells #[.bool false, .string a0_1, .bool a0_2, .string a0_3, .int .i64 a0_4] 49 (0, 0)) (by (with_reducible repeat (first | refine blk_drewN ?_ _ | refine blk_drew ?_ | refine blk_alloc ?_ _)); exact BK101.out) hb); have n1_ := Aside0.mk (blk_below (g := gb102) (o := .cells #[.bool false, .string (⟨#[]⟩ : ByteArray), .int .i64 0] 24 (0, 0)) (by (with_reducible repeat (first | refine blk_drewN ?_ _ | refine blk_drew ?_ | refine blk_alloc ?_ _)); exact BK102.out) hb); have n2_ := Aside0.mk (below_step (by repeat (first | (with_reducible first | exact HB.out | apply below_alloc | apply pw_below_drewN | apply below_drew1 | refine below_set ?_ GE101.out | refine below_set ?_ GE102.out) | exact HB.out)) hb); clear BK101; clear BK102; clear HB; have BK101 := n0_; have BK102 := n1_; have HB := n2_; clear n0_ n1_ n2_; (try clear hb); (try clear hb2); (try clear hk); (try clear hi); have hcz17_0 : w16.cell? ⟨gb102, 0, none⟩ = some (.bool false) := (blk_cell BK102.out 0).trans rfl; have hcz17_1 : w16.cell? ⟨gb102, 1, none⟩ = some (.string (⟨#[]⟩ : ByteArray)) := (blk_cell BK102.out 1).trans rfl; have hcz17_2 : w16.cell? ⟨gb102, 2, none⟩ = some (.int .i64 0) := (blk_cell BK102.out 2).trans rfl; have hfz17_0 := blk_frozen BK102.out 0; have hfz17_1 := blk_frozen BK102.out 1; have hfz17_2 := blk_frozen BK102.out 2))
  refine bodyPost_ret (results_ct rfl _ _ gb102 24 #[.bool t107, .string t108, .int .i64 t109] (0, 0) _ rfl (by (with_reducible repeat (first | refine blk_drewN ?_ _ | refine blk_drew ?_ | refine blk_alloc ?_ _)); refine blk_put (cs := #[.bool t107, .string t108, .int .i64 0]) ?_ 2 _ rfl; (with_reducible repeat (first | refine blk_drewN ?_ _ | refine blk_drew ?_ | refine blk_alloc ?_ _)); refine blk_put (cs := #[.bool t107, .string (⟨#[]⟩ : ByteArray), .int .i64 0]) ?_ 1 _ rfl; (with_reducible repeat (first | refine blk_drewN ?_ _ | refine blk_drew ?_ | refine blk_alloc ?_ _)); refine blk_put (cs := #[.bool false, .string (⟨#[]⟩ : ByteArray), .int .i64 0]) ?_ 0 _ rfl; (with_reducible repeat (first | refine blk_drewN ?_ _ | refine blk_drew ?_ | refine blk_alloc ?_ _)); exact BK102.out) Try.underlying24 rfl (by kernel_rfl)) rfl ?_
  exact ⟨by first | rfl | (simp [errW_none, errW_some] <;> rfl) | (simp [*, errW_none, errW_some] <;> rfl), by repeat (first | (with_reducible first | exact HB.out | apply below_alloc | apply pw_below_drewN | apply below_drew1 | refine below_set ?_ GE101.out | refine below_set ?_ GE102.out) | exact HB.out)⟩
end Go.Proofs.Ytdanihbbnepjpaa.H
namespace Go.Proofs.Ytdanihbbnepjpaa.H
open Go.RowKit Go.Proofs.YtdanihbbnepjpaaW.PrintWords Go.Proofs.YtdanihbbnepjpaaW.PrintLast Go.Proofs.YtdanihbbnepjpaaW.PrintMore
attribute [local go_sem] max2_int min2_int max_two min_two max_three min_three max_four min_four
set_option linter.unusedVariables false
set_option linter.unusedSimpArgs false
def lambrequinref12_Ground.l0 : Nat → List (RPair) → List (Val) → Int → ByteArray → List (Term) → Option ((List (Val)) × Bool)
 | 0, _, _, _, _, _ => none
 | k + 1, x1, x6, x7, x102000, x102001 => if x7 < (x102001.length : Int) then (if 0 ≤ x7 then ((lambrequinref12_Value.f k ((rd_T49 x102001 x7).isVar) ((rd_T49 x102001 x7).name) ((rd_T49 x102001 x7).val.isSym) ((rd_T49 x102001 x7).val.sym) ((rd_T49 x102001 x7).val.n) x1).bind fun bt103 => (if bt103.2.2.2 = true then (if x6.length < 4398046511104 then (lambrequinref12_Ground.l0 k x1 (x6 ++ [(⟨bt103.1, bt103.2.1, bt103.2.2.1⟩ : Val)]) (wrap64 (x7 + 1)) x102000 x102001) else (none)) else (some (([] : List (Val)), false)))) else (none)) else (some (x6, true))
def lambrequinref12_Ground.f (k : Nat) (a0_0 : ByteArray) (l0_1 : List (Term)) (l1 : List (RPair)) : Option ((List (Val)) × Bool) := lambrequinref12_Ground.l0 k l1 ([] : List (Val)) 0 a0_0 l0_1
theorem lambrequinref12_Ground.mono_l : ∀ k, (∀ y0 y1 y2 y3 y4, LeO (lambrequinref12_Ground.l0 k y0 y1 y2 y3 y4) (lambrequinref12_Ground.l0 (k + 1) y0 y1 y2 y3 y4))
 | 0 => fun _ _ _ _ _ r h => by simp [lambrequinref12_Ground.l0] at h
 | k + 1 => by
  have ih0 := lambrequinref12_Ground.mono_l k
  ·intro y0 y1 y2 y3 y4
   unfold lambrequinref12_Ground.l0
   repeat' first
   | (with_reducible exact ih0 _ _ _ _ _)
   | (with_reducible exact lambrequinref12_Value.mono _ _ _ _ _ _ _)
   | (with_reducible exact LeO.refl _)
   | (with_reducible exact LeO.none _)
   | (with_reducible refine LeO.ite ?_ ?_)
   | (with_reducible refine LeO.bind ?_ (fun _ => ?_))
   | exact ih0 _ _ _ _ _
   | exact lambrequinref12_Value.mono _ _ _ _ _ _ _
   | exact LeO.none _
   | refine LeO.ite ?_ ?_
   | refine LeO.bind ?_ (fun _ => ?_)
theorem lambrequinref12_Ground.mono : ∀ a0 a1 a2 k, LeO (lambrequinref12_Ground.f k a0 a1 a2) (lambrequinref12_Ground.f (k + 1) a0 a1 a2) := by
 intro a0 a1 a2 k
 have ih0 := lambrequinref12_Ground.mono_l k
 unfold lambrequinref12_Ground.f
 repeat' first
   | (with_reducible exact ih0 _ _ _ _ _)
   | (with_reducible exact lambrequinref12_Value.mono _ _ _ _ _ _ _)
   | (with_reducible exact LeO.refl _)
   | (with_reducible exact LeO.none _)
   | (with_reducible refine LeO.ite ?_ ?_)
   | (with_reducible refine LeO.bind ?_ (fun _ => ?_))
   | exact ih0 _ _ _ _ _
   | exact lambrequinref12_Value.mono _ _ _ _ _ _ _
   | exact LeO.none _
   | refine LeO.ite ?_ ?_
   | refine LeO.bind ?_ (fun _ => ?_)
set_option maxHeartbeats 8000000 in
set_option maxRecDepth 100000 in
theorem lambrequinref12_Ground.calls (k : Nat) (a0_0 : ByteArray) (A0_1 : Option Addr) (c0_1 : Nat) (l0_1 : List (Term)) (A1 : Option Addr) (c1 : Nat) (l1 : List (RPair)) (r1 : List (Val)) (r2 : Bool) (w : World) (hr0_1 : Kd.C k49 w A0_1 l0_1.length l0_1) (hc0_1 : l0_1.length ≤ c0_1) (hr1 : Kd.C k69 w A1 l1.length l1) (hc1 : l1.length ≤ c1) (h : lambrequinref12_Ground.f k a0_0 l0_1 l1 = some (r1, r2)) :
  Calls Try.prog 25 #[.agg #[.string a0_0, .slice A0_1 l0_1.length c0_1], .slice A1 l1.length c1] w fun e w' => ∃ v0_ : Value, e = .returned (.tuple #[v0_, .bool r2]) ∧ Kd.R k24 24 w' w.heap.size (fun _ => True) v0_ r1 ∧ Below w.heap.size w w' := by
 have hu46 := Try.underlying46
 have hu49 := Try.underlying49
 have hu24 := Try.underlying24
 have HR0_1 := Aside0.mk hr0_1
 have HC0_1 := Aside0.mk hc0_1
 clear hr0_1 hc0_1
 have HR1 := Aside0.mk hr1
 have HC1 := Aside0.mk hc1
 clear hr1 hc1
 have HB := Aside0.mk (Below.refl w.heap.size w)
 have H : (lambrequinref12_Ground.l0 k l1 ([] : List (Val)) 0 a0_0 l0_1) = some (r1, r2) := h
 clear h
 have H' := Aside0.mk H
 clear H
 go_enter Try.func25, Try.ntmps25
 go_wp2_with (first | ((with_reducible refine gate_dst (N := 2) rfl ?_); refine box_event ?hg (N := 2) ?hd (cs := #[.string a0_0, .slice A0_1 l0_1.length c0_1]) (t := 46) ?hr ?_; (case hd => rfl); (case hg => rfl); (case hr => first | (go_simp; done) | (go_simp; rfl)); intro gb101 hg w3 hbox hb; have n0_ := Aside0.mk (below_step (by repeat (first | (with_reducible first | exact HB.out | apply below_alloc | apply pw_below_drewN | apply below_drew1) | exact HB.out)) hb); have n1_ := Aside0.mk (hbox); have n2_ := Aside0.mk ((by rw [hg]; exact (below_size (by repeat (first | (with_reducible first | exact HB.out | apply below_alloc | apply pw_below_drewN | apply below_drew1) | exact HB.out))) : w.heap.size ≤ gb101)); have n3_ := Aside0.mk ((by rw [hg]; exact (below_size (by repeat (first | (with_reducible first | exact HB.out | apply below_alloc | apply pw_below_drewN | apply below_drew1) | exact HB.out))) : w.heap.size ≤ gb101)); clear HB; have HB := n0_; have BK101 := n1_; have GW101 := n2_; have GE101 := n3_; clear n0_ n1_ n2_ n3_; clear hb hbox hg))
 go_loopg [6, 7] k (fun kq v6 v7 w' => ∃ (x6_1 : List (Val)) (x7_1 : Int), v7 = .int .i64 x7_1 ∧ Aside0 (lambrequinref12_Ground.l0 kq l1 x6_1 x7_1 a0_0 l0_1 = some (r1, r2)) ∧ Aside0 (kq ≤ k) ∧ Aside0 (Kd.R k24 24 w' w.heap.size (fun _ => True) v6 x6_1) ∧ Aside0 (w'.heap[gb101]? = some (.cells #[.string a0_0, (.slice A0_1 l0_1.length c0_1)] 46 (0, 0))) ∧ Aside0 (Below w.heap.size w w'))
 case atStart => exact ⟨(([] : List (Val))), (0), (by first | rfl | (simp; done) | (simp [*]; done)), H', ⟨Nat.le_refl _⟩, ⟨by first | exact Kd.R_nil _ _ _ _ _ | exact Kd.N_nil _ _ _ _ _ | exact Kd.V_nil _ _ _ _ _ | exact Kd.Q_nil _ _ _ _ _ | exact Kd.S_nil _ _ _ _ _⟩, ⟨by (with_reducible repeat (first | refine blk_drewN ?_ _ | refine blk_drew ?_ | refine blk_alloc ?_ _)); exact BK101.out⟩, ⟨by repeat (first | (with_reducible first | exact HB.out | apply below_alloc | apply pw_below_drewN | apply below_drew1 | refine below_set ?_ GE101.out) | exact HB.out)⟩⟩
 case round =>
  clear H'
  try clear c1
  try clear c2
  try clear p2
  obtain ⟨x6_1, x7_1, rfl, HA, HK1, HO_6, BK101, HB⟩ := hrel
  cases gk with
  | zero => exact absurd HA.out (by simp [lambrequinref12_Ground.l0])
  | succ k1 =>
   have H := HA.out
   clear HA
   simp only [lambrequinref12_Ground.l0] at H
   by_cases c4 : x7_1 < (l0_1.length : Int)
   ·rw [if_pos c4] at H
    have c4b0 : decide (x7_1 < (l0_1.length : Int)) = true := decide_eq_true c4
    clear c4
    by_cases c5 : 0 ≤ x7_1
    ·rw [if_pos c5] at H
     have c5b0 : decide (0 ≤ x7_1) = true := decide_eq_true c5
     clear c5
     replace H := Option.bind_eq_some_iff.mp H
     obtain ⟨⟨t103, t104, t105, t106⟩, A60, H⟩ := H
     replace H : (if t106 = true then (if x6_1.length < 4398046511104 then (lambrequinref12_Ground.l0 k1 l1 (x6_1 ++ [(⟨t103, t104, t105⟩ : Val)]) (wrap64 (x7_1 + 1)) a0_0 l0_1) else (none)) else (some (([] : List (Val)), false))) = some (r1, r2) := H
     have A6 := Aside0.mk A60
     clear A60
     by_cases c7 : t106 = true
     ·subst c7
      have H1 : (if x6_1.length < 4398046511104 then (lambrequinref12_Ground.l0 k1 l1 (x6_1 ++ [(⟨t103, t104, t105⟩ : Val)]) (wrap64 (x7_1 + 1)) a0_0 l0_1) else (none)) = some (r1, r2) := by rw [if_pos rfl] at H; exact H
      clear H
      have H := H1
      clear H1
      by_cases c8 : x6_1.length < 4398046511104
      ·rw [if_pos c8] at H
       have LMc8 := Aside0.mk c8
       clear c8
       obtain ⟨y108, hy108⟩ : ∃ y_ : List (Val), y_ = (x6_1 ++ [(⟨t103, t104, t105⟩ : Val)]) := ⟨_, rfl⟩
       replace H : (lambrequinref12_Ground.l0 k1 l1 y108 (wrap64 (x7_1 + 1)) a0_0 l0_1) = some (r1, r2) := by first | (rw [hy108]; with_reducible exact H) | (have H2_ := (Option.bind_some _ _).symm.trans H; rw [hy108]; with_reducible exact H2_) | (have H2_ := (Option.bind_some _ _).symm.trans H; with_reducible exact H2_) | with_reducible exact H | (rw [hy108]; exact H) | exact H
       have Ny108 := Aside0.mk hy108
       clear hy108
       have H' := Aside0.mk H
       clear H
       have hcz9_0 : wr.cell? ⟨gb101, 0, none⟩ = some (.string a0_0) := (blk_cell BK101.out 0).trans rfl
       have hcz9_1 : wr.cell? ⟨gb101, 1, none⟩ = some (.slice A0_1 l0_1.length c0_1) := (blk_cell BK101.out 1).trans rfl
       have hfz9_0 := blk_frozen BK101.out 0
       have hfz9_1 := blk_frozen BK101.out 1
       have p102 : 0 ≤ (x7_1 : Int) := of_decide_eq_true (by first | (with_reducible assumption) | assumption)
       have q102 : x7_1 < (l0_1.length : Int) := of_decide_eq_true (by first | (with_reducible assumption) | assumption)
       obtain ⟨ad102, e102, hx102_0, hx102_1, hx102_2, hx102_3, hx102_4⟩ := at_T49 HR0_1.out x7_1 p102 q102
       cases e102
       replace hx102_0 := (HB.out.cell (blt_ hx102_0)).trans hx102_0
       replace hx102_1 := (HB.out.cell (blt_ hx102_1)).trans hx102_1
       replace hx102_2 := (HB.out.cell (blt_ hx102_2)).trans hx102_2
       replace hx102_3 := (HB.out.cell (blt_ hx102_3)).trans hx102_3
       replace hx102_4 := (HB.out.cell (blt_ hx102_4)).trans hx102_4
       replace p102 := eq_true p102
       replace q102 := eq_true q102
       go_wp2_with (first | ((with_reducible refine gate_callee (f := 29) rfl ?_); refine goesL_ (some 24) rfl rfl Try.func29 (by kernel_rfl) rfl #[.agg #[.bool ((rd_T49 l0_1 x7_1).isVar), .string ((rd_T49 l0_1 x7_1).name), .bool ((rd_T49 l0_1 x7_1).val.isSym), .string ((rd_T49 l0_1 x7_1).val.sym), .int .i64 ((rd_T49 l0_1 x7_1).val.n)], .slice A1 l1.length c1] rfl (by (try simp only [List.map_toArray, List.map_cons, List.map_nil]); first | done | rfl | (simp only [List.length_drop, List.length_take]; rfl)) ?_; (with_reducible refine (lambrequinref12_Value.calls k1 ((rd_T49 l0_1 x7_1).isVar) ((rd_T49 l0_1 x7_1).name) ((rd_T49 l0_1 x7_1).val.isSym) ((rd_T49 l0_1 x7_1).val.sym) ((rd_T49 l0_1 x7_1).val.n) _ _ l1 t103 t104 t105 true _ ?side1 ?side2 A6.out).mono ?_); (case side1 => repeat (first | exact (Kd.C_below HR1.out HB.out) | (with_reducible refine Kd.C_alloc ?_ _) | (with_reducible refine Kd.C_drewN ?_ _) | (with_reducible refine Kd.C_drew ?_))); (case side2 => exact HC1.out); rintro e w10 ⟨rfl, hb⟩; refine ⟨_, rfl, ?_⟩; have n0_ := Aside0.mk (Kd.R_below (by (with_reducible repeat (first | apply Kd.R_alloc | apply Kd.R_drewN | apply Kd.R_drew)); exact HO_6.out) hb); have n1_ := Aside0.mk (blk_below (g := gb101) (o := .cells #[.string a0_0, .slice (some ad102) l0_1.length c0_1] 46 (0, 0)) (by (with_reducible repeat (first | refine blk_drewN ?_ _ | refine blk_drew ?_ | refine blk_alloc ?_ _)); exact BK101.out) hb); have n2_ := Aside0.mk (below_step (by repeat (first | (with_reducible first | exact HB.out | apply below_alloc | apply pw_below_drewN | apply below_drew1 | refine below_set ?_ GE101.out) | exact HB.out)) hb); clear HO_6; clear BK101; clear HB; have HO_6 := n0_; have BK101 := n1_; have HB := n2_; clear n0_ n1_ n2_; (try clear hb); (try clear hb2); (try clear hk); (try clear hi)) | ((with_reducible refine gate_dst (N := 8) rfl ?_); refine box_event ?hg (N := 8) ?hd (cs := #[.bool false, .string (⟨#[]⟩ : ByteArray), .int .i64 0]) (t := 24) ?hr ?_; (case hd => rfl); (case hg => rfl); (case hr => first | (go_simp; done) | (go_simp; rfl)); intro gb107 hg w11 hbox hb; have n0_ := Aside0.mk (Kd.R_below (Kd.R_elderB (by (with_reducible repeat (first | apply Kd.R_alloc | apply Kd.R_drewN | apply Kd.R_drew)); exact HO_6.out) gb107 (Nat.le_of_eq hg.symm)) hb); have n1_ := Aside0.mk (blk_below (g := gb101) (o := .cells #[.string a0_0, .slice (some ad102) l0_1.length c0_1] 46 (0, 0)) (by (with_reducible repeat (first | refine blk_drewN ?_ _ | refine blk_drew ?_ | refine blk_alloc ?_ _)); exact BK101.out) hb); have n2_ := Aside0.mk (below_step (by repeat (first | (with_reducible first | exact HB.out | apply below_alloc | apply pw_below_drewN | apply below_drew1 | refine below_set ?_ GE101.out) | exact HB.out)) hb); have n3_ := Aside0.mk (hbox); have n4_ := Aside0.mk ((by rw [hg]; exact (below_size (by repeat (first | (with_reducible first | exact HB.out | apply below_alloc | apply pw_below_drewN | apply below_drew1 | refine below_set ?_ GE101.out) | exact HB.out))) : w.heap.size ≤ gb107)); have n5_ := Aside0.mk ((by rw [hg]; exact (below_size (by repeat (first | (with_reducible first | exact HB.out | apply below_alloc | apply pw_below_drewN | apply below_drew1 | refine below_set ?_ GE101.out) | exact HB.out))) : w.heap.size ≤ gb107)); have n6_ := Aside0.mk ((by rw [hg]; exact Nat.ne_of_lt (blk_lt (g := gb101) (o := .cells #[.string a0_0, .slice (some ad102) l0_1.length c0_1] 46 (0, 0)) (by (with_reducible repeat (first | refine blk_drewN ?_ _ | refine blk_drew ?_ | refine blk_alloc ?_ _)); exact BK101.out)) : gb101 ≠ gb107)); have n7_ := Aside0.mk ((by rw [hg]; exact Nat.ne_of_gt (blk_lt (g := gb101) (o := .cells #[.string a0_0, .slice (some ad102) l0_1.length c0_1] 46 (0, 0)) (by (with_reducible repeat (first | refine blk_drewN ?_ _ | refine blk_drew ?_ | refine blk_alloc ?_ _)); exact BK101.out)) : gb107 ≠ gb101)); clear HO_6; clear BK101; clear HB; have HO_6 := n0_; have BK101 := n1_; have HB := n2_; have BK107 := n3_; have GW107 := n4_; have GE107 := n5_; have NB101_107 := n6_; have NB107_101 := n7_; clear n0_ n1_ n2_ n3_ n4_ n5_ n6_ n7_; clear hb hbox hg; have hnb12 := NB107_101.out; have hnc12 := NB101_107.out; have hcz13_0 : w11.cell? ⟨gb107, 0, none⟩ = some (.bool false) := (blk_cell BK107.out 0).trans rfl; have hcz13_1 : w11.cell? ⟨gb107, 1, none⟩ = some (.string (⟨#[]⟩ : ByteArray)) := (blk_cell BK107.out 1).trans rfl; have hcz13_2 : w11.cell? ⟨gb107, 2, none⟩ = some (.int .i64 0) := (blk_cell BK107.out 2).trans rfl; have hfz13_0 := blk_frozen BK107.out 0; have hfz13_1 := blk_frozen BK107.out 1; have hfz13_2 := blk_frozen BK107.out 2) | ((with_reducible refine gate_builtin (b := .append) (xs := #[.tmp 29, .tmp 31]) rfl ?_); at_builtin; refine Kd.R_append k24 (w0 := w) w.heap.size rfl (.tmp 29) (.tmp 31) 47 24 (.agg #[(.bool false), (.string ⟨#[]⟩), (.int .i64 0)]) 32 rfl Try.underlying47 info24 rfl (by decide) (by omega) u6 x6_1 (⟨t103, t104, t105⟩ : Val) [.bool t103, .string t104, .int .i64 t105] (fun k_ => k_ ≠ gb107) (fun _ => False) rfl (by first | (go_simp; done) | (go_simp; rfl)) ?aP (fun _ hk => hk.elim) ?aF ?aO ?aB ?aS ?aL ?_; (case aP => exact k24_mkM _ _ _ (⟨t103, t104, t105⟩ : Val)); (case aB => exact (by repeat (first | (with_reducible first | exact HB.out | apply below_alloc | apply pw_below_drewN | apply below_drew1 | refine below_set ?_ GE101.out | refine below_set ?_ GE107.out) | exact HB.out))); (case aF => exact (fun k_ hk => Kd.freshB (g := gb107) (o := .cells #[.bool t103, .string t104, .int .i64 t105] 24 (0, 0)) (by (with_reducible repeat (first | refine blk_drewN ?_ _ | refine blk_drew ?_ | refine blk_alloc ?_ _)); refine blk_put (cs := #[.bool t103, .string t104, .int .i64 0]) ?_ 2 _ rfl; (with_reducible repeat (first | refine blk_drewN ?_ _ | refine blk_drew ?_ | refine blk_alloc ?_ _)); refine blk_put (cs := #[.bool t103, .string (⟨#[]⟩ : ByteArray), .int .i64 0]) ?_ 1 _ rfl; (with_reducible repeat (first | refine blk_drewN ?_ _ | refine blk_drew ?_ | refine blk_alloc ?_ _)); refine blk_put (cs := #[.bool false, .string (⟨#[]⟩ : ByteArray), .int .i64 0]) ?_ 0 _ rfl; (with_reducible repeat (first | refine blk_drewN ?_ _ | refine blk_drew ?_ | refine blk_alloc ?_ _)); exact BK107.out) k_ hk)); (case aO => exact (by (with_reducible repeat (first | apply Kd.R_alloc | apply Kd.R_drewN | apply Kd.R_drew)); exact Kd.R_mono (Kd.R_far (p := ⟨gb107, 2, none⟩) (Kd.R_far (p := ⟨gb107, 1, none⟩) (Kd.R_far (p := ⟨gb107, 0, none⟩) (Kd.R_mono HO_6.out (fun k_ hk => (⟨hk, hk.2⟩ : _ ∧ k_ ≠ gb107))) (fun _ hk => hk.2) _) (fun _ hk => hk.2) _) (fun _ hk => hk.2) _) (fun _ hk => hk.1.2))); (case aS => exact (below_size (by repeat (first | (with_reducible first | exact HB.out | apply below_alloc | apply pw_below_drewN | apply below_drew1 | refine below_set ?_ GE101.out | refine below_set ?_ GE107.out) | exact HB.out)))); (case aL => have := LMc8.out; omega); intro v109 w14 ho hb hg hat; rw [← Ny108.out] at ho; have n0_ := Aside0.mk (blk_grown (g := gb101) (o := .cells #[.string a0_0, .slice (some ad102) l0_1.length c0_1] 46 (0, 0)) (by repeat (first | (with_reducible first | exact BK101.out | refine blk_drewN ?_ _ | refine blk_drew ?_ | refine blk_alloc ?_ _) | refine blk_far ?_ NB101_107.out _ | exact BK101.out)) hg (Kd.R_ne HO_6.out BK101.out (by decide))); have n1_ := Aside0.mk (blk_grown (g := gb107) (o := .cells #[.bool t103, .string t104, .int .i64 t105] 24 (0, 0)) (by (with_reducible repeat (first | refine blk_drewN ?_ _ | refine blk_drew ?_ | refine blk_alloc ?_ _)); refine blk_put (cs := #[.bool t103, .string t104, .int .i64 0]) ?_ 2 _ rfl; (with_reducible repeat (first | refine blk_drewN ?_ _ | refine blk_drew ?_ | refine blk_alloc ?_ _)); refine blk_put (cs := #[.bool t103, .string (⟨#[]⟩ : ByteArray), .int .i64 0]) ?_ 1 _ rfl; (with_reducible repeat (first | refine blk_drewN ?_ _ | refine blk_drew ?_ | refine blk_alloc ?_ _)); refine blk_put (cs := #[.bool false, .string (⟨#[]⟩ : ByteArray), .int .i64 0]) ?_ 0 _ rfl; (with_reducible repeat (first | refine blk_drewN ?_ _ | refine blk_drew ?_ | refine blk_alloc ?_ _)); exact BK107.out) hg (Kd.R_away HO_6.out (fun _ hk => hk.2))); have n2_ := Aside0.mk (hb); have n3_ := Aside0.mk (ho); clear BK101; clear BK107; clear HB; clear HO_6; have BK101 := n0_; have BK107 := n1_; have HB := n2_; have HO110 := n3_; clear n0_ n1_ n2_ n3_; clear ho hb hg hat))
       go_roundg k1
       case measure => have := HK1.out; omega
       case rel => exact ⟨(y108), (wrap64 (x7_1 + 1)), (by first | rfl | (simp; done) | (simp [*]; done)), H', ⟨by have := HK1.out; omega⟩, ⟨by (with_reducible repeat (first | apply Kd.R_alloc | apply Kd.R_drewN | apply Kd.R_drew)); exact Kd.R_mono HO110.out (fun _ hk => trivial)⟩, ⟨by (with_reducible repeat (first | refine blk_drewN ?_ _ | refine blk_drew ?_ | refine blk_alloc ?_ _)); exact BK101.out⟩, ⟨by repeat (first | (with_reducible first | exact HB.out | apply below_alloc | apply pw_below_drewN | apply below_drew1 | refine below_set ?_ GE101.out | refine below_set ?_ GE107.out) | exact HB.out)⟩⟩
      ·rw [if_neg c8] at H
       exact absurd H (by simp)
     ·replace c7 := Bool.eq_false_iff.mpr c7
      subst c7
      have H1 : (some (([] : List (Val)), false)) = some (r1, r2) := by rw [if_neg (show ¬ (false = true) by decide)] at H; exact H
      clear H
      have H := H1
      clear H1
      simp only [Option.some.injEq, Prod.mk.injEq] at H
      obtain ⟨rfl, rfl⟩ := H
      have hcz15_0 : wr.cell? ⟨gb101, 0, none⟩ = some (.string a0_0) := (blk_cell BK101.out 0).trans rfl
      have hcz15_1 : wr.cell? ⟨gb101, 1, none⟩ = some (.slice A0_1 l0_1.length c0_1) := (blk_cell BK101.out 1).trans rfl
      have hfz15_0 := blk_frozen BK101.out 0
      have hfz15_1 := blk_frozen BK101.out 1
      have p102 : 0 ≤ (x7_1 : Int) := of_decide_eq_true (by first | (with_reducible assumption) | assumption)
      have q102 : x7_1 < (l0_1.length : Int) := of_decide_eq_true (by first | (with_reducible assumption) | assumption)
      obtain ⟨ad102, e102, hx102_0, hx102_1, hx102_2, hx102_3, hx102_4⟩ := at_T49 HR0_1.out x7_1 p102 q102
      cases e102
      replace hx102_0 := (HB.out.cell (blt_ hx102_0)).trans hx102_0
      replace hx102_1 := (HB.out.cell (blt_ hx102_1)).trans hx102_1
      replace hx102_2 := (HB.out.cell (blt_ hx102_2)).trans hx102_2
      replace hx102_3 := (HB.out.cell (blt_ hx102_3)).trans hx102_3
      replace hx102_4 := (HB.out.cell (blt_ hx102_4)).trans hx102_4
      replace p102 := eq_true p102
      replace q102 := eq_true q102
      go_wp2_with (first | ((with_reducible refine gate_callee (f := 29) rfl ?_); refine goesL_ (some 24) rfl rfl Try.func29 (by kernel_rfl) rfl #[.agg #[.bool ((rd_T49 l0_1 x7_1).isVar), .string ((rd_T49 l0_1 x7_1).name), .bool ((rd_T49 l0_1 x7_1).val.isSym), .string ((rd_T49 l0_1 x7_1).val.sym), .int .i64 ((rd_T49 l0_1 x7_1).val.n)], .slice A1 l1.length c1] rfl (by (try simp only [List.map_toArray, List.map_cons, List.map_nil]); first | done | rfl | (simp only [List.length_drop, List.length_take]; rfl)) ?_; (with_reducible refine (lambrequinref12_Value.calls k1 ((rd_T49 l0_1 x7_1).isVar) ((rd_T49 l0_1 x7_1).name) ((rd_T49 l0_1 x7_1).val.isSym) ((rd_T49 l0_1 x7_1).val.sym) ((rd_T49 l0_1 x7_1).val.n) _ _ l1 t103 t104 t105 false _ ?side1 ?side2 A6.out).mono ?_); (case side1 => repeat (first | exact (Kd.C_below HR1.out HB.out) | (with_reducible refine Kd.C_alloc ?_ _) | (with_reducible refine Kd.C_drewN ?_ _) | (with_reducible refine Kd.C_drew ?_))); (case side2 => exact HC1.out); rintro e w16 ⟨rfl, hb⟩; refine ⟨_, rfl, ?_⟩; have n0_ := Aside0.mk (Kd.R_below (by (with_reducible repeat (first | apply Kd.R_alloc | apply Kd.R_drewN | apply Kd.R_drew)); exact HO_6.out) hb); have n1_ := Aside0.mk (blk_below (g := gb101) (o := .cells #[.string a0_0, .slice (some ad102) l0_1.length c0_1] 46 (0, 0)) (by (with_reducible repeat (first | refine blk_drewN ?_ _ | refine blk_drew ?_ | refine blk_alloc ?_ _)); exact BK101.out) hb); have n2_ := Aside0.mk (below_step (by repeat (first | (with_reducible first | exact HB.out | apply below_alloc | apply pw_below_drewN | apply below_drew1 | refine below_set ?_ GE101.out) | exact HB.out)) hb); clear HO_6; clear BK101; clear HB; have HO_6 := n0_; have BK101 := n1_; have HB := n2_; clear n0_ n1_ n2_; (try clear hb); (try clear hb2); (try clear hk); (try clear hi)) | ((with_reducible refine gate_dst (N := 8) rfl ?_); refine box_event ?hg (N := 8) ?hd (cs := #[.bool false, .string (⟨#[]⟩ : ByteArray), .int .i64 0]) (t := 24) ?hr ?_; (case hd => rfl); (case hg => rfl); (case hr => first | (go_simp; done) | (go_simp; rfl)); intro gb107 hg w17 hbox hb; have n0_ := Aside0.mk (Kd.R_below (Kd.R_elderB (by (with_reducible repeat (first | apply Kd.R_alloc | apply Kd.R_drewN | apply Kd.R_drew)); exact HO_6.out) gb107 (Nat.le_of_eq hg.symm)) hb); have n1_ := Aside0.mk (blk_below (g := gb101) (o := .cells #[.string a0_0, .slice (some ad102) l0_1.length c0_1] 46 (0, 0)) (by (with_reducible repeat (first | refine blk_drewN ?_ _ | refine blk_drew ?_ | refine blk_alloc ?_ _)); exact BK101.out) hb); have n2_ := Aside0.mk (below_step (by repeat (first | (with_reducible first | exact HB.out | apply below_alloc | apply pw_below_drewN | apply below_drew1 | refine below_set ?_ GE101.out) | exact HB.out)) hb); have n3_ := Aside0.mk (hbox); have n4_ := Aside0.mk ((by rw [hg]; exact (below_size (by repeat (first | (with_reducible first | exact HB.out | apply below_alloc | apply pw_below_drewN | apply below_drew1 | refine below_set ?_ GE101.out) | exact HB.out))) : w.heap.size ≤ gb107)); have n5_ := Aside0.mk ((by rw [hg]; exact (below_size (by repeat (first | (with_reducible first | exact HB.out | apply below_alloc | apply pw_below_drewN | apply below_drew1 | refine below_set ?_ GE101.out) | exact HB.out))) : w.heap.size ≤ gb107)); have n6_ := Aside0.mk ((by rw [hg]; exact Nat.ne_of_lt (blk_lt (g := gb101) (o := .cells #[.string a0_0, .slice (some ad102) l0_1.length c0_1] 46 (0, 0)) (by (with_reducible repeat (first | refine blk_drewN ?_ _ | refine blk_drew ?_ | refine blk_alloc ?_ _)); exact BK101.out)) : gb101 ≠ gb107)); have n7_ := Aside0.mk ((by rw [hg]; exact Nat.ne_of_gt (blk_lt (g := gb101) (o := .cells #[.string a0_0, .slice (some ad102) l0_1.length c0_1] 46 (0, 0)) (by (with_reducible repeat (first | refine blk_drewN ?_ _ | refine blk_drew ?_ | refine blk_alloc ?_ _)); exact BK101.out)) : gb107 ≠ gb101)); clear HO_6; clear BK101; clear HB; have HO_6 := n0_; have BK101 := n1_; have HB := n2_; have BK107 := n3_; have GW107 := n4_; have GE107 := n5_; have NB101_107 := n6_; have NB107_101 := n7_; clear n0_ n1_ n2_ n3_ n4_ n5_ n6_ n7_; clear hb hbox hg; have hnb18 := NB107_101.out; have hnc18 := NB101_107.out; have hcz19_0 : w17.cell? ⟨gb107, 0, none⟩ = some (.bool false) := (blk_cell BK107.out 0).trans rfl; have hcz19_1 : w17.cell? ⟨gb107, 1, none⟩ = some (.string (⟨#[]⟩ : ByteArray)) := (blk_cell BK107.out 1).trans rfl; have hcz19_2 : w17.cell? ⟨gb107, 2, none⟩ = some (.int .i64 0) := (blk_cell BK107.out 2).trans rfl; have hfz19_0 := blk_frozen BK107.out 0; have hfz19_1 := blk_frozen BK107.out 1; have hfz19_2 := blk_frozen BK107.out 2))
      go_ret2
      exact ⟨_, by first | rfl | (simp [errW_none, errW_some] <;> rfl) | (simp [*, errW_none, errW_some] <;> rfl), by first | exact Kd.R_nil _ _ _ _ _ | exact Kd.N_nil _ _ _ _ _ | exact Kd.V_nil _ _ _ _ _ | exact Kd.Q_nil _ _ _ _ _ | exact Kd.S_nil _ _ _ _ _, by repeat (first | (with_reducible first | exact HB.out | apply below_alloc | apply pw_below_drewN | apply below_drew1 | refine below_set ?_ GE101.out | refine below_set ?_ GE107.out) | exact HB.out)⟩
    ·rw [if_neg c5] at H
     exact absurd H (by simp)
   ·rw [if_neg c4] at H
    have c4b0 : decide (x7_1 < (l0_1.length : Int)) = false := decide_eq_false c4
    clear c4
    simp only [Option.some.injEq, Prod.mk.injEq] at H
    obtain ⟨rfl, rfl⟩ := H
    have hcz20_0 : wr.cell? ⟨gb101, 0, none⟩ = some (.string a0_0) := (blk_cell BK101.out 0).trans rfl
    have hcz20_1 : wr.cell? ⟨gb101, 1, none⟩ = some (.slice A0_1 l0_1.length c0_1) := (blk_cell BK101.out 1).trans rfl
    have hfz20_0 := blk_frozen BK101.out 0
    have hfz20_1 := blk_frozen BK101.out 1
    go_wp2
    go_ret2
    exact ⟨_, by first | rfl | (simp [errW_none, errW_some] <;> rfl) | (simp [*, errW_none, errW_some] <;> rfl), by (with_reducible repeat (first | apply Kd.R_alloc | apply Kd.R_drewN | apply Kd.R_drew)); exact HO_6.out, by repeat (first | (with_reducible first | exact HB.out | apply below_alloc | apply pw_below_drewN | apply below_drew1 | refine below_set ?_ GE101.out) | exact HB.out)⟩
end Go.Proofs.Ytdanihbbnepjpaa.H

/- RowGraphTells of the seat's law GraphTells: the law holds, under the statement's own conditions. -/
import Derived.Test.YtmlhnjonmjmhdaaNXGraphTells
import Derived.Test.YtmlhnjonmjmhdaaNXGraphTells1
set_option linter.unusedVariables false
set_option linter.unusedSimpArgs false
set_option linter.unusedSectionVars false
namespace Go.Proofs.Ytmlhnjonmjmhdaa.H
open Go.RowKit Go.Proofs.YtmlhnjonmjmhdaaW.PrintWords Go.Proofs.YtmlhnjonmjmhdaaW.PrintLast Go.Proofs.YtmlhnjonmjmhdaaW.PrintMore
attribute [local go_sem] max2_int min2_int max_two min_two max_three min_three max_four min_four
mutual
def lambrequinref10_Parts.l0 : Nat → Int → List (IPair) → List (List Bool) → Int → Option ((List (List Int)))
 | 0, _, _, _, _ => none
 | k + 1, x0, x1, x5, x6 => if x6 < x0 then ((lambrequinref10_Reach.f k x0 x1 x6).bind fun t102 => (if x5.length < 5864062014805 then (lambrequinref10_Parts.l0 k x0 x1 (x5 ++ [t102]) (wrap64 (x6 + 1))) else (none))) else (if 0 ≤ x0 then (if (x0 : Int).toNat ≤ 281474976710656 then (lambrequinref10_Parts.l1 k x0 x5 (List.replicate (x0 : Int).toNat false) ([] : List (List Int))) else (none)) else (none))
def lambrequinref10_Parts.l1 : Nat → Int → List (List Bool) → List Bool → List (List Int) → Option ((List (List Int)))
 | 0, _, _, _, _ => none
 | k + 1, x0, x5, x7, x8 => lambrequinref10_Parts.l2 k x0 x5 x7 x8 (-1) (wrap64 (x0 - 1))
def lambrequinref10_Parts.l2 : Nat → Int → List (List Bool) → List Bool → List (List Int) → Int → Int → Option ((List (List Int)))
 | 0, _, _, _, _, _, _ => none
 | k + 1, x0, x5, x7, x8, x9, x10 => if x10 ≥ 0 then (if 0 ≤ x10 then (if x10 < (x7.length : Int) then (lambrequinref10_Parts.l3 k x0 x5 x7 x8 x9 x10 (!(rdOf false x7 x10)) 0) else (none)) else (none)) else (if x9 < 0 then (some x8) else (lambrequinref10_Parts.l4 k x0 x5 x7 x8 x9 ([] : List Int) 0))
def lambrequinref10_Parts.l3 : Nat → Int → List (List Bool) → List Bool → List (List Int) → Int → Int → Bool → Int → Option ((List (List Int)))
 | 0, _, _, _, _, _, _, _, _ => none
 | k + 1, x0, x5, x7, x8, x9, x10, x11, x12 => if x12 < x0 then (if x11 = true then (if 0 ≤ x10 then (if x10 < (x5.length : Int) then (if 0 ≤ x12 then (if x12 < ((rd_L21 x5 x10).length : Int) then (if (rdOf false (rd_L21 x5 x10) x12 = true) then (if x12 < (x5.length : Int) then (if x10 < ((rd_L21 x5 x12).length : Int) then (if rdOf false (rd_L21 x5 x12) x10 = true then (lambrequinref10_Parts.l3 k x0 x5 x7 x8 x9 x10 true (wrap64 (x12 + 1))) else (if x12 < (x7.length : Int) then (lambrequinref10_Parts.l3 k x0 x5 x7 x8 x9 x10 (rdOf false x7 x12) (wrap64 (x12 + 1))) else (none))) else (none)) else (none)) else (lambrequinref10_Parts.l3 k x0 x5 x7 x8 x9 x10 true (wrap64 (x12 + 1)))) else (none)) else (none)) else (none)) else (none)) else (lambrequinref10_Parts.l3 k x0 x5 x7 x8 x9 x10 false (wrap64 (x12 + 1)))) else (if x11 = true then (lambrequinref10_Parts.l2 k x0 x5 x7 x8 x10 (wrap64 (x10 - 1))) else (lambrequinref10_Parts.l2 k x0 x5 x7 x8 x9 (wrap64 (x10 - 1))))
def lambrequinref10_Parts.l4 : Nat → Int → List (List Bool) → List Bool → List (List Int) → Int → List Int → Int → Option ((List (List Int)))
 | 0, _, _, _, _, _, _, _ => none
 | k + 1, x0, x5, x7, x8, x9, x13, x14 => if x14 < x0 then (if 0 ≤ x9 then (if x9 < (x5.length : Int) then (if 0 ≤ x14 then (if x14 < ((rd_L21 x5 x9).length : Int) then (if rdOf false (rd_L21 x5 x9) x14 = true then (if x14 < (x5.length : Int) then (if x9 < ((rd_L21 x5 x14).length : Int) then (if rdOf false (rd_L21 x5 x14) x9 = true then (if x13.length < 17592186044416 then (if x14 < (x7.length : Int) then (lambrequinref10_Parts.l4 k x0 x5 (x7.set (x14 : Int).toNat true) x8 x9 (x13 ++ [x14]) (wrap64 (x14 + 1))) else (none)) else (none)) else (lambrequinref10_Parts.l4 k x0 x5 x7 x8 x9 x13 (wrap64 (x14 + 1)))) else (none)) else (none)) else (lambrequinref10_Parts.l4 k x0 x5 x7 x8 x9 x13 (wrap64 (x14 + 1)))) else (none)) else (none)) else (none)) else (none)) else (if x8.length < 5864062014805 then (lambrequinref10_Parts.l1 k x0 x5 x7 (x8 ++ [x13])) else (none))
end
def lambrequinref10_Parts.f (k : Nat) (a0 : Int) (l1 : List (IPair)) : Option ((List (List Int))) := (lambrequinref10_may.f k a0 l1).bind fun t101 => (if t101 = true then (lambrequinref10_Parts.l0 k a0 l1 ([] : List (List Bool)) 0) else (some ([] : List (List Int))))
theorem lambrequinref10_Parts.mono_l : ∀ k, (∀ y0 y1 y2 y3, LeO (lambrequinref10_Parts.l0 k y0 y1 y2 y3) (lambrequinref10_Parts.l0 (k + 1) y0 y1 y2 y3)) ∧ (∀ y0 y1 y2 y3, LeO (lambrequinref10_Parts.l1 k y0 y1 y2 y3) (lambrequinref10_Parts.l1 (k + 1) y0 y1 y2 y3)) ∧ (∀ y0 y1 y2 y3 y4 y5, LeO (lambrequinref10_Parts.l2 k y0 y1 y2 y3 y4 y5) (lambrequinref10_Parts.l2 (k + 1) y0 y1 y2 y3 y4 y5)) ∧ (∀ y0 y1 y2 y3 y4 y5 y6 y7, LeO (lambrequinref10_Parts.l3 k y0 y1 y2 y3 y4 y5 y6 y7) (lambrequinref10_Parts.l3 (k + 1) y0 y1 y2 y3 y4 y5 y6 y7)) ∧ (∀ y0 y1 y2 y3 y4 y5 y6, LeO (lambrequinref10_Parts.l4 k y0 y1 y2 y3 y4 y5 y6) (lambrequinref10_Parts.l4 (k + 1) y0 y1 y2 y3 y4 y5 y6))
 | 0 => ⟨fun _ _ _ _ r h => by simp [lambrequinref10_Parts.l0] at h, fun _ _ _ _ r h => by simp [lambrequinref10_Parts.l1] at h, fun _ _ _ _ _ _ r h => by simp [lambrequinref10_Parts.l2] at h, fun _ _ _ _ _ _ _ _ r h => by simp [lambrequinref10_Parts.l3] at h, fun _ _ _ _ _ _ _ r h => by simp [lambrequinref10_Parts.l4] at h⟩
 | k + 1 => by
  obtain ⟨ih0, ih1, ih2, ih3, ih4⟩ := lambrequinref10_Parts.mono_l k
  refine ⟨?_, ?_, ?_, ?_, ?_⟩
  ·intro y0 y1 y2 y3
   unfold lambrequinref10_Parts.l0
   repeat' first
   | (with_reducible exact ih0 _ _ _ _)
   | (with_reducible exact ih1 _ _ _ _)
   | (with_reducible exact ih2 _ _ _ _ _ _)
   | (with_reducible exact ih3 _ _ _ _ _ _ _ _)
   | (with_reducible exact ih4 _ _ _ _ _ _ _)
   | (with_reducible exact lambrequinref10_Reach.mono _ _ _ _)
   | (with_reducible exact lambrequinref10_may.mono _ _ _)
   | (with_reducible exact LeO.refl _)
   | (with_reducible exact LeO.none _)
   | (with_reducible refine LeO.ite ?_ ?_)
   | (with_reducible refine LeO.bind ?_ (fun _ => ?_))
   | exact ih0 _ _ _ _
   | exact ih1 _ _ _ _
   | exact ih2 _ _ _ _ _ _
   | exact ih3 _ _ _ _ _ _ _ _
   | exact ih4 _ _ _ _ _ _ _
   | exact lambrequinref10_Reach.mono _ _ _ _
   | exact lambrequinref10_may.mono _ _ _
   | exact LeO.none _
   | refine LeO.ite ?_ ?_
   | refine LeO.bind ?_ (fun _ => ?_)
  ·intro y0 y1 y2 y3
   unfold lambrequinref10_Parts.l1
   repeat' first
   | (with_reducible exact ih0 _ _ _ _)
   | (with_reducible exact ih1 _ _ _ _)
   | (with_reducible exact ih2 _ _ _ _ _ _)
   | (with_reducible exact ih3 _ _ _ _ _ _ _ _)
   | (with_reducible exact ih4 _ _ _ _ _ _ _)
   | (with_reducible exact lambrequinref10_Reach.mono _ _ _ _)
   | (with_reducible exact lambrequinref10_may.mono _ _ _)
   | (with_reducible exact LeO.refl _)
   | (with_reducible exact LeO.none _)
   | (with_reducible refine LeO.ite ?_ ?_)
   | (with_reducible refine LeO.bind ?_ (fun _ => ?_))
   | exact ih0 _ _ _ _
   | exact ih1 _ _ _ _
   | exact ih2 _ _ _ _ _ _
   | exact ih3 _ _ _ _ _ _ _ _
   | exact ih4 _ _ _ _ _ _ _
   | exact lambrequinref10_Reach.mono _ _ _ _
   | exact lambrequinref10_may.mono _ _ _
   | exact LeO.none _
   | refine LeO.ite ?_ ?_
   | refine LeO.bind ?_ (fun _ => ?_)
  ·intro y0 y1 y2 y3 y4 y5
   unfold lambrequinref10_Parts.l2
   repeat' first
   | (with_reducible exact ih0 _ _ _ _)
   | (with_reducible exact ih1 _ _ _ _)
   | (with_reducible exact ih2 _ _ _ _ _ _)
   | (with_reducible exact ih3 _ _ _ _ _ _ _ _)
   | (with_reducible exact ih4 _ _ _ _ _ _ _)
   | (with_reducible exact lambrequinref10_Reach.mono _ _ _ _)
   | (with_reducible exact lambrequinref10_may.mono _ _ _)
   | (with_reducible exact LeO.refl _)
   | (with_reducible exact LeO.none _)
   | (with_reducible refine LeO.ite ?_ ?_)
   | (with_reducible refine LeO.bind ?_ (fun _ => ?_))
   | exact ih0 _ _ _ _
   | exact ih1 _ _ _ _
   | exact ih2 _ _ _ _ _ _
   | exact ih3 _ _ _ _ _ _ _ _
   | exact ih4 _ _ _ _ _ _ _
   | exact lambrequinref10_Reach.mono _ _ _ _
   | exact lambrequinref10_may.mono _ _ _
   | exact LeO.none _
   | refine LeO.ite ?_ ?_
   | refine LeO.bind ?_ (fun _ => ?_)
  ·intro y0 y1 y2 y3 y4 y5 y6 y7
   unfold lambrequinref10_Parts.l3
   repeat' first
   | (with_reducible exact ih0 _ _ _ _)
   | (with_reducible exact ih1 _ _ _ _)
   | (with_reducible exact ih2 _ _ _ _ _ _)
   | (with_reducible exact ih3 _ _ _ _ _ _ _ _)
   | (with_reducible exact ih4 _ _ _ _ _ _ _)
   | (with_reducible exact lambrequinref10_Reach.mono _ _ _ _)
   | (with_reducible exact lambrequinref10_may.mono _ _ _)
   | (with_reducible exact LeO.refl _)
   | (with_reducible exact LeO.none _)
   | (with_reducible refine LeO.ite ?_ ?_)
   | (with_reducible refine LeO.bind ?_ (fun _ => ?_))
   | exact ih0 _ _ _ _
   | exact ih1 _ _ _ _
   | exact ih2 _ _ _ _ _ _
   | exact ih3 _ _ _ _ _ _ _ _
   | exact ih4 _ _ _ _ _ _ _
   | exact lambrequinref10_Reach.mono _ _ _ _
   | exact lambrequinref10_may.mono _ _ _
   | exact LeO.none _
   | refine LeO.ite ?_ ?_
   | refine LeO.bind ?_ (fun _ => ?_)
  ·intro y0 y1 y2 y3 y4 y5 y6
   unfold lambrequinref10_Parts.l4
   repeat' first
   | (with_reducible exact ih0 _ _ _ _)
   | (with_reducible exact ih1 _ _ _ _)
   | (with_reducible exact ih2 _ _ _ _ _ _)
   | (with_reducible exact ih3 _ _ _ _ _ _ _ _)
   | (with_reducible exact ih4 _ _ _ _ _ _ _)
   | (with_reducible exact lambrequinref10_Reach.mono _ _ _ _)
   | (with_reducible exact lambrequinref10_may.mono _ _ _)
   | (with_reducible exact LeO.refl _)
   | (with_reducible exact LeO.none _)
   | (with_reducible refine LeO.ite ?_ ?_)
   | (with_reducible refine LeO.bind ?_ (fun _ => ?_))
   | exact ih0 _ _ _ _
   | exact ih1 _ _ _ _
   | exact ih2 _ _ _ _ _ _
   | exact ih3 _ _ _ _ _ _ _ _
   | exact ih4 _ _ _ _ _ _ _
   | exact lambrequinref10_Reach.mono _ _ _ _
   | exact lambrequinref10_may.mono _ _ _
   | exact LeO.none _
   | refine LeO.ite ?_ ?_
   | refine LeO.bind ?_ (fun _ => ?_)
theorem lambrequinref10_Parts.mono : ∀ a0 a1 k, LeO (lambrequinref10_Parts.f k a0 a1) (lambrequinref10_Parts.f (k + 1) a0 a1) := by
 intro a0 a1 k
 obtain ⟨ih0, ih1, ih2, ih3, ih4⟩ := lambrequinref10_Parts.mono_l k
 unfold lambrequinref10_Parts.f
 repeat' first
   | (with_reducible exact ih0 _ _ _ _)
   | (with_reducible exact ih1 _ _ _ _)
   | (with_reducible exact ih2 _ _ _ _ _ _)
   | (with_reducible exact ih3 _ _ _ _ _ _ _ _)
   | (with_reducible exact ih4 _ _ _ _ _ _ _)
   | (with_reducible exact lambrequinref10_Reach.mono _ _ _ _)
   | (with_reducible exact lambrequinref10_may.mono _ _ _)
   | (with_reducible exact LeO.refl _)
   | (with_reducible exact LeO.none _)
   | (with_reducible refine LeO.ite ?_ ?_)
   | (with_reducible refine LeO.bind ?_ (fun _ => ?_))
   | exact ih0 _ _ _ _
   | exact ih1 _ _ _ _
   | exact ih2 _ _ _ _ _ _
   | exact ih3 _ _ _ _ _ _ _ _
   | exact ih4 _ _ _ _ _ _ _
   | exact lambrequinref10_Reach.mono _ _ _ _
   | exact lambrequinref10_may.mono _ _ _
   | exact LeO.none _
   | refine LeO.ite ?_ ?_
   | refine LeO.bind ?_ (fun _ => ?_)
set_option maxHeartbeats 8000000 in
set_option maxRecDepth 100000 in
theorem lambrequinref10_Parts.calls (k : Nat) (a0 : Int) (A1 : Option Addr) (c1 : Nat) (l1 : List (IPair)) (r : List (List Int)) (w : World) (hr1 : Kd.C k27 w A1 l1.length l1) (hc1 : l1.length ≤ c1) (h : lambrequinref10_Parts.f k a0 l1 = some r) :
  Calls Try.prog 24 #[.int .i64 a0, .slice A1 l1.length c1] w fun e w' => ∃ v0_ : Value, e = .returned (v0_) ∧ Kd.S (Kd.slice 3 (Kd.int .i64)) 35 w' w.heap.size (fun _ => True) v0_ r ∧ Below w.heap.size w w' := by
 have HR1 := am hr1
 have HC1 := am hc1
 clear hr1 hc1
 have HB := am (Below.refl w.heap.size w)
 have H : ((lambrequinref10_may.f k a0 l1).bind fun t101 => (if t101 = true then (lambrequinref10_Parts.l0 k a0 l1 ([] : List (List Bool)) 0) else (some ([] : List (List Int))))) = some r := h
 clear h
 replace H := Option.bind_eq_some_iff.mp H
 obtain ⟨t101, A30, H⟩ := H
 replace H : (if t101 = true then (lambrequinref10_Parts.l0 k a0 l1 ([] : List (List Bool)) 0) else (some ([] : List (List Int)))) = some r := H
 have A3 := am A30
 clear A30
 by_cases c4 : t101 = true
 ·subst c4
  have H1 : (lambrequinref10_Parts.l0 k a0 l1 ([] : List (List Bool)) 0) = some r := by rw [if_pos rfl] at H; exact H
  clear H
  have H := H1
  clear H1
  have H' := am H
  clear H
  go_enter Try.func24, Try.ntmps24
  go_wp2_with (first | ((with_reducible refine gate_callee (f := 49) rfl ?_); refine goesL_ (some 17) rfl rfl Try.func49 (by kernel_rfl) rfl #[.int .i64 a0, .slice A1 l1.length c1] rfl (by (try simp only [List.map_toArray, List.map_cons, List.map_nil]); first | done | rfl | (simp only [List.length_drop, List.length_take]; rfl)) ?_; (with_reducible refine (lambrequinref10_may.calls k a0 _ _ l1 true _ ?side1 ?side2 A3.out).mono ?_); (case side1 => repeat (first | exact HR1.out | (with_reducible refine Kd.C_alloc ?_ _) | (with_reducible refine Kd.C_drewN ?_ _) | (with_reducible refine Kd.C_drew ?_))); (case side2 => exact HC1.out); rintro e w' ⟨rfl, ⟨nd, rfl⟩⟩; refine ⟨_, rfl, ?_⟩))
  go_loopg [5, 6] k (fun kq v5 v6 w' => ∃ (x5_1 : List (List Bool)) (x6_1 : Int), v6 = .int .i64 x6_1 ∧ Aside0 (lambrequinref10_Parts.l0 kq a0 l1 x5_1 x6_1 = some r) ∧ Aside0 (kq ≤ k) ∧ Aside0 (Kd.S (Kd.slice 4 Kd.bool) 40 w' w.heap.size (fun _ => True) v5 x5_1) ∧ Aside0 (Below w.heap.size w w'))
  case atStart => exact ⟨(([] : List (List Bool))), (0), (by first | rfl | (simp; done) | (simp [*]; done)), H', ⟨Nat.le_refl _⟩, ⟨by first | exact Kd.S_nil _ _ _ _ _ | exact Kd.N_nil _ _ _ _ _ | exact Kd.V_nil _ _ _ _ _ | exact Kd.Q_nil _ _ _ _ _ | exact Kd.R_nil _ _ _ _ _⟩, ⟨by repeat (first | (with_reducible first | exact HB.out | apply lA | apply lN | apply lD) | exact HB.out)⟩⟩
  case round =>
   clear H'
   try clear c1
   try clear c2
   try clear p2
   try clear c4
   obtain ⟨x5_1, x6_1, rfl, HA, HK1, HO_5, HB⟩ := hrel
   cases gk with
   | zero => exact absurd HA.out (by simp [lambrequinref10_Parts.l0])
   | succ k1 =>
    have H := HA.out
    clear HA
    simp only [lambrequinref10_Parts.l0] at H
    by_cases c5 : x6_1 < a0
    ·rw [if_pos c5] at H
     have c5b0 : decide (x6_1 < a0) = true := decide_eq_true c5
     clear c5
     replace H := Option.bind_eq_some_iff.mp H
     obtain ⟨t102, A60, H⟩ := H
     replace H : (if x5_1.length < 5864062014805 then (lambrequinref10_Parts.l0 k1 a0 l1 (x5_1 ++ [t102]) (wrap64 (x6_1 + 1))) else (none)) = some r := H
     have A6 := am A60
     clear A60
     by_cases c7 : x5_1.length < 5864062014805
     ·rw [if_pos c7] at H
      have LMc7 := am c7
      clear c7
      obtain ⟨y105, hy105⟩ : ∃ y_ : List (List Bool), y_ = (x5_1 ++ [t102]) := ⟨_, rfl⟩
      replace H : (lambrequinref10_Parts.l0 k1 a0 l1 y105 (wrap64 (x6_1 + 1))) = some r := by first | (rw [hy105]; with_reducible exact H) | (have H2_ := (Option.bind_some _ _).symm.trans H; rw [hy105]; with_reducible exact H2_) | (have H2_ := (Option.bind_some _ _).symm.trans H; with_reducible exact H2_) | with_reducible exact H | (rw [hy105]; exact H) | exact H
      have Ny105 := am hy105
      clear hy105
      have H' := am H
      clear H
      go_wp2_with (first | ((with_reducible refine gate_callee (f := 23) rfl ?_); refine goesL_ (some 28) rfl rfl Try.func23 (by kernel_rfl) rfl #[.int .i64 a0, .slice A1 l1.length c1, .int .i64 x6_1] rfl (by (try simp only [List.map_toArray, List.map_cons, List.map_nil]); first | done | rfl | (simp only [List.length_drop, List.length_take]; rfl)) ?_; (with_reducible refine (lambrequinref10_Reach.calls k1 a0 _ _ l1 x6_1 t102 _ ?side1 ?side2 A6.out).mono ?_); (case side1 => repeat (first | exact (Kd.C_below HR1.out HB.out) | (with_reducible refine Kd.C_alloc ?_ _) | (with_reducible refine Kd.C_drewN ?_ _) | (with_reducible refine Kd.C_drew ?_))); (case side2 => exact HC1.out); rintro e w8 ⟨v103, rfl, ho0, hb⟩; refine ⟨_, rfl, ?_⟩; replace HO_5 := am (Kd.S_elder' (by (with_reducible repeat (first | apply Kd.S_alloc | apply Kd.S_drewN | apply Kd.S_drew)); exact HO_5.out) (Kd.R_base ho0) hb); have HO104 := am (Kd.R_lower ho0 (below_size (by repeat (first | (with_reducible first | exact HB.out | apply lA | apply lN | apply lD) | exact HB.out)))); replace HB := am (below_step (by repeat (first | (with_reducible first | exact HB.out | apply lA | apply lN | apply lD) | exact HB.out)) hb); (try clear hb); (try clear hb2); (try clear hk); (try clear hi); (try clear ho0); obtain ⟨Ao10, co10, eo10⟩ := Kd.R_slice HO104.out; subst eo10) | ((with_reducible refine gate_builtin (b := .append) (xs := #[.tmp 24, .tmp 29]) rfl ?_); at_builtin; refine Kd.S_append (Kd.slice 4 Kd.bool) (w0 := w) w.heap.size rfl (.tmp 24) (.tmp 29) 86 40 (.slice none 0 0) 24 rfl Try.underlying86 info40 rfl (by decide) (by omega) u5 x5_1 t102 [.slice Ao10 t102.length co10] (fun _ => True) (fun k_ => some k_ = (.slice Ao10 t102.length co10 : Value).ownBlock) rfl rfl ?aP (fun k_ hk_ => ((Kd.R_mono (ok' := fun k_ => ((fun _ => True)) k_ ∧ some k_ ≠ (u5 : Value).ownBlock) (Kd.R_apart' (HO104.out) (Kd.S_typed HO_5.out) (by decide)) (fun k_ hk => ⟨trivial, hk.2⟩))).1 k_ hk_.symm) ?aF ?aO ?aB ?aS ?aL ?_; (case aP => exact Kd.M_row (Kd.R_mono (Kd.R_tight rfl (Kd.R_mono (ok' := fun k_ => ((fun _ => True)) k_ ∧ some k_ ≠ (u5 : Value).ownBlock) (Kd.R_apart' (HO104.out) (Kd.S_typed HO_5.out) (by decide)) (fun k_ hk => ⟨trivial, hk.2⟩))) (fun _ h_ => h_))); (case aB => exact (by repeat (first | (with_reducible first | exact HB.out | apply lA | apply lN | apply lD) | exact HB.out))); (case aF => exact (fun _ _ => trivial)); (case aO => exact (by (with_reducible repeat (first | apply Kd.S_alloc | apply Kd.S_drewN | apply Kd.S_drew)); exact Kd.S_mono HO_5.out (fun k_ hk => ⟨trivial, fun e_ => hk.2 e_⟩))); (case aS => exact (below_size (by repeat (first | (with_reducible first | exact HB.out | apply lA | apply lN | apply lD) | exact HB.out)))); (case aL => have := LMc7.out; omega); intro v106 w9 ho hb hg hat; rw [← Ny105.out] at ho; replace HB := am (hb); have HO107 := am (ho); clear HO_5 HO104; clear ho hb hg hat))
      go_roundg k1
      case measure => have := HK1.out; omega
      case rel => exact ⟨(y105), (wrap64 (x6_1 + 1)), (by first | rfl | (simp; done) | (simp [*]; done)), H', ⟨by have := HK1.out; omega⟩, ⟨by (with_reducible repeat (first | apply Kd.S_alloc | apply Kd.S_drewN | apply Kd.S_drew)); exact HO107.out⟩, ⟨by repeat (first | (with_reducible first | exact HB.out | apply lA | apply lN | apply lD) | exact HB.out)⟩⟩
     ·rw [if_neg c7] at H
      exact absurd H (by simp)
    ·rw [if_neg c5] at H
     have c5b0 : decide (x6_1 < a0) = false := decide_eq_false c5
     clear c5
     by_cases c11 : 0 ≤ a0
     ·rw [if_pos c11] at H
      have c11b0 := eq_true c11
      have c11b1 : decide (0 ≤ a0) = true := decide_eq_true c11
      clear c11
      by_cases c12 : (a0 : Int).toNat ≤ 281474976710656
      ·rw [if_pos c12] at H
       have c12b0 := eq_true c12
       have c12b1 : decide ((a0 : Int).toNat ≤ 281474976710656) = true := decide_eq_true c12
       clear c12
       obtain ⟨y108, hy108⟩ : ∃ y_ : List Bool, y_ = (List.replicate (a0 : Int).toNat false) := ⟨_, rfl⟩
       replace H : (lambrequinref10_Parts.l1 k1 a0 x5_1 y108 ([] : List (List Int))) = some r := by first | (rw [hy108]; with_reducible exact H) | (have H2_ := (Option.bind_some _ _).symm.trans H; rw [hy108]; with_reducible exact H2_) | (have H2_ := (Option.bind_some _ _).symm.trans H; with_reducible exact H2_) | with_reducible exact H | (rw [hy108]; exact H) | exact H
       have Ny108 := am hy108
       clear hy108
       have H' := am H
       clear H
       go_wp2_with (first | ((with_reducible refine gate_dst (N := 32) rfl ?_); refine Kd.R_make Kd.bool _ 4 rfl (N := 32) rfl 40 _ _ rfl a0 rfl rfl Try.underlying40 (.bool false) 1 info4 rfl (by decide) (by omega) false (ok := fun _ => True) (okp := fun _ => True) rfl (fun _ hk => hk) trivial (of_decide_eq_true (by first | (with_reducible assumption) | assumption)) (Nat.le_trans (Nat.mul_le_mul_right _ (of_decide_eq_true (by first | (with_reducible assumption) | assumption) : a0.toNat ≤ 281474976710656)) (by omega)) (Below.refl _ _) (Nat.le_refl _) ?_; intro v109 w13 ho14 hb hg_ hnew_; clear hg_ hnew_; (first | rw [← Ny108.out] at ho14 | (simp only [Int.reduceToNat] at ho14; rw [← Ny108.out] at ho14)); replace HO_5 := am (Kd.S_elder' (by (with_reducible repeat (first | apply Kd.S_alloc | apply Kd.S_drewN | apply Kd.S_drew)); exact HO_5.out) (Kd.R_base ho14) hb); have HO110 := am (Kd.R_lower ho14 (below_size (by repeat (first | (with_reducible first | exact HB.out | apply lA | apply lN | apply lD) | exact HB.out)))); replace HB := am (below_step (by repeat (first | (with_reducible first | exact HB.out | apply lA | apply lN | apply lD) | exact HB.out)) hb); clear hb ho14))
       go_loopg [8] k1 (fun kq v8 w' => ∃ (x7_2 : List Bool) (x8_2 : List (List Int)), Aside0 (lambrequinref10_Parts.l1 kq a0 x5_1 x7_2 x8_2 = some r) ∧ Aside0 (kq ≤ k1) ∧ Aside0 (Kd.S (Kd.slice 4 Kd.bool) 40 w' w.heap.size (fun k_ => some k_ ≠ (v109 : Value).ownBlock) u5 x5_1) ∧ Aside0 (Kd.R Kd.bool 4 w' w.heap.size (fun _ => True) v109 x7_2) ∧ Aside0 (Kd.S (Kd.slice 3 (Kd.int .i64)) 35 w' w.heap.size (fun _ => True) v8 x8_2) ∧ Aside0 (Below w.heap.size w w'))
       case atStart => exact ⟨(y108), (([] : List (List Int))), H', ⟨Nat.le_refl _⟩, ⟨by (with_reducible repeat (first | apply Kd.S_alloc | apply Kd.S_drewN | apply Kd.S_drew)); exact Kd.S_mono HO_5.out (fun _ hk => hk.2)⟩, ⟨by (with_reducible repeat (first | apply Ra | apply Rn | apply Rd)); exact HO110.out⟩, ⟨by first | exact Kd.S_nil _ _ _ _ _ | exact Kd.N_nil _ _ _ _ _ | exact Kd.V_nil _ _ _ _ _ | exact Kd.Q_nil _ _ _ _ _ | exact Kd.R_nil _ _ _ _ _⟩, ⟨by repeat (first | (with_reducible first | exact HB.out | apply lA | apply lN | apply lD) | exact HB.out)⟩⟩
       case round =>
        clear H'
        try clear c1
        try clear c2
        try clear p2
        try clear c4
        try clear c5
        try clear c5b0
        try clear p6
        try clear c7
        try clear c11
        try clear c11b0
        try clear c11b1
        try clear c12
        try clear c12b0
        try clear c12b1
        try clear p2
        obtain ⟨x7_2, x8_2, HA, HK2, HO_5, HO_7, HO_8, HB⟩ := hrel
        cases gk with
        | zero => exact absurd HA.out (by simp [lambrequinref10_Parts.l1])
        | succ k2 =>
         have H := HA.out
         clear HA
         simp only [lambrequinref10_Parts.l1] at H
         have H' := am H
         clear H
         go_wp2
         go_loopg [9, 10] k2 (fun kq v9 v10 w' => ∃ (x9_3 : Int) (x10_3 : Int), v9 = .int .i64 x9_3 ∧ v10 = .int .i64 x10_3 ∧ Aside0 (lambrequinref10_Parts.l2 kq a0 x5_1 x7_2 x8_2 x9_3 x10_3 = some r) ∧ Aside0 (kq ≤ k2) ∧ Aside0 (Kd.S (Kd.slice 4 Kd.bool) 40 w' w.heap.size (fun k_ => some k_ ≠ (v109 : Value).ownBlock) u5 x5_1) ∧ Aside0 (Kd.R Kd.bool 4 w' w.heap.size (fun _ => True) v109 x7_2) ∧ Aside0 (Kd.S (Kd.slice 3 (Kd.int .i64)) 35 w' w.heap.size (fun _ => True) u8 x8_2) ∧ Aside0 (Below w.heap.size w w'))
         case atStart => exact ⟨((-1)), (wrap64 (a0 - 1)), (by first | rfl | (simp; done) | (simp [*]; done)), (by first | rfl | (simp; done) | (simp [*]; done)), H', ⟨Nat.le_refl _⟩, ⟨by (with_reducible repeat (first | apply Kd.S_alloc | apply Kd.S_drewN | apply Kd.S_drew)); exact HO_5.out⟩, ⟨by (with_reducible repeat (first | apply Ra | apply Rn | apply Rd)); exact HO_7.out⟩, ⟨by (with_reducible repeat (first | apply Kd.S_alloc | apply Kd.S_drewN | apply Kd.S_drew)); exact HO_8.out⟩, ⟨by repeat (first | (with_reducible first | exact HB.out | apply lA | apply lN | apply lD) | exact HB.out)⟩⟩
         case round =>
          clear H'
          try clear c1
          try clear c2
          try clear p2
          try clear c4
          try clear c5
          try clear c5b0
          try clear p6
          try clear c7
          try clear c11
          try clear c11b0
          try clear c11b1
          try clear c12
          try clear c12b0
          try clear c12b1
          try clear p2
          try clear p6
          obtain ⟨x9_3, x10_3, rfl, rfl, HA, HK3, HO_5, HO_7, HO_8, HB⟩ := hrel
          cases gk with
          | zero => exact absurd HA.out (by simp [lambrequinref10_Parts.l2])
          | succ k3 =>
           have H := HA.out
           clear HA
           simp only [lambrequinref10_Parts.l2] at H
           by_cases c15 : x10_3 ≥ 0
           ·rw [if_pos c15] at H
            have c15b0 : decide (0 ≤ x10_3) = true := decide_eq_true c15
            clear c15
            by_cases c16 : 0 ≤ x10_3
            ·rw [if_pos c16] at H
             have c16b0 : decide (0 ≤ x10_3) = true := decide_eq_true c16
             clear c16
             by_cases c17 : x10_3 < (x7_2.length : Int)
             ·rw [if_pos c17] at H
              have c17b0 : decide (x10_3 < (x7_2.length : Int)) = true := decide_eq_true c17
              clear c17
              have H' := am H
              clear H
              obtain ⟨Ao18, co18, eo18⟩ := Kd.R_slice HO_7.out
              subst eo18
              have p111 : 0 ≤ (x10_3 : Int) := of_decide_eq_true (by first | (with_reducible assumption) | assumption)
              have q111 : x10_3 < (x7_2.length : Int) := of_decide_eq_true (by first | (with_reducible assumption) | assumption)
              obtain ⟨ad111, e111, hx111_0⟩ := Kd.at_bool (Kd.R_reads' HO_7.out).2.2 x10_3 p111 q111
              cases e111
              replace p111 := eq_true p111
              replace q111 := eq_true q111
              go_wp2
              go_loopg [11, 12] k3 (fun kq v11 v12 w' => ∃ (x11_4 : Bool) (x12_4 : Int), v11 = .bool x11_4 ∧ v12 = .int .i64 x12_4 ∧ Aside0 (lambrequinref10_Parts.l3 kq a0 x5_1 x7_2 x8_2 x9_3 x10_3 x11_4 x12_4 = some r) ∧ Aside0 (kq ≤ k3) ∧ Aside0 (Kd.S (Kd.slice 4 Kd.bool) 40 w' w.heap.size (fun k_ => some k_ ≠ ((.slice (some ad111) x7_2.length co18) : Value).ownBlock) u5 x5_1) ∧ Aside0 (Kd.R Kd.bool 4 w' w.heap.size (fun _ => True) (.slice (some ad111) x7_2.length co18) x7_2) ∧ Aside0 (Kd.S (Kd.slice 3 (Kd.int .i64)) 35 w' w.heap.size (fun _ => True) u8 x8_2) ∧ Aside0 (Below w.heap.size w w'))
              case atStart => exact ⟨(!(rdOf false x7_2 x10_3)), (0), (by first | rfl | (simp; done) | (simp [*]; done)), (by first | rfl | (simp; done) | (simp [*]; done)), H', ⟨Nat.le_refl _⟩, ⟨by (with_reducible repeat (first | apply Kd.S_alloc | apply Kd.S_drewN | apply Kd.S_drew)); exact HO_5.out⟩, ⟨by (with_reducible repeat (first | apply Ra | apply Rn | apply Rd)); exact HO_7.out⟩, ⟨by (with_reducible repeat (first | apply Kd.S_alloc | apply Kd.S_drewN | apply Kd.S_drew)); exact HO_8.out⟩, ⟨by repeat (first | (with_reducible first | exact HB.out | apply lA | apply lN | apply lD) | exact HB.out)⟩⟩
              case round =>
               clear H'
               try clear c1
               try clear p1
               try clear q1
               try clear hx1
               try clear c2
               try clear p2
               try clear c4
               try clear c5
               try clear c5b0
               try clear p6
               try clear c7
               try clear c11
               try clear c11b0
               try clear c11b1
               try clear p11
               try clear q11
               try clear hx11
               try clear c12
               try clear c12b0
               try clear c12b1
               try clear c15
               try clear c15b0
               try clear c16
               try clear c16b0
               try clear c17
               try clear c17b0
               try clear hx111_0
               try clear p111
               try clear p2
               try clear p6
               try clear q111
               obtain ⟨x11_4, x12_4, rfl, rfl, HA, HK4, HO_5, HO_7, HO_8, HB⟩ := hrel
               cases gk with
               | zero => exact absurd HA.out (by simp [lambrequinref10_Parts.l3])
               | succ k4 =>
                have H := HA.out
                clear HA
                simp only [lambrequinref10_Parts.l3] at H
                by_cases c19 : x12_4 < a0
                ·rw [if_pos c19] at H
                 have c19b0 : decide (x12_4 < a0) = true := decide_eq_true c19
                 clear c19
                 by_cases c20 : x11_4 = true
                 ·subst c20
                  have H1 : (if 0 ≤ x10_3 then (if x10_3 < (x5_1.length : Int) then (if 0 ≤ x12_4 then (if x12_4 < ((rd_L21 x5_1 x10_3).length : Int) then (if (rdOf false (rd_L21 x5_1 x10_3) x12_4 = true) then (if x12_4 < (x5_1.length : Int) then (if x10_3 < ((rd_L21 x5_1 x12_4).length : Int) then (if rdOf false (rd_L21 x5_1 x12_4) x10_3 = true then (lambrequinref10_Parts.l3 k4 a0 x5_1 x7_2 x8_2 x9_3 x10_3 true (wrap64 (x12_4 + 1))) else (if x12_4 < (x7_2.length : Int) then (lambrequinref10_Parts.l3 k4 a0 x5_1 x7_2 x8_2 x9_3 x10_3 (rdOf false x7_2 x12_4) (wrap64 (x12_4 + 1))) else (none))) else (none)) else (none)) else (lambrequinref10_Parts.l3 k4 a0 x5_1 x7_2 x8_2 x9_3 x10_3 true (wrap64 (x12_4 + 1)))) else (none)) else (none)) else (none)) else (none)) = some r := by rw [if_pos rfl] at H; exact H
                  clear H
                  have H := H1
                  clear H1
                  by_cases c21 : 0 ≤ x10_3
                  ·rw [if_pos c21] at H
                   have c21b0 : decide (0 ≤ x10_3) = true := decide_eq_true c21
                   clear c21
                   by_cases c22 : x10_3 < (x5_1.length : Int)
                   ·rw [if_pos c22] at H
                    have c22b0 : decide (x10_3 < (x5_1.length : Int)) = true := decide_eq_true c22
                    clear c22
                    by_cases c23 : 0 ≤ x12_4
                    ·rw [if_pos c23] at H
                     have c23b0 : decide (0 ≤ x12_4) = true := decide_eq_true c23
                     clear c23
                     by_cases c24 : x12_4 < ((rd_L21 x5_1 x10_3).length : Int)
                     ·rw [if_pos c24] at H
                      have c24b0 : decide (x12_4 < ((rd_L21 x5_1 x10_3).length : Int)) = true := decide_eq_true c24
                      clear c24
                      obtain ⟨bq25, hbq25⟩ : ∃ b_ : Bool, b_ = (rdOf false (rd_L21 x5_1 x10_3) x12_4) := ⟨_, rfl⟩
                      replace H : (if (bq25 = true) then (if x12_4 < (x5_1.length : Int) then (if x10_3 < ((rd_L21 x5_1 x12_4).length : Int) then (if rdOf false (rd_L21 x5_1 x12_4) x10_3 = true then (lambrequinref10_Parts.l3 k4 a0 x5_1 x7_2 x8_2 x9_3 x10_3 true (wrap64 (x12_4 + 1))) else (if x12_4 < (x7_2.length : Int) then (lambrequinref10_Parts.l3 k4 a0 x5_1 x7_2 x8_2 x9_3 x10_3 (rdOf false x7_2 x12_4) (wrap64 (x12_4 + 1))) else (none))) else (none)) else (none)) else (lambrequinref10_Parts.l3 k4 a0 x5_1 x7_2 x8_2 x9_3 x10_3 true (wrap64 (x12_4 + 1)))) = some r := by rw [← hbq25] at H; exact H
                      have Nbq25 := am hbq25
                      clear hbq25
                      by_cases c26 : (bq25 = true)
                      ·subst c26
                       have H1 : (if x12_4 < (x5_1.length : Int) then (if x10_3 < ((rd_L21 x5_1 x12_4).length : Int) then (if rdOf false (rd_L21 x5_1 x12_4) x10_3 = true then (lambrequinref10_Parts.l3 k4 a0 x5_1 x7_2 x8_2 x9_3 x10_3 true (wrap64 (x12_4 + 1))) else (if x12_4 < (x7_2.length : Int) then (lambrequinref10_Parts.l3 k4 a0 x5_1 x7_2 x8_2 x9_3 x10_3 (rdOf false x7_2 x12_4) (wrap64 (x12_4 + 1))) else (none))) else (none)) else (none)) = some r := by rw [if_pos rfl] at H; exact H
                       clear H
                       have H := H1
                       clear H1
                       by_cases c27 : x12_4 < (x5_1.length : Int)
                       ·rw [if_pos c27] at H
                        have c27b0 : decide (x12_4 < (x5_1.length : Int)) = true := decide_eq_true c27
                        clear c27
                        by_cases c28 : x10_3 < ((rd_L21 x5_1 x12_4).length : Int)
                        ·rw [if_pos c28] at H
                         have c28b0 : decide (x10_3 < ((rd_L21 x5_1 x12_4).length : Int)) = true := decide_eq_true c28
                         clear c28
                         obtain ⟨bq29, hbq29⟩ : ∃ b_ : Bool, b_ = (rdOf false (rd_L21 x5_1 x12_4) x10_3) := ⟨_, rfl⟩
                         replace H : (if bq29 = true then (lambrequinref10_Parts.l3 k4 a0 x5_1 x7_2 x8_2 x9_3 x10_3 true (wrap64 (x12_4 + 1))) else (if x12_4 < (x7_2.length : Int) then (lambrequinref10_Parts.l3 k4 a0 x5_1 x7_2 x8_2 x9_3 x10_3 (rdOf false x7_2 x12_4) (wrap64 (x12_4 + 1))) else (none))) = some r := by rw [← hbq29] at H; exact H
                         have Nbq29 := am hbq29
                         clear hbq29
                         by_cases c30 : bq29 = true
                         ·subst c30
                          have H1 : (lambrequinref10_Parts.l3 k4 a0 x5_1 x7_2 x8_2 x9_3 x10_3 true (wrap64 (x12_4 + 1))) = some r := by rw [if_pos rfl] at H; exact H
                          clear H
                          have H := H1
                          clear H1
                          have H' := am H
                          clear H
                          obtain ⟨Ao31, co31, eo31⟩ := Kd.S_slice HO_5.out
                          subst eo31
                          have p112 : 0 ≤ (x10_3 : Int) := of_decide_eq_true (by first | (with_reducible assumption) | assumption)
                          have q112 : x10_3 < (x5_1.length : Int) := of_decide_eq_true (by first | (with_reducible assumption) | assumption)
                          obtain ⟨ad112, A112_0, c112_0, e112, hx112_0, hl112_0, hi112_0⟩ := at_L21 (Kd.S_reads' HO_5.out).2.2 x10_3 p112 q112
                          cases e112
                          obtain ⟨ce112, hce112, hMe112, hcc112⟩ := Kd.S_get HO_5.out [] x10_3 p112 (by first | exact q112 | exact of_decide_eq_true (by first | (with_reducible assumption) | assumption) | (have e_ := (Kd.S_reads' HO_5.out).1; omega))
                          obtain ⟨ve112_0, rfl, ge112_0⟩ := hMe112
                          have hv112_0 := hcc112 0 _ rfl
                          rw [Nat.add_zero, show ((Kd.slice 4 Kd.bool)).sz = 1 from rfl, Nat.mul_one] at hv112_0
                          replace hv112_0 := Option.some.inj (hv112_0.symm.trans hx112_0)
                          rw [hv112_0] at ge112_0
                          have HL112_0 := am (show Kd.R Kd.bool 4 _ _ _ _ (rd_L21 x5_1 x10_3) from ge112_0)
                          clear hv112_0 ge112_0
                          clear hcc112 hce112
                          have HR112_0 := am hi112_0
                          have HC112_0 := am hl112_0
                          clear hi112_0 hl112_0
                          replace p112 := eq_true p112
                          replace q112 := eq_true q112
                          have p113 : 0 ≤ (x12_4 : Int) := of_decide_eq_true (by first | (with_reducible assumption) | assumption)
                          have q113 : x12_4 < ((rd_L21 x5_1 x10_3).length : Int) := of_decide_eq_true (by first | (with_reducible assumption) | assumption)
                          obtain ⟨ad113, e113, hx113_0⟩ := Kd.at_bool (by repeat (first | (with_reducible exact HR112_0.out) | (with_reducible refine Kd.C_alloc ?_ _) | (with_reducible refine Kd.C_drewN ?_ _) | (with_reducible refine Kd.C_drew ?_) | exact HR112_0.out)) x12_4 p113 q113
                          (try rw [← Nbq25.out] at hx113_0)
                          (try rw [← Nbq29.out] at hx113_0)
                          cases e113
                          replace p113 := eq_true p113
                          replace q113 := eq_true q113
                          have p114 : 0 ≤ (x12_4 : Int) := of_decide_eq_true (by first | (with_reducible assumption) | assumption)
                          have q114 : x12_4 < (x5_1.length : Int) := of_decide_eq_true (by first | (with_reducible assumption) | assumption)
                          obtain ⟨ad114, A114_0, c114_0, e114, hx114_0, hl114_0, hi114_0⟩ := at_L21 (Kd.S_reads' HO_5.out).2.2 x12_4 p114 q114
                          obtain rfl : ad112 = ad114 := (by injection e114)
                          obtain ⟨ce114, hce114, hMe114, hcc114⟩ := Kd.S_get HO_5.out [] x12_4 p114 (by first | exact q114 | exact of_decide_eq_true (by first | (with_reducible assumption) | assumption) | (have e_ := (Kd.S_reads' HO_5.out).1; omega))
                          obtain ⟨ve114_0, rfl, ge114_0⟩ := hMe114
                          have hv114_0 := hcc114 0 _ rfl
                          rw [Nat.add_zero, show ((Kd.slice 4 Kd.bool)).sz = 1 from rfl, Nat.mul_one] at hv114_0
                          replace hv114_0 := Option.some.inj (hv114_0.symm.trans hx114_0)
                          rw [hv114_0] at ge114_0
                          have HL114_0 := am (show Kd.R Kd.bool 4 _ _ _ _ (rd_L21 x5_1 x12_4) from ge114_0)
                          clear hv114_0 ge114_0
                          clear hcc114 hce114
                          have HR114_0 := am hi114_0
                          have HC114_0 := am hl114_0
                          clear hi114_0 hl114_0
                          replace p114 := eq_true p114
                          replace q114 := eq_true q114
                          have p115 : 0 ≤ (x10_3 : Int) := of_decide_eq_true (by first | (with_reducible assumption) | assumption)
                          have q115 : x10_3 < ((rd_L21 x5_1 x12_4).length : Int) := of_decide_eq_true (by first | (with_reducible assumption) | assumption)
                          obtain ⟨ad115, e115, hx115_0⟩ := Kd.at_bool (by repeat (first | (with_reducible exact HR114_0.out) | (with_reducible refine Kd.C_alloc ?_ _) | (with_reducible refine Kd.C_drewN ?_ _) | (with_reducible refine Kd.C_drew ?_) | exact HR114_0.out)) x10_3 p115 q115
                          (try rw [← Nbq25.out] at hx115_0)
                          (try rw [← Nbq29.out] at hx115_0)
                          cases e115
                          replace p115 := eq_true p115
                          replace q115 := eq_true q115
                          go_wp2
                          go_roundg k4
                          case measure => have := HK1.out; have := HK2.out; have := HK3.out; have := HK4.out; omega
                          case rel => exact ⟨(true), (wrap64 (x12_4 + 1)), (by first | rfl | (simp; done) | (simp [*]; done)), (by first | rfl | (simp; done) | (simp [*]; done)), H', ⟨by have := HK1.out; have := HK2.out; have := HK3.out; have := HK4.out; omega⟩, ⟨by (with_reducible repeat (first | apply Kd.S_alloc | apply Kd.S_drewN | apply Kd.S_drew)); exact HO_5.out⟩, ⟨by (with_reducible repeat (first | apply Ra | apply Rn | apply Rd)); exact HO_7.out⟩, ⟨by (with_reducible repeat (first | apply Kd.S_alloc | apply Kd.S_drewN | apply Kd.S_drew)); exact HO_8.out⟩, ⟨by repeat (first | (with_reducible first | exact HB.out | apply lA | apply lN | apply lD) | exact HB.out)⟩⟩
                         ·replace c30 := Bool.eq_false_iff.mpr c30
                          subst c30
                          have H1 : (if x12_4 < (x7_2.length : Int) then (lambrequinref10_Parts.l3 k4 a0 x5_1 x7_2 x8_2 x9_3 x10_3 (rdOf false x7_2 x12_4) (wrap64 (x12_4 + 1))) else (none)) = some r := by rw [if_neg (show ¬ (false = true) by decide)] at H; exact H
                          clear H
                          have H := H1
                          clear H1
                          by_cases c32 : x12_4 < (x7_2.length : Int)
                          ·rw [if_pos c32] at H
                           have c32b0 : decide (x12_4 < (x7_2.length : Int)) = true := decide_eq_true c32
                           clear c32
                           have H' := am H
                           clear H
                           obtain ⟨Ao33, co33, eo33⟩ := Kd.S_slice HO_5.out
                           subst eo33
                           have p112 : 0 ≤ (x10_3 : Int) := of_decide_eq_true (by first | (with_reducible assumption) | assumption)
                           have q112 : x10_3 < (x5_1.length : Int) := of_decide_eq_true (by first | (with_reducible assumption) | assumption)
                           obtain ⟨ad112, A112_0, c112_0, e112, hx112_0, hl112_0, hi112_0⟩ := at_L21 (Kd.S_reads' HO_5.out).2.2 x10_3 p112 q112
                           cases e112
                           obtain ⟨ce112, hce112, hMe112, hcc112⟩ := Kd.S_get HO_5.out [] x10_3 p112 (by first | exact q112 | exact of_decide_eq_true (by first | (with_reducible assumption) | assumption) | (have e_ := (Kd.S_reads' HO_5.out).1; omega))
                           obtain ⟨ve112_0, rfl, ge112_0⟩ := hMe112
                           have hv112_0 := hcc112 0 _ rfl
                           rw [Nat.add_zero, show ((Kd.slice 4 Kd.bool)).sz = 1 from rfl, Nat.mul_one] at hv112_0
                           replace hv112_0 := Option.some.inj (hv112_0.symm.trans hx112_0)
                           rw [hv112_0] at ge112_0
                           have HL112_0 := am (show Kd.R Kd.bool 4 _ _ _ _ (rd_L21 x5_1 x10_3) from ge112_0)
                           clear hv112_0 ge112_0
                           clear hcc112 hce112
                           have HR112_0 := am hi112_0
                           have HC112_0 := am hl112_0
                           clear hi112_0 hl112_0
                           replace p112 := eq_true p112
                           replace q112 := eq_true q112
                           have p113 : 0 ≤ (x12_4 : Int) := of_decide_eq_true (by first | (with_reducible assumption) | assumption)
                           have q113 : x12_4 < ((rd_L21 x5_1 x10_3).length : Int) := of_decide_eq_true (by first | (with_reducible assumption) | assumption)
                           obtain ⟨ad113, e113, hx113_0⟩ := Kd.at_bool (by repeat (first | (with_reducible exact HR112_0.out) | (with_reducible refine Kd.C_alloc ?_ _) | (with_reducible refine Kd.C_drewN ?_ _) | (with_reducible refine Kd.C_drew ?_) | exact HR112_0.out)) x12_4 p113 q113
                           (try rw [← Nbq25.out] at hx113_0)
                           (try rw [← Nbq29.out] at hx113_0)
                           cases e113
                           replace p113 := eq_true p113
                           replace q113 := eq_true q113
                           have p114 : 0 ≤ (x12_4 : Int) := of_decide_eq_true (by first | (with_reducible assumption) | assumption)
                           have q114 : x12_4 < (x5_1.length : Int) := of_decide_eq_true (by first | (with_reducible assumption) | assumption)
                           obtain ⟨ad114, A114_0, c114_0, e114, hx114_0, hl114_0, hi114_0⟩ := at_L21 (Kd.S_reads' HO_5.out).2.2 x12_4 p114 q114
                           obtain rfl : ad112 = ad114 := (by injection e114)
                           obtain ⟨ce114, hce114, hMe114, hcc114⟩ := Kd.S_get HO_5.out [] x12_4 p114 (by first | exact q114 | exact of_decide_eq_true (by first | (with_reducible assumption) | assumption) | (have e_ := (Kd.S_reads' HO_5.out).1; omega))
                           obtain ⟨ve114_0, rfl, ge114_0⟩ := hMe114
                           have hv114_0 := hcc114 0 _ rfl
                           rw [Nat.add_zero, show ((Kd.slice 4 Kd.bool)).sz = 1 from rfl, Nat.mul_one] at hv114_0
                           replace hv114_0 := Option.some.inj (hv114_0.symm.trans hx114_0)
                           rw [hv114_0] at ge114_0
                           have HL114_0 := am (show Kd.R Kd.bool 4 _ _ _ _ (rd_L21 x5_1 x12_4) from ge114_0)
                           clear hv114_0 ge114_0
                           clear hcc114 hce114
                           have HR114_0 := am hi114_0
                           have HC114_0 := am hl114_0
                           clear hi114_0 hl114_0
                           replace p114 := eq_true p114
                           replace q114 := eq_true q114
                           have p115 : 0 ≤ (x10_3 : Int) := of_decide_eq_true (by first | (with_reducible assumption) | assumption)
                           have q115 : x10_3 < ((rd_L21 x5_1 x12_4).length : Int) := of_decide_eq_true (by first | (with_reducible assumption) | assumption)
                           obtain ⟨ad115, e115, hx115_0⟩ := Kd.at_bool (by repeat (first | (with_reducible exact HR114_0.out) | (with_reducible refine Kd.C_alloc ?_ _) | (with_reducible refine Kd.C_drewN ?_ _) | (with_reducible refine Kd.C_drew ?_) | exact HR114_0.out)) x10_3 p115 q115
                           (try rw [← Nbq25.out] at hx115_0)
                           (try rw [← Nbq29.out] at hx115_0)
                           cases e115
                           replace p115 := eq_true p115
                           replace q115 := eq_true q115
                           have p116 : 0 ≤ (x12_4 : Int) := of_decide_eq_true (by first | (with_reducible assumption) | assumption)
                           have q116 : x12_4 < (x7_2.length : Int) := of_decide_eq_true (by first | (with_reducible assumption) | assumption)
                           obtain ⟨ad116, e116, hx116_0⟩ := Kd.at_bool (Kd.R_reads' HO_7.out).2.2 x12_4 p116 q116
                           (try rw [← Nbq25.out] at hx116_0)
                           (try rw [← Nbq29.out] at hx116_0)
                           obtain rfl : ad111 = ad116 := (by injection e116)
                           replace p116 := eq_true p116
                           replace q116 := eq_true q116
                           go_wp2
                           go_roundg k4
                           case measure => have := HK1.out; have := HK2.out; have := HK3.out; have := HK4.out; omega
                           case rel => exact ⟨(rdOf false x7_2 x12_4), (wrap64 (x12_4 + 1)), (by first | rfl | (simp; done) | (simp [*]; done)), (by first | rfl | (simp; done) | (simp [*]; done)), H', ⟨by have := HK1.out; have := HK2.out; have := HK3.out; have := HK4.out; omega⟩, ⟨by (with_reducible repeat (first | apply Kd.S_alloc | apply Kd.S_drewN | apply Kd.S_drew)); exact HO_5.out⟩, ⟨by (with_reducible repeat (first | apply Ra | apply Rn | apply Rd)); exact HO_7.out⟩, ⟨by (with_reducible repeat (first | apply Kd.S_alloc | apply Kd.S_drewN | apply Kd.S_drew)); exact HO_8.out⟩, ⟨by repeat (first | (with_reducible first | exact HB.out | apply lA | apply lN | apply lD) | exact HB.out)⟩⟩
                          ·rw [if_neg c32] at H
                           exact absurd H (by simp)
                        ·rw [if_neg c28] at H
                         exact absurd H (by simp)
                       ·rw [if_neg c27] at H
                        exact absurd H (by simp)
                      ·replace c26 := Bool.eq_false_iff.mpr c26
                       subst c26
                       have H1 : (lambrequinref10_Parts.l3 k4 a0 x5_1 x7_2 x8_2 x9_3 x10_3 true (wrap64 (x12_4 + 1))) = some r := by rw [if_neg (show ¬ (false = true) by decide)] at H; exact H
                       clear H
                       have H := H1
                       clear H1
                       have H' := am H
                       clear H
                       obtain ⟨Ao34, co34, eo34⟩ := Kd.S_slice HO_5.out
                       subst eo34
                       have p112 : 0 ≤ (x10_3 : Int) := of_decide_eq_true (by first | (with_reducible assumption) | assumption)
                       have q112 : x10_3 < (x5_1.length : Int) := of_decide_eq_true (by first | (with_reducible assumption) | assumption)
                       obtain ⟨ad112, A112_0, c112_0, e112, hx112_0, hl112_0, hi112_0⟩ := at_L21 (Kd.S_reads' HO_5.out).2.2 x10_3 p112 q112
                       cases e112
                       obtain ⟨ce112, hce112, hMe112, hcc112⟩ := Kd.S_get HO_5.out [] x10_3 p112 (by first | exact q112 | exact of_decide_eq_true (by first | (with_reducible assumption) | assumption) | (have e_ := (Kd.S_reads' HO_5.out).1; omega))
                       obtain ⟨ve112_0, rfl, ge112_0⟩ := hMe112
                       have hv112_0 := hcc112 0 _ rfl
                       rw [Nat.add_zero, show ((Kd.slice 4 Kd.bool)).sz = 1 from rfl, Nat.mul_one] at hv112_0
                       replace hv112_0 := Option.some.inj (hv112_0.symm.trans hx112_0)
                       rw [hv112_0] at ge112_0
                       have HL112_0 := am (show Kd.R Kd.bool 4 _ _ _ _ (rd_L21 x5_1 x10_3) from ge112_0)
                       clear hv112_0 ge112_0
                       clear hcc112 hce112
                       have HR112_0 := am hi112_0
                       have HC112_0 := am hl112_0
                       clear hi112_0 hl112_0
                       replace p112 := eq_true p112
                       replace q112 := eq_true q112
                       have p113 : 0 ≤ (x12_4 : Int) := of_decide_eq_true (by first | (with_reducible assumption) | assumption)
                       have q113 : x12_4 < ((rd_L21 x5_1 x10_3).length : Int) := of_decide_eq_true (by first | (with_reducible assumption) | assumption)
                       obtain ⟨ad113, e113, hx113_0⟩ := Kd.at_bool (by repeat (first | (with_reducible exact HR112_0.out) | (with_reducible refine Kd.C_alloc ?_ _) | (with_reducible refine Kd.C_drewN ?_ _) | (with_reducible refine Kd.C_drew ?_) | exact HR112_0.out)) x12_4 p113 q113
                       (try rw [← Nbq25.out] at hx113_0)
                       cases e113
                       replace p113 := eq_true p113
                       replace q113 := eq_true q113
                       go_wp2
                       go_roundg k4
                       case measure => have := HK1.out; have := HK2.out; have := HK3.out; have := HK4.out; omega
                       case rel => exact ⟨(true), (wrap64 (x12_4 + 1)), (by first | rfl | (simp; done) | (simp [*]; done)), (by first | rfl | (simp; done) | (simp [*]; done)), H', ⟨by have := HK1.out; have := HK2.out; have := HK3.out; have := HK4.out; omega⟩, ⟨by (with_reducible repeat (first | apply Kd.S_alloc | apply Kd.S_drewN | apply Kd.S_drew)); exact HO_5.out⟩, ⟨by (with_reducible repeat (first | apply Ra | apply Rn | apply Rd)); exact HO_7.out⟩, ⟨by (with_reducible repeat (first | apply Kd.S_alloc | apply Kd.S_drewN | apply Kd.S_drew)); exact HO_8.out⟩, ⟨by repeat (first | (with_reducible first | exact HB.out | apply lA | apply lN | apply lD) | exact HB.out)⟩⟩
                     ·rw [if_neg c24] at H
                      exact absurd H (by simp)
                    ·rw [if_neg c23] at H
                     exact absurd H (by simp)
                   ·rw [if_neg c22] at H
                    exact absurd H (by simp)
                  ·rw [if_neg c21] at H
                   exact absurd H (by simp)
                 ·replace c20 := Bool.eq_false_iff.mpr c20
                  subst c20
                  have H1 : (lambrequinref10_Parts.l3 k4 a0 x5_1 x7_2 x8_2 x9_3 x10_3 false (wrap64 (x12_4 + 1))) = some r := by rw [if_neg (show ¬ (false = true) by decide)] at H; exact H
                  clear H
                  have H := H1
                  clear H1
                  have H' := am H
                  clear H
                  go_wp2
                  go_roundg k4
                  case measure => have := HK1.out; have := HK2.out; have := HK3.out; have := HK4.out; omega
                  case rel => exact ⟨(false), (wrap64 (x12_4 + 1)), (by first | rfl | (simp; done) | (simp [*]; done)), (by first | rfl | (simp; done) | (simp [*]; done)), H', ⟨by have := HK1.out; have := HK2.out; have := HK3.out; have := HK4.out; omega⟩, ⟨by (with_reducible repeat (first | apply Kd.S_alloc | apply Kd.S_drewN | apply Kd.S_drew)); exact HO_5.out⟩, ⟨by (with_reducible repeat (first | apply Ra | apply Rn | apply Rd)); exact HO_7.out⟩, ⟨by (with_reducible repeat (first | apply Kd.S_alloc | apply Kd.S_drewN | apply Kd.S_drew)); exact HO_8.out⟩, ⟨by repeat (first | (with_reducible first | exact HB.out | apply lA | apply lN | apply lD) | exact HB.out)⟩⟩
                ·rw [if_neg c19] at H
                 have c19b0 : decide (x12_4 < a0) = false := decide_eq_false c19
                 clear c19
                 by_cases c35 : x11_4 = true
                 ·subst c35
                  have H1 : (lambrequinref10_Parts.l2 k4 a0 x5_1 x7_2 x8_2 x10_3 (wrap64 (x10_3 - 1))) = some r := by rw [if_pos rfl] at H; exact H
                  clear H
                  have H := H1
                  clear H1
                  have H' := am H
                  clear H
                  go_wp2
                  go_roundg k4
                  case measure => have := HK1.out; have := HK2.out; have := HK3.out; have := HK4.out; omega
                  case rel => exact ⟨(x10_3), (wrap64 (x10_3 - 1)), (by first | rfl | (simp; done) | (simp [*]; done)), (by first | rfl | (simp; done) | (simp [*]; done)), H', ⟨by have := HK1.out; have := HK2.out; have := HK3.out; have := HK4.out; omega⟩, ⟨by (with_reducible repeat (first | apply Kd.S_alloc | apply Kd.S_drewN | apply Kd.S_drew)); exact HO_5.out⟩, ⟨by (with_reducible repeat (first | apply Ra | apply Rn | apply Rd)); exact HO_7.out⟩, ⟨by (with_reducible repeat (first | apply Kd.S_alloc | apply Kd.S_drewN | apply Kd.S_drew)); exact HO_8.out⟩, ⟨by repeat (first | (with_reducible first | exact HB.out | apply lA | apply lN | apply lD) | exact HB.out)⟩⟩
                 ·replace c35 := Bool.eq_false_iff.mpr c35
                  subst c35
                  have H1 : (lambrequinref10_Parts.l2 k4 a0 x5_1 x7_2 x8_2 x9_3 (wrap64 (x10_3 - 1))) = some r := by rw [if_neg (show ¬ (false = true) by decide)] at H; exact H
                  clear H
                  have H := H1
                  clear H1
                  have H' := am H
                  clear H
                  go_wp2
                  go_roundg k4
                  case measure => have := HK1.out; have := HK2.out; have := HK3.out; have := HK4.out; omega
                  case rel => exact ⟨(x9_3), (wrap64 (x10_3 - 1)), (by first | rfl | (simp; done) | (simp [*]; done)), (by first | rfl | (simp; done) | (simp [*]; done)), H', ⟨by have := HK1.out; have := HK2.out; have := HK3.out; have := HK4.out; omega⟩, ⟨by (with_reducible repeat (first | apply Kd.S_alloc | apply Kd.S_drewN | apply Kd.S_drew)); exact HO_5.out⟩, ⟨by (with_reducible repeat (first | apply Ra | apply Rn | apply Rd)); exact HO_7.out⟩, ⟨by (with_reducible repeat (first | apply Kd.S_alloc | apply Kd.S_drewN | apply Kd.S_drew)); exact HO_8.out⟩, ⟨by repeat (first | (with_reducible first | exact HB.out | apply lA | apply lN | apply lD) | exact HB.out)⟩⟩
             ·rw [if_neg c17] at H
              exact absurd H (by simp)
            ·rw [if_neg c16] at H
             exact absurd H (by simp)
           ·rw [if_neg c15] at H
            have c15b0 : decide (0 ≤ x10_3) = false := decide_eq_false c15
            clear c15
            by_cases c36 : x9_3 < 0
            ·rw [if_pos c36] at H
             have c36b0 : decide (x9_3 < 0) = true := decide_eq_true c36
             clear c36
             obtain rfl := Option.some.inj H
             go_wp2
             go_ret
             exact ⟨_, by first | rfl | (simp [errW_none, errW_some] <;> rfl) | (simp [*, errW_none, errW_some] <;> rfl), by (with_reducible repeat (first | apply Kd.S_alloc | apply Kd.S_drewN | apply Kd.S_drew)); exact HO_8.out, by repeat (first | (with_reducible first | exact HB.out | apply lA | apply lN | apply lD) | exact HB.out)⟩
            ·rw [if_neg c36] at H
             have c36b0 : decide (x9_3 < 0) = false := decide_eq_false c36
             clear c36
             have H' := am H
             clear H
             go_wp2
             go_loopg [13, 14] k3 (fun kq v13 v14 w' => ∃ (x7_4 : List Bool) (x13_4 : List Int) (x14_4 : Int), v14 = .int .i64 x14_4 ∧ Aside0 (lambrequinref10_Parts.l4 kq a0 x5_1 x7_4 x8_2 x9_3 x13_4 x14_4 = some r) ∧ Aside0 (kq ≤ k3) ∧ Aside0 (Kd.S (Kd.slice 4 Kd.bool) 40 w' w.heap.size (fun k_ => some k_ ≠ (v109 : Value).ownBlock) u5 x5_1) ∧ Aside0 (Kd.R Kd.bool 4 w' w.heap.size (fun _ => True) v109 x7_4) ∧ Aside0 (Kd.S (Kd.slice 3 (Kd.int .i64)) 35 w' w.heap.size (fun k_ => some k_ ≠ (v13 : Value).ownBlock) u8 x8_2) ∧ Aside0 (Kd.R (Kd.int .i64) 3 w' w.heap.size (fun _ => True) v13 x13_4) ∧ Aside0 (Below w.heap.size w w'))
             case atStart => exact ⟨(x7_2), (([] : List Int)), (0), (by first | rfl | (simp; done) | (simp [*]; done)), H', ⟨Nat.le_refl _⟩, ⟨by (with_reducible repeat (first | apply Kd.S_alloc | apply Kd.S_drewN | apply Kd.S_drew)); exact HO_5.out⟩, ⟨by (with_reducible repeat (first | apply Ra | apply Rn | apply Rd)); exact HO_7.out⟩, ⟨by (with_reducible repeat (first | apply Kd.S_alloc | apply Kd.S_drewN | apply Kd.S_drew)); exact Kd.S_mono HO_8.out (fun _ hk => (by simp [Value.ownBlock]))⟩, ⟨by first | exact Kd.R_nil _ _ _ _ _ | exact Kd.N_nil _ _ _ _ _ | exact Kd.V_nil _ _ _ _ _ | exact Kd.Q_nil _ _ _ _ _ | exact Kd.S_nil _ _ _ _ _⟩, ⟨by repeat (first | (with_reducible first | exact HB.out | apply lA | apply lN | apply lD) | exact HB.out)⟩⟩
             case round =>
              clear H'
              try clear c1
              try clear p1
              try clear q1
              try clear hx1
              try clear c2
              try clear p2
              try clear q2
              try clear c3
              try clear c4
              try clear c5
              try clear c5b0
              try clear p6
              try clear c7
              try clear c11
              try clear c11b0
              try clear c11b1
              try clear p11
              try clear q11
              try clear hx11
              try clear c12
              try clear c12b0
              try clear c12b1
              try clear c15
              try clear c15b0
              try clear c16
              try clear c16b0
              try clear c17
              try clear c17b0
              try clear c19
              try clear c19b0
              try clear c20
              try clear c21
              try clear c21b0
              try clear c22
              try clear c22b0
              try clear c23
              try clear c23b0
              try clear c24
              try clear c24b0
              try clear q25
              try clear c26
              try clear c27
              try clear c27b0
              try clear c28
              try clear c28b0
              try clear q29
              try clear c30
              try clear c32
              try clear c32b0
              try clear c35
              try clear c36
              try clear c36b0
              try clear hx111_0
              try clear hx112_0
              try clear hx113_0
              try clear hx114_0
              try clear hx115_0
              try clear hx116_0
              try clear p1
              try clear p11
              try clear p111
              try clear p112
              try clear p113
              try clear p114
              try clear p115
              try clear p116
              try clear p2
              try clear p6
              try clear q1
              try clear q11
              try clear q111
              try clear q112
              try clear q113
              try clear q114
              try clear q115
              try clear q116
              obtain ⟨x7_4, x13_4, x14_4, rfl, HA, HK4, HO_5, HO_7, HO_8, HO_13, HB⟩ := hrel
              cases gk with
              | zero => exact absurd HA.out (by simp [lambrequinref10_Parts.l4])
              | succ k4 =>
               have H := HA.out
               clear HA
               simp only [lambrequinref10_Parts.l4] at H
               by_cases c37 : x14_4 < a0
               ·rw [if_pos c37] at H
                have c37b0 : decide (x14_4 < a0) = true := decide_eq_true c37
                clear c37
                by_cases c38 : 0 ≤ x9_3
                ·rw [if_pos c38] at H
                 have c38b0 : decide (0 ≤ x9_3) = true := decide_eq_true c38
                 clear c38
                 by_cases c39 : x9_3 < (x5_1.length : Int)
                 ·rw [if_pos c39] at H
                  have c39b0 : decide (x9_3 < (x5_1.length : Int)) = true := decide_eq_true c39
                  clear c39
                  by_cases c40 : 0 ≤ x14_4
                  ·rw [if_pos c40] at H
                   have c40b0 : decide (0 ≤ x14_4) = true := decide_eq_true c40
                   clear c40
                   by_cases c41 : x14_4 < ((rd_L21 x5_1 x9_3).length : Int)
                   ·rw [if_pos c41] at H
                    have c41b0 : decide (x14_4 < ((rd_L21 x5_1 x9_3).length : Int)) = true := decide_eq_true c41
                    clear c41
                    obtain ⟨bq42, hbq42⟩ : ∃ b_ : Bool, b_ = (rdOf false (rd_L21 x5_1 x9_3) x14_4) := ⟨_, rfl⟩
                    replace H : (if bq42 = true then (if x14_4 < (x5_1.length : Int) then (if x9_3 < ((rd_L21 x5_1 x14_4).length : Int) then (if rdOf false (rd_L21 x5_1 x14_4) x9_3 = true then (if x13_4.length < 17592186044416 then (if x14_4 < (x7_4.length : Int) then (lambrequinref10_Parts.l4 k4 a0 x5_1 (x7_4.set (x14_4 : Int).toNat true) x8_2 x9_3 (x13_4 ++ [x14_4]) (wrap64 (x14_4 + 1))) else (none)) else (none)) else (lambrequinref10_Parts.l4 k4 a0 x5_1 x7_4 x8_2 x9_3 x13_4 (wrap64 (x14_4 + 1)))) else (none)) else (none)) else (lambrequinref10_Parts.l4 k4 a0 x5_1 x7_4 x8_2 x9_3 x13_4 (wrap64 (x14_4 + 1)))) = some r := by rw [← hbq42] at H; exact H
                    have Nbq42 := am hbq42
                    clear hbq42
                    by_cases c43 : bq42 = true
                    ·subst c43
                     have H1 : (if x14_4 < (x5_1.length : Int) then (if x9_3 < ((rd_L21 x5_1 x14_4).length : Int) then (if rdOf false (rd_L21 x5_1 x14_4) x9_3 = true then (if x13_4.length < 17592186044416 then (if x14_4 < (x7_4.length : Int) then (lambrequinref10_Parts.l4 k4 a0 x5_1 (x7_4.set (x14_4 : Int).toNat true) x8_2 x9_3 (x13_4 ++ [x14_4]) (wrap64 (x14_4 + 1))) else (none)) else (none)) else (lambrequinref10_Parts.l4 k4 a0 x5_1 x7_4 x8_2 x9_3 x13_4 (wrap64 (x14_4 + 1)))) else (none)) else (none)) = some r := by rw [if_pos rfl] at H; exact H
                     clear H
                     have H := H1
                     clear H1
                     by_cases c44 : x14_4 < (x5_1.length : Int)
                     ·rw [if_pos c44] at H
                      have c44b0 : decide (x14_4 < (x5_1.length : Int)) = true := decide_eq_true c44
                      clear c44
                      by_cases c45 : x9_3 < ((rd_L21 x5_1 x14_4).length : Int)
                      ·rw [if_pos c45] at H
                       have c45b0 : decide (x9_3 < ((rd_L21 x5_1 x14_4).length : Int)) = true := decide_eq_true c45
                       clear c45
                       obtain ⟨bq46, hbq46⟩ : ∃ b_ : Bool, b_ = (rdOf false (rd_L21 x5_1 x14_4) x9_3) := ⟨_, rfl⟩
                       replace H : (if bq46 = true then (if x13_4.length < 17592186044416 then (if x14_4 < (x7_4.length : Int) then (lambrequinref10_Parts.l4 k4 a0 x5_1 (x7_4.set (x14_4 : Int).toNat true) x8_2 x9_3 (x13_4 ++ [x14_4]) (wrap64 (x14_4 + 1))) else (none)) else (none)) else (lambrequinref10_Parts.l4 k4 a0 x5_1 x7_4 x8_2 x9_3 x13_4 (wrap64 (x14_4 + 1)))) = some r := by rw [← hbq46] at H; exact H
                       have Nbq46 := am hbq46
                       clear hbq46
                       by_cases c47 : bq46 = true
                       ·subst c47
                        have H1 : (if x13_4.length < 17592186044416 then (if x14_4 < (x7_4.length : Int) then (lambrequinref10_Parts.l4 k4 a0 x5_1 (x7_4.set (x14_4 : Int).toNat true) x8_2 x9_3 (x13_4 ++ [x14_4]) (wrap64 (x14_4 + 1))) else (none)) else (none)) = some r := by rw [if_pos rfl] at H; exact H
                        clear H
                        have H := H1
                        clear H1
                        by_cases c48 : x13_4.length < 17592186044416
                        ·rw [if_pos c48] at H
                         have LMc48 := am c48
                         clear c48
                         obtain ⟨y121, hy121⟩ : ∃ y_ : List Int, y_ = (x13_4 ++ [x14_4]) := ⟨_, rfl⟩
                         replace H : (if x14_4 < (x7_4.length : Int) then (lambrequinref10_Parts.l4 k4 a0 x5_1 (x7_4.set (x14_4 : Int).toNat true) x8_2 x9_3 y121 (wrap64 (x14_4 + 1))) else (none)) = some r := by first | (rw [hy121]; with_reducible exact H) | (have H2_ := (Option.bind_some _ _).symm.trans H; rw [hy121]; with_reducible exact H2_) | (have H2_ := (Option.bind_some _ _).symm.trans H; with_reducible exact H2_) | with_reducible exact H | (rw [hy121]; exact H) | exact H
                         have Ny121 := am hy121
                         clear hy121
                         by_cases c49 : x14_4 < (x7_4.length : Int)
                         ·rw [if_pos c49] at H
                          have c49b0 : decide (x14_4 < (x7_4.length : Int)) = true := decide_eq_true c49
                          clear c49
                          obtain ⟨y124, hy124⟩ : ∃ y_ : List Bool, y_ = (x7_4.set (x14_4 : Int).toNat true) := ⟨_, rfl⟩
                          replace H : (lambrequinref10_Parts.l4 k4 a0 x5_1 y124 x8_2 x9_3 y121 (wrap64 (x14_4 + 1))) = some r := by first | (rw [hy124]; with_reducible exact H) | (have H2_ := (Option.bind_some _ _).symm.trans H; rw [hy124]; with_reducible exact H2_) | (have H2_ := (Option.bind_some _ _).symm.trans H; with_reducible exact H2_) | with_reducible exact H | (rw [hy124]; exact H) | exact H
                          have Ny124 := am hy124
                          clear hy124
                          have H' := am H
                          clear H
                          obtain ⟨Ao51, co51, eo51⟩ := Kd.S_slice HO_5.out
                          subst eo51
                          have p117 : 0 ≤ (x9_3 : Int) := of_decide_eq_true (by first | (with_reducible assumption) | assumption)
                          have q117 : x9_3 < (x5_1.length : Int) := of_decide_eq_true (by first | (with_reducible assumption) | assumption)
                          obtain ⟨ad117, A117_0, c117_0, e117, hx117_0, hl117_0, hi117_0⟩ := at_L21 (Kd.S_reads' HO_5.out).2.2 x9_3 p117 q117
                          cases e117
                          obtain ⟨ce117, hce117, hMe117, hcc117⟩ := Kd.S_get HO_5.out [] x9_3 p117 (by first | exact q117 | exact of_decide_eq_true (by first | (with_reducible assumption) | assumption) | (have e_ := (Kd.S_reads' HO_5.out).1; omega))
                          obtain ⟨ve117_0, rfl, ge117_0⟩ := hMe117
                          have hv117_0 := hcc117 0 _ rfl
                          rw [Nat.add_zero, show ((Kd.slice 4 Kd.bool)).sz = 1 from rfl, Nat.mul_one] at hv117_0
                          replace hv117_0 := Option.some.inj (hv117_0.symm.trans hx117_0)
                          rw [hv117_0] at ge117_0
                          have HL117_0 := am (show Kd.R Kd.bool 4 _ _ _ _ (rd_L21 x5_1 x9_3) from ge117_0)
                          clear hv117_0 ge117_0
                          clear hcc117 hce117
                          have HR117_0 := am hi117_0
                          have HC117_0 := am hl117_0
                          clear hi117_0 hl117_0
                          replace p117 := eq_true p117
                          replace q117 := eq_true q117
                          have p118 : 0 ≤ (x14_4 : Int) := of_decide_eq_true (by first | (with_reducible assumption) | assumption)
                          have q118 : x14_4 < ((rd_L21 x5_1 x9_3).length : Int) := of_decide_eq_true (by first | (with_reducible assumption) | assumption)
                          obtain ⟨ad118, e118, hx118_0⟩ := Kd.at_bool (by repeat (first | (with_reducible exact HR117_0.out) | (with_reducible refine Kd.C_alloc ?_ _) | (with_reducible refine Kd.C_drewN ?_ _) | (with_reducible refine Kd.C_drew ?_) | exact HR117_0.out)) x14_4 p118 q118
                          (try rw [← Nbq42.out] at hx118_0)
                          (try rw [← Nbq46.out] at hx118_0)
                          cases e118
                          replace p118 := eq_true p118
                          replace q118 := eq_true q118
                          have p119 : 0 ≤ (x14_4 : Int) := of_decide_eq_true (by first | (with_reducible assumption) | assumption)
                          have q119 : x14_4 < (x5_1.length : Int) := of_decide_eq_true (by first | (with_reducible assumption) | assumption)
                          obtain ⟨ad119, A119_0, c119_0, e119, hx119_0, hl119_0, hi119_0⟩ := at_L21 (Kd.S_reads' HO_5.out).2.2 x14_4 p119 q119
                          obtain rfl : ad117 = ad119 := (by injection e119)
                          obtain ⟨ce119, hce119, hMe119, hcc119⟩ := Kd.S_get HO_5.out [] x14_4 p119 (by first | exact q119 | exact of_decide_eq_true (by first | (with_reducible assumption) | assumption) | (have e_ := (Kd.S_reads' HO_5.out).1; omega))
                          obtain ⟨ve119_0, rfl, ge119_0⟩ := hMe119
                          have hv119_0 := hcc119 0 _ rfl
                          rw [Nat.add_zero, show ((Kd.slice 4 Kd.bool)).sz = 1 from rfl, Nat.mul_one] at hv119_0
                          replace hv119_0 := Option.some.inj (hv119_0.symm.trans hx119_0)
                          rw [hv119_0] at ge119_0
                          have HL119_0 := am (show Kd.R Kd.bool 4 _ _ _ _ (rd_L21 x5_1 x14_4) from ge119_0)
                          clear hv119_0 ge119_0
                          clear hcc119 hce119
                          have HR119_0 := am hi119_0
                          have HC119_0 := am hl119_0
                          clear hi119_0 hl119_0
                          replace p119 := eq_true p119
                          replace q119 := eq_true q119
                          have p120 : 0 ≤ (x9_3 : Int) := of_decide_eq_true (by first | (with_reducible assumption) | assumption)
                          have q120 : x9_3 < ((rd_L21 x5_1 x14_4).length : Int) := of_decide_eq_true (by first | (with_reducible assumption) | assumption)
                          obtain ⟨ad120, e120, hx120_0⟩ := Kd.at_bool (by repeat (first | (with_reducible exact HR119_0.out) | (with_reducible refine Kd.C_alloc ?_ _) | (with_reducible refine Kd.C_drewN ?_ _) | (with_reducible refine Kd.C_drew ?_) | exact HR119_0.out)) x9_3 p120 q120
                          (try rw [← Nbq42.out] at hx120_0)
                          (try rw [← Nbq46.out] at hx120_0)
                          cases e120
                          replace p120 := eq_true p120
                          replace q120 := eq_true q120
                          go_wp2_with (first | ((with_reducible refine gate_builtin (b := .append) (xs := #[.tmp 101, .tmp 103]) rfl ?_); at_builtin; refine Kd.R_append (Kd.int .i64) (w0 := w) w.heap.size rfl (.tmp 101) (.tmp 103) 35 3 (.int .i64 0) 8 rfl Try.underlying35 info3 rfl (by decide) (by omega) u13 x13_4 x14_4 [.int .i64 x14_4] (fun _ => True) (fun _ => False) rfl rfl ?aP (fun _ hk => hk.elim) ?aF ?aO ?aB ?aS ?aL ?_; (case aP => exact rfl); (case aB => exact (by repeat (first | (with_reducible first | exact HB.out | apply lA | apply lN | apply lD) | exact HB.out))); (case aF => exact (fun _ _ => trivial)); (case aO => exact (by (with_reducible repeat (first | apply Ra | apply Rn | apply Rd)); exact HO_13.out)); (case aS => exact (below_size (by repeat (first | (with_reducible first | exact HB.out | apply lA | apply lN | apply lD) | exact HB.out)))); (case aL => have := LMc48.out; omega); intro v122 w52 ho hb hg hat; rw [← Ny121.out] at ho; replace HO_5 := am (Kd.S_over' (by (with_reducible repeat (first | apply Kd.S_alloc | apply Kd.S_drewN | apply Kd.S_drew)); exact HO_5.out) (Kd.R_typed (by (with_reducible repeat (first | apply Ra | apply Rn | apply Rd)); exact HO_13.out)) (by decide) hg); replace HO_7 := am (Kd.R_over' (by (with_reducible repeat (first | apply Ra | apply Rn | apply Rd)); exact HO_7.out) (Kd.R_typed (by (with_reducible repeat (first | apply Ra | apply Rn | apply Rd)); exact HO_13.out)) (by decide) hg); replace HO_8 := am (Kd.S_after (ok := (fun _ => True)) (by (with_reducible repeat (first | apply Kd.S_alloc | apply Kd.S_drewN | apply Kd.S_drew)); exact Kd.S_mono HO_8.out (fun _ hk => ⟨trivial, hk⟩)) hg hat); replace HL117_0 := am (Kd.R_over' (by (with_reducible repeat (first | apply Ra | apply Rn | apply Rd)); exact HL117_0.out) (Kd.R_typed (by (with_reducible repeat (first | apply Ra | apply Rn | apply Rd)); exact HO_13.out)) (by decide) hg); replace HL119_0 := am (Kd.R_over' (by (with_reducible repeat (first | apply Ra | apply Rn | apply Rd)); exact HL119_0.out) (Kd.R_typed (by (with_reducible repeat (first | apply Ra | apply Rn | apply Rd)); exact HO_13.out)) (by decide) hg); replace HB := am (hb); have HO123 := am (ho); clear HO_13; clear ho hb hg hat; have p50 : 0 ≤ (x14_4 : Int) := of_decide_eq_true (by first | (with_reducible assumption) | assumption); have q50 : (x14_4 : Int) < ((x7_4.length : Int) : Int) := of_decide_eq_true (by first | (with_reducible assumption) | assumption); obtain ⟨go50, co50, eo50, gb50, gl50, cl50, HG50⟩ := Kd.R_form HO_7.out (by omega); (first | cases eo50 | (injection eo50 with ea_ en_ ec_; (first | subst ea_ | (injection ea_ with ea_; subst ea_)); subst ec_; clear en_)); have GB50 := am gb50; have GG50 := am HG50; clear gb50 gl50 HG50; obtain ⟨hx50_0, hf50_0⟩ := Kd.R_celln false HO_7.out (x14_4 : Int) p50 q50; replace p50 := eq_true p50; replace q50 := eq_true q50; obtain ⟨hy53_, hz53_⟩ := Kd.R_celln false HO_7.out (x14_4 : Int) (of_decide_eq_true (by first | (with_reducible assumption) | assumption)) (of_decide_eq_true (by first | (with_reducible assumption) | assumption)); have HP53 := Kd.R_putg HO_7.out (x14_4 : Int) true) | ((with_reducible refine gate_store (t := 4) (p := 107) rfl ?_); refine store_event (t := 4) (p := 107) (v := ?vo_w54) (w1 := (w52.setCell ⟨go50, (x14_4 : Int).toNat, none⟩ (.bool true))) ?hg ?ho ?hn ?hr ?_; (case ho => rfl); (case hg => rfl); (case hn => rfl); (case hr => first | (go_simp; done) | (go_simp; rfl)); intro w54 hw; have hg : w52.grownBy w54 (some go50) := (by rw [hw]; exact HP53.2); have hp_ : Kd.R Kd.bool 4 w54 w.heap.size (fun _ => True) (.slice (some ⟨go50, 0, none⟩) x7_4.length co50) y124 := (by rw [hw, Ny124.out]; exact HP53.1); clear HP53; replace HO_5 := am (Kd.S_after (v := (.slice (some ⟨go50, 0, none⟩) x7_4.length co50)) (v1 := (.slice (some ⟨go50, 0, none⟩) x7_4.length co50)) (ok := (fun _ => True)) (by (with_reducible repeat (first | apply Kd.S_alloc | apply Kd.S_drewN | apply Kd.S_drew)); exact Kd.S_mono HO_5.out (fun _ hk => ⟨trivial, hk⟩)) hg (.inl rfl)); replace HO_8 := am (Kd.S_over' (v := (.slice (some ⟨go50, 0, none⟩) x7_4.length co50)) (by (with_reducible repeat (first | apply Kd.S_alloc | apply Kd.S_drewN | apply Kd.S_drew)); exact HO_8.out) (Kd.R_typed HO_7.out) (by decide) hg); replace HL117_0 := am (Kd.R_after (v := (.slice (some ⟨go50, 0, none⟩) x7_4.length co50)) (v1 := (.slice (some ⟨go50, 0, none⟩) x7_4.length co50)) (ok := (fun k_ => some k_ ≠ (.slice (some ad117) x5_1.length co51 : Value).ownBlock)) (by (with_reducible repeat (first | apply Ra | apply Rn | apply Rd)); exact Kd.R_mono HL117_0.out (fun _ hk => ⟨hk.2, hk.1⟩)) hg (.inl rfl)); replace HL119_0 := am (Kd.R_after (v := (.slice (some ⟨go50, 0, none⟩) x7_4.length co50)) (v1 := (.slice (some ⟨go50, 0, none⟩) x7_4.length co50)) (ok := (fun k_ => some k_ ≠ (.slice (some ad117) x5_1.length co51 : Value).ownBlock)) (by (with_reducible repeat (first | apply Ra | apply Rn | apply Rd)); exact Kd.R_mono HL119_0.out (fun _ hk => ⟨hk.2, hk.1⟩)) hg (.inl rfl)); replace HO123 := am (Kd.R_over' (v := (.slice (some ⟨go50, 0, none⟩) x7_4.length co50)) (by (with_reducible repeat (first | apply Ra | apply Rn | apply Rd)); exact HO123.out) (Kd.R_typed HO_7.out) (by decide) hg); replace HO_7 := am (hp_); replace HB := am ((by rw [hw]; exact below_set (HB.out) GB50.out : Below w.heap.size w w54)); clear hg hw hp_))
                          go_roundg k4
                          case measure => have := HK1.out; have := HK2.out; have := HK3.out; have := HK4.out; omega
                          case rel => exact ⟨(y124), (y121), (wrap64 (x14_4 + 1)), (by first | rfl | (simp; done) | (simp [*]; done)), H', ⟨by have := HK1.out; have := HK2.out; have := HK3.out; have := HK4.out; omega⟩, ⟨by (with_reducible repeat (first | apply Kd.S_alloc | apply Kd.S_drewN | apply Kd.S_drew)); exact Kd.S_mono HO_5.out (fun _ hk => hk.2)⟩, ⟨by (with_reducible repeat (first | apply Ra | apply Rn | apply Rd)); exact HO_7.out⟩, ⟨by (with_reducible repeat (first | apply Kd.S_alloc | apply Kd.S_drewN | apply Kd.S_drew)); exact Kd.S_mono HO_8.out (fun _ hk => hk.2)⟩, ⟨by (with_reducible repeat (first | apply Ra | apply Rn | apply Rd)); exact HO123.out⟩, ⟨by repeat (first | (with_reducible first | exact HB.out | apply lA | apply lN | apply lD) | exact HB.out)⟩⟩
                         ·rw [if_neg c49] at H
                          exact absurd H (by simp)
                        ·rw [if_neg c48] at H
                         exact absurd H (by simp)
                       ·replace c47 := Bool.eq_false_iff.mpr c47
                        subst c47
                        have H1 : (lambrequinref10_Parts.l4 k4 a0 x5_1 x7_4 x8_2 x9_3 x13_4 (wrap64 (x14_4 + 1))) = some r := by rw [if_neg (show ¬ (false = true) by decide)] at H; exact H
                        clear H
                        have H := H1
                        clear H1
                        have H' := am H
                        clear H
                        obtain ⟨Ao55, co55, eo55⟩ := Kd.S_slice HO_5.out
                        subst eo55
                        have p117 : 0 ≤ (x9_3 : Int) := of_decide_eq_true (by first | (with_reducible assumption) | assumption)
                        have q117 : x9_3 < (x5_1.length : Int) := of_decide_eq_true (by first | (with_reducible assumption) | assumption)
                        obtain ⟨ad117, A117_0, c117_0, e117, hx117_0, hl117_0, hi117_0⟩ := at_L21 (Kd.S_reads' HO_5.out).2.2 x9_3 p117 q117
                        cases e117
                        obtain ⟨ce117, hce117, hMe117, hcc117⟩ := Kd.S_get HO_5.out [] x9_3 p117 (by first | exact q117 | exact of_decide_eq_true (by first | (with_reducible assumption) | assumption) | (have e_ := (Kd.S_reads' HO_5.out).1; omega))
                        obtain ⟨ve117_0, rfl, ge117_0⟩ := hMe117
                        have hv117_0 := hcc117 0 _ rfl
                        rw [Nat.add_zero, show ((Kd.slice 4 Kd.bool)).sz = 1 from rfl, Nat.mul_one] at hv117_0
                        replace hv117_0 := Option.some.inj (hv117_0.symm.trans hx117_0)
                        rw [hv117_0] at ge117_0
                        have HL117_0 := am (show Kd.R Kd.bool 4 _ _ _ _ (rd_L21 x5_1 x9_3) from ge117_0)
                        clear hv117_0 ge117_0
                        clear hcc117 hce117
                        have HR117_0 := am hi117_0
                        have HC117_0 := am hl117_0
                        clear hi117_0 hl117_0
                        replace p117 := eq_true p117
                        replace q117 := eq_true q117
                        have p118 : 0 ≤ (x14_4 : Int) := of_decide_eq_true (by first | (with_reducible assumption) | assumption)
                        have q118 : x14_4 < ((rd_L21 x5_1 x9_3).length : Int) := of_decide_eq_true (by first | (with_reducible assumption) | assumption)
                        obtain ⟨ad118, e118, hx118_0⟩ := Kd.at_bool (by repeat (first | (with_reducible exact HR117_0.out) | (with_reducible refine Kd.C_alloc ?_ _) | (with_reducible refine Kd.C_drewN ?_ _) | (with_reducible refine Kd.C_drew ?_) | exact HR117_0.out)) x14_4 p118 q118
                        (try rw [← Nbq42.out] at hx118_0)
                        (try rw [← Nbq46.out] at hx118_0)
                        cases e118
                        replace p118 := eq_true p118
                        replace q118 := eq_true q118
                        have p119 : 0 ≤ (x14_4 : Int) := of_decide_eq_true (by first | (with_reducible assumption) | assumption)
                        have q119 : x14_4 < (x5_1.length : Int) := of_decide_eq_true (by first | (with_reducible assumption) | assumption)
                        obtain ⟨ad119, A119_0, c119_0, e119, hx119_0, hl119_0, hi119_0⟩ := at_L21 (Kd.S_reads' HO_5.out).2.2 x14_4 p119 q119
                        obtain rfl : ad117 = ad119 := (by injection e119)
                        obtain ⟨ce119, hce119, hMe119, hcc119⟩ := Kd.S_get HO_5.out [] x14_4 p119 (by first | exact q119 | exact of_decide_eq_true (by first | (with_reducible assumption) | assumption) | (have e_ := (Kd.S_reads' HO_5.out).1; omega))
                        obtain ⟨ve119_0, rfl, ge119_0⟩ := hMe119
                        have hv119_0 := hcc119 0 _ rfl
                        rw [Nat.add_zero, show ((Kd.slice 4 Kd.bool)).sz = 1 from rfl, Nat.mul_one] at hv119_0
                        replace hv119_0 := Option.some.inj (hv119_0.symm.trans hx119_0)
                        rw [hv119_0] at ge119_0
                        have HL119_0 := am (show Kd.R Kd.bool 4 _ _ _ _ (rd_L21 x5_1 x14_4) from ge119_0)
                        clear hv119_0 ge119_0
                        clear hcc119 hce119
                        have HR119_0 := am hi119_0
                        have HC119_0 := am hl119_0
                        clear hi119_0 hl119_0
                        replace p119 := eq_true p119
                        replace q119 := eq_true q119
                        have p120 : 0 ≤ (x9_3 : Int) := of_decide_eq_true (by first | (with_reducible assumption) | assumption)
                        have q120 : x9_3 < ((rd_L21 x5_1 x14_4).length : Int) := of_decide_eq_true (by first | (with_reducible assumption) | assumption)
                        obtain ⟨ad120, e120, hx120_0⟩ := Kd.at_bool (by repeat (first | (with_reducible exact HR119_0.out) | (with_reducible refine Kd.C_alloc ?_ _) | (with_reducible refine Kd.C_drewN ?_ _) | (with_reducible refine Kd.C_drew ?_) | exact HR119_0.out)) x9_3 p120 q120
                        (try rw [← Nbq42.out] at hx120_0)
                        (try rw [← Nbq46.out] at hx120_0)
                        cases e120
                        replace p120 := eq_true p120
                        replace q120 := eq_true q120
                        go_wp2
                        go_roundg k4
                        case measure => have := HK1.out; have := HK2.out; have := HK3.out; have := HK4.out; omega
                        case rel => exact ⟨(x7_4), (x13_4), (wrap64 (x14_4 + 1)), (by first | rfl | (simp; done) | (simp [*]; done)), H', ⟨by have := HK1.out; have := HK2.out; have := HK3.out; have := HK4.out; omega⟩, ⟨by (with_reducible repeat (first | apply Kd.S_alloc | apply Kd.S_drewN | apply Kd.S_drew)); exact HO_5.out⟩, ⟨by (with_reducible repeat (first | apply Ra | apply Rn | apply Rd)); exact HO_7.out⟩, ⟨by (with_reducible repeat (first | apply Kd.S_alloc | apply Kd.S_drewN | apply Kd.S_drew)); exact HO_8.out⟩, ⟨by (with_reducible repeat (first | apply Ra | apply Rn | apply Rd)); exact HO_13.out⟩, ⟨by repeat (first | (with_reducible first | exact HB.out | apply lA | apply lN | apply lD) | exact HB.out)⟩⟩
                      ·rw [if_neg c45] at H
                       exact absurd H (by simp)
                     ·rw [if_neg c44] at H
                      exact absurd H (by simp)
                    ·replace c43 := Bool.eq_false_iff.mpr c43
                     subst c43
                     have H1 : (lambrequinref10_Parts.l4 k4 a0 x5_1 x7_4 x8_2 x9_3 x13_4 (wrap64 (x14_4 + 1))) = some r := by rw [if_neg (show ¬ (false = true) by decide)] at H; exact H
                     clear H
                     have H := H1
                     clear H1
                     have H' := am H
                     clear H
                     obtain ⟨Ao56, co56, eo56⟩ := Kd.S_slice HO_5.out
                     subst eo56
                     have p117 : 0 ≤ (x9_3 : Int) := of_decide_eq_true (by first | (with_reducible assumption) | assumption)
                     have q117 : x9_3 < (x5_1.length : Int) := of_decide_eq_true (by first | (with_reducible assumption) | assumption)
                     obtain ⟨ad117, A117_0, c117_0, e117, hx117_0, hl117_0, hi117_0⟩ := at_L21 (Kd.S_reads' HO_5.out).2.2 x9_3 p117 q117
                     cases e117
                     obtain ⟨ce117, hce117, hMe117, hcc117⟩ := Kd.S_get HO_5.out [] x9_3 p117 (by first | exact q117 | exact of_decide_eq_true (by first | (with_reducible assumption) | assumption) | (have e_ := (Kd.S_reads' HO_5.out).1; omega))
                     obtain ⟨ve117_0, rfl, ge117_0⟩ := hMe117
                     have hv117_0 := hcc117 0 _ rfl
                     rw [Nat.add_zero, show ((Kd.slice 4 Kd.bool)).sz = 1 from rfl, Nat.mul_one] at hv117_0
                     replace hv117_0 := Option.some.inj (hv117_0.symm.trans hx117_0)
                     rw [hv117_0] at ge117_0
                     have HL117_0 := am (show Kd.R Kd.bool 4 _ _ _ _ (rd_L21 x5_1 x9_3) from ge117_0)
                     clear hv117_0 ge117_0
                     clear hcc117 hce117
                     have HR117_0 := am hi117_0
                     have HC117_0 := am hl117_0
                     clear hi117_0 hl117_0
                     replace p117 := eq_true p117
                     replace q117 := eq_true q117
                     have p118 : 0 ≤ (x14_4 : Int) := of_decide_eq_true (by first | (with_reducible assumption) | assumption)
                     have q118 : x14_4 < ((rd_L21 x5_1 x9_3).length : Int) := of_decide_eq_true (by first | (with_reducible assumption) | assumption)
                     obtain ⟨ad118, e118, hx118_0⟩ := Kd.at_bool (by repeat (first | (with_reducible exact HR117_0.out) | (with_reducible refine Kd.C_alloc ?_ _) | (with_reducible refine Kd.C_drewN ?_ _) | (with_reducible refine Kd.C_drew ?_) | exact HR117_0.out)) x14_4 p118 q118
                     (try rw [← Nbq42.out] at hx118_0)
                     cases e118
                     replace p118 := eq_true p118
                     replace q118 := eq_true q118
                     go_wp2
                     go_roundg k4
                     case measure => have := HK1.out; have := HK2.out; have := HK3.out; have := HK4.out; omega
                     case rel => exact ⟨(x7_4), (x13_4), (wrap64 (x14_4 + 1)), (by first | rfl | (simp; done) | (simp [*]; done)), H', ⟨by have := HK1.out; have := HK2.out; have := HK3.out; have := HK4.out; omega⟩, ⟨by (with_reducible repeat (first | apply Kd.S_alloc | apply Kd.S_drewN | apply Kd.S_drew)); exact HO_5.out⟩, ⟨by (with_reducible repeat (first | apply Ra | apply Rn | apply Rd)); exact HO_7.out⟩, ⟨by (with_reducible repeat (first | apply Kd.S_alloc | apply Kd.S_drewN | apply Kd.S_drew)); exact HO_8.out⟩, ⟨by (with_reducible repeat (first | apply Ra | apply Rn | apply Rd)); exact HO_13.out⟩, ⟨by repeat (first | (with_reducible first | exact HB.out | apply lA | apply lN | apply lD) | exact HB.out)⟩⟩
                   ·rw [if_neg c41] at H
                    exact absurd H (by simp)
                  ·rw [if_neg c40] at H
                   exact absurd H (by simp)
                 ·rw [if_neg c39] at H
                  exact absurd H (by simp)
                ·rw [if_neg c38] at H
                 exact absurd H (by simp)
               ·rw [if_neg c37] at H
                have c37b0 : decide (x14_4 < a0) = false := decide_eq_false c37
                clear c37
                by_cases c57 : x8_2.length < 5864062014805
                ·rw [if_pos c57] at H
                 have LMc57 := am c57
                 clear c57
                 obtain ⟨y125, hy125⟩ : ∃ y_ : List (List Int), y_ = (x8_2 ++ [x13_4]) := ⟨_, rfl⟩
                 replace H : (lambrequinref10_Parts.l1 k4 a0 x5_1 x7_4 y125) = some r := by first | (rw [hy125]; with_reducible exact H) | (have H2_ := (Option.bind_some _ _).symm.trans H; rw [hy125]; with_reducible exact H2_) | (have H2_ := (Option.bind_some _ _).symm.trans H; with_reducible exact H2_) | with_reducible exact H | (rw [hy125]; exact H) | exact H
                 have Ny125 := am hy125
                 clear hy125
                 have H' := am H
                 clear H
                 obtain ⟨Ao59, co59, eo59⟩ := Kd.R_slice HO_13.out
                 subst eo59
                 go_wp2_with (first | ((with_reducible refine gate_builtin (b := .append) (xs := #[.tmp 108, .tmp 110]) rfl ?_); at_builtin; refine Kd.S_append (Kd.slice 3 (Kd.int .i64)) (w0 := w) w.heap.size rfl (.tmp 108) (.tmp 110) 32 35 (.slice none 0 0) 24 rfl Try.underlying32 info35 rfl (by decide) (by omega) u8 x8_2 x13_4 [.slice Ao59 x13_4.length co59] (fun _ => True) (fun k_ => some k_ = (.slice Ao59 x13_4.length co59 : Value).ownBlock) rfl rfl ?aP (fun k_ hk_ => ((Kd.R_mono (ok' := fun k_ => ((fun _ => True)) k_ ∧ some k_ ≠ (u8 : Value).ownBlock) (Kd.R_apart' (HO_13.out) (Kd.S_typed HO_8.out) (by decide)) (fun k_ hk => ⟨trivial, hk.2⟩))).1 k_ hk_.symm) ?aF ?aO ?aB ?aS ?aL ?_; (case aP => exact Kd.M_row (Kd.R_mono (Kd.R_tight rfl (Kd.R_mono (ok' := fun k_ => ((fun _ => True)) k_ ∧ some k_ ≠ (u8 : Value).ownBlock) (Kd.R_apart' (HO_13.out) (Kd.S_typed HO_8.out) (by decide)) (fun k_ hk => ⟨trivial, hk.2⟩))) (fun _ h_ => h_))); (case aB => exact (by repeat (first | (with_reducible first | exact HB.out | apply lA | apply lN | apply lD) | exact HB.out))); (case aF => exact (fun _ _ => trivial)); (case aO => exact (by (with_reducible repeat (first | apply Kd.S_alloc | apply Kd.S_drewN | apply Kd.S_drew)); exact Kd.S_mono HO_8.out (fun k_ hk => ⟨trivial, fun e_ => hk e_⟩))); (case aS => exact (below_size (by repeat (first | (with_reducible first | exact HB.out | apply lA | apply lN | apply lD) | exact HB.out)))); (case aL => have := LMc57.out; omega); intro v126 w58 ho hb hg hat; rw [← Ny125.out] at ho; replace HO_5 := am (Kd.S_over' (by (with_reducible repeat (first | apply Kd.S_alloc | apply Kd.S_drewN | apply Kd.S_drew)); exact HO_5.out) (Kd.S_typed (by (with_reducible repeat (first | apply Kd.S_alloc | apply Kd.S_drewN | apply Kd.S_drew)); exact HO_8.out)) (by decide) hg); replace HO_7 := am (Kd.R_over' (by (with_reducible repeat (first | apply Ra | apply Rn | apply Rd)); exact HO_7.out) (Kd.S_typed (by (with_reducible repeat (first | apply Kd.S_alloc | apply Kd.S_drewN | apply Kd.S_drew)); exact HO_8.out)) (by decide) hg); replace HB := am (hb); have HO127 := am (ho); clear HO_8 HO_13; clear ho hb hg hat))
                 go_roundg k4
                 case measure => have := HK1.out; have := HK2.out; have := HK3.out; have := HK4.out; omega
                 case rel => exact ⟨(x7_4), (y125), H', ⟨by have := HK1.out; have := HK2.out; have := HK3.out; have := HK4.out; omega⟩, ⟨by (with_reducible repeat (first | apply Kd.S_alloc | apply Kd.S_drewN | apply Kd.S_drew)); exact HO_5.out⟩, ⟨by (with_reducible repeat (first | apply Ra | apply Rn | apply Rd)); exact HO_7.out⟩, ⟨by (with_reducible repeat (first | apply Kd.S_alloc | apply Kd.S_drewN | apply Kd.S_drew)); exact HO127.out⟩, ⟨by repeat (first | (with_reducible first | exact HB.out | apply lA | apply lN | apply lD) | exact HB.out)⟩⟩
                ·rw [if_neg c57] at H
                 exact absurd H (by simp)
      ·rw [if_neg c12] at H
       exact absurd H (by simp)
     ·rw [if_neg c11] at H
      exact absurd H (by simp)
 ·replace c4 := Bool.eq_false_iff.mpr c4
  subst c4
  have H1 : (some ([] : List (List Int))) = some r := by rw [if_neg (show ¬ (false = true) by decide)] at H; exact H
  clear H
  have H := H1
  clear H1
  obtain rfl := Option.some.inj H
  go_enter Try.func24, Try.ntmps24
  go_wp2_with (first | ((with_reducible refine gate_callee (f := 49) rfl ?_); refine goesL_ (some 17) rfl rfl Try.func49 (by kernel_rfl) rfl #[.int .i64 a0, .slice A1 l1.length c1] rfl (by (try simp only [List.map_toArray, List.map_cons, List.map_nil]); first | done | rfl | (simp only [List.length_drop, List.length_take]; rfl)) ?_; (with_reducible refine (lambrequinref10_may.calls k a0 _ _ l1 false _ ?side1 ?side2 A3.out).mono ?_); (case side1 => repeat (first | exact HR1.out | (with_reducible refine Kd.C_alloc ?_ _) | (with_reducible refine Kd.C_drewN ?_ _) | (with_reducible refine Kd.C_drew ?_))); (case side2 => exact HC1.out); rintro e w' ⟨rfl, ⟨nd, rfl⟩⟩; refine ⟨_, rfl, ?_⟩))
  go_ret
  exact ⟨_, by first | rfl | (simp [errW_none, errW_some] <;> rfl) | (simp [*, errW_none, errW_some] <;> rfl), by first | exact Kd.S_nil _ _ _ _ _ | exact Kd.N_nil _ _ _ _ _ | exact Kd.V_nil _ _ _ _ _ | exact Kd.Q_nil _ _ _ _ _ | exact Kd.R_nil _ _ _ _ _, by repeat (first | (with_reducible first | exact HB.out | apply lA | apply lN | apply lD) | exact HB.out)⟩
end Go.Proofs.Ytmlhnjonmjmhdaa.H
/- the document's own parts -/
namespace Go.Proofs.Ytmlhnjonmjmhdaa.H
open Go.RowKit Go.Proofs.YtmlhnjonmjmhdaaW.PrintWords
theorem findR_first {tt : List (List Bool)} {done : List Bool} {n : Nat} : ∀ (g z r : Nat), findR tt done n g z = some r → ∀ y, z ≤ y → y < r → readyB tt done n y = false
  | 0, _, _, h => by cases h
  | g + 1, z, r, h => by
    intro y h1 h2
    unfold findR at h
    split at h
    · rename_i hz
      split at h
      · cases h
        omega
      · rename_i hr
        by_cases e : y = z
        · rw [e]; simpa using hr
        · exact findR_first g (z + 1) r h y (by omega) h2
    · cases h
def lf (tt : List (List Bool)) (done : List Bool) (n : Nat) : Nat → Int
  | 0 => -1
  | d + 1 => if readyB tt done n (n - (d + 1)) then ((n - (d + 1) : Nat) : Int) else lf tt done n d
theorem lf_spec (tt : List (List Bool)) (done : List Bool) (n : Nat) : ∀ d, d ≤ n → (lf tt done n d = -1 ∧ ∀ y, n - d ≤ y → y < n → readyB tt done n y = false) ∨ ∃ q : Nat, lf tt done n d = (q : Int) ∧ q < n ∧ readyB tt done n q = true ∧ ∀ y, n - d ≤ y → y < q → readyB tt done n y = false
  | 0, _ => .inl ⟨rfl, fun y h1 h2 => by omega⟩
  | d + 1, h => by
    unfold lf
    by_cases hr : readyB tt done n (n - (d + 1)) = true
    · rw [if_pos hr]
      exact .inr ⟨n - (d + 1), rfl, by omega, hr, fun y h1 h2 => by omega⟩
    · rw [if_neg hr]
      have hr' : readyB tt done n (n - (d + 1)) = false := by simpa using hr
      rcases lf_spec tt done n d (by omega) with ⟨h1, h2⟩ | ⟨q, h1, h2, h3, h4⟩
      · refine .inl ⟨h1, fun y g1 g2 => ?_⟩
        by_cases e : y = n - (d + 1)
        · rw [e]; exact hr'
        · exact h2 y (by omega) g2
      · refine .inr ⟨q, h1, h2, h3, fun y g1 g2 => ?_⟩
        by_cases e : y = n - (d + 1)
        · rw [e]; exact hr'
        · exact h4 y (by omega) g2
theorem lf_at {tt : List (List Bool)} {done : List Bool} {n r : Nat} (hr : r < n) (h : readyB tt done n r = true) (hno : ∀ y, y < r → readyB tt done n y = false) : lf tt done n n = (r : Int) := by
  rcases lf_spec tt done n n (Nat.le_refl _) with ⟨_, h2⟩ | ⟨q, h1, h2, h3, h4⟩
  · rw [h2 r (by omega) hr] at h; cases h
  · rcases Nat.lt_trichotomy q r with g | g | g
    · rw [hno q g] at h3; cases h3
    · rw [h1, g]
    · rw [h4 r (by omega) g] at h; cases h
theorem lf_none {tt : List (List Bool)} {done : List Bool} {n : Nat} (hno : ∀ y, y < n → readyB tt done n y = false) : lf tt done n n = -1 := by
  rcases lf_spec tt done n n (Nat.le_refl _) with ⟨h1, _⟩ | ⟨q, h1, h2, h3, h4⟩
  · exact h1
  · rw [hno q h2] at h3; cases h3
def allH (tt : List (List Bool)) (done : List Bool) (x : Nat) : Nat → Nat → Bool
  | _, 0 => true
  | y, m + 1 => !holdsB tt done x y && allH tt done x (y + 1) m
theorem allH_iff (tt : List (List Bool)) (done : List Bool) (x : Nat) : ∀ (m y : Nat), allH tt done x y m = true ↔ ∀ z, y ≤ z → z < y + m → holdsB tt done x z = false
  | 0, y => by
    refine ⟨fun _ z h1 h2 => by omega, fun _ => rfl⟩
  | m + 1, y => by
    unfold allH
    rw [Bool.and_eq_true, allH_iff tt done x m (y + 1)]
    constructor
    · rintro ⟨h1, h2⟩ z h3 h4
      by_cases e : z = y
      · rw [e]; simpa using h1
      · exact h2 z (by omega) (by omega)
    · intro h
      refine ⟨by rw [h y (Nat.le_refl _) (by omega)]; rfl, fun z h3 h4 => h z (by omega) (by omega)⟩
theorem ready_all (tt : List (List Bool)) (done : List Bool) (n x : Nat) : readyB tt done n x = (!done.getD x false && allH tt done x 0 n) := by
  unfold readyB
  rw [Bool.and_comm]
  congr 1
  rw [Bool.eq_iff_iff, allH_iff, List.all_eq_true]
  constructor
  · intro h z _ hz
    have := h z (List.mem_range.2 (by omega))
    simpa using this
  · intro h z hz
    rw [h z (Nat.zero_le _) (by have := List.mem_range.1 hz; omega)]
    rfl
section
variable {rows : List (List Int)} (hok : okR rows) {n : Nat} (hn : rows.length = n) (hn2 : n ≤ 1000)
include hok hn hn2
theorem tab_len {x : Nat} (hx : x < n) : (rd_L21 (tabL rows) (x : Int)).length = n := by
  have := tab_row_len hok (x := x) (by omega)
  show ((tabL rows).getD ((x : Int)).toNat []).length = n
  rw [Int.toNat_natCast, this, hn]
omit hok hn hn2 in
theorem tab_tb (tt : List (List Bool)) (x y : Nat) : rdOf false (rd_L21 tt (x : Int)) (y : Int) = tb tt x y := by
  show ((tt.getD ((x : Int)).toNat []).getD ((y : Int)).toNat false) = _
  rw [Int.toNat_natCast, Int.toNat_natCast]
  rfl
theorem rparts_l3 {done : List Bool} (hd : done.length = n) {out R : List (List Int)} {x9 : Int} {x : Nat} (hx : x < n) : ∀ (m y : Nat) (fl : Bool), y + m = n →
    Ev (fun k => lambrequinref10_Parts.l2 k (n : Int) (tabL rows) done out (if (fl && allH (tabL rows) done x y m) = true then (x : Int) else x9) (wrap64 ((x : Int) - 1))) R → Ev (fun k => lambrequinref10_Parts.l3 k (n : Int) (tabL rows) done out x9 (x : Int) fl (y : Int)) R
  | 0, y, fl, h, next => by
    rw [show allH (tabL rows) done x y 0 = true from rfl, Bool.and_true] at next
    refine Ev.step (fun k => by rw [lambrequinref10_Parts.l3]) ?_
    refine Ev.neg (by omega) ?_
    cases fl with
    | true => rw [if_pos rfl] at next; exact Ev.pos rfl next
    | false => rw [if_neg (by decide)] at next; exact Ev.neg (by decide) next
  | m + 1, y, fl, h, next => by
    have hy : y < n := by omega
    have tl : (tabL rows).length = n := by simp [tabL, hn]
    have t1 := tab_len hok hn hn2 hx
    have t2 := tab_len hok hn hn2 hy
    have ih := fun fl' hq => rparts_l3 hd (out := out) (R := R) (x9 := x9) hx m (y + 1) fl' (by omega) hq
    have dd : rdOf false done (y : Int) = done.getD y false := by show done.getD ((y : Int)).toNat false = _; rw [Int.toNat_natCast]
    unfold allH at next
    refine Ev.step (fun k => by rw [lambrequinref10_Parts.l3]) ?_
    rw [wrap_up (by omega), tab_tb, tab_tb, dd]
    refine Ev.pos (by omega) ?_
    cases fl with
    | false =>
      refine Ev.neg (by decide) (ih false ?_)
      rw [Bool.false_and] at next ⊢
      exact next
    | true =>
      rw [Bool.true_and] at next
      refine Ev.pos rfl (Ev.pos (by omega) (Ev.pos (by omega) (Ev.pos (by omega) (Ev.pos (by omega) ?_))))
      by_cases h1 : tb (tabL rows) x y = true
      · refine Ev.pos h1 (Ev.pos (by omega) (Ev.pos (by omega) ?_))
        by_cases h2 : tb (tabL rows) y x = true
        · refine Ev.pos h2 (ih true ?_)
          rw [show holdsB (tabL rows) done x y = false by unfold holdsB; rw [h2]; simp] at next
          simpa using next
        · have h2' : tb (tabL rows) y x = false := by simpa using h2
          refine Ev.neg h2 (Ev.pos (by omega) (ih _ ?_))
          rw [show (!holdsB (tabL rows) done x y) = done.getD y false by unfold holdsB; rw [h1, h2']; simp] at next
          exact next
      · have h1' : tb (tabL rows) x y = false := by simpa using h1
        refine Ev.neg h1 (ih true ?_)
        rw [show holdsB (tabL rows) done x y = false by unfold holdsB; rw [h1']; simp] at next
        simpa using next
theorem rparts_l2 {done : List Bool} (hd : done.length = n) {out R : List (List Int)} (fin : Ev (fun k => lambrequinref10_Parts.l2 k (n : Int) (tabL rows) done out (lf (tabL rows) done n n) (-1)) R) :
    ∀ (m d : Nat), d + m = n → Ev (fun k => lambrequinref10_Parts.l2 k (n : Int) (tabL rows) done out (lf (tabL rows) done n d) ((n : Int) - d - 1)) R
  | 0, d, h => by
    have : d = n := by omega
    rw [this, show (n : Int) - n - 1 = -1 by omega]
    exact fin
  | m + 1, d, h => by
    have next := rparts_l2 hd fin m (d + 1) (by omega)
    have e : (n : Int) - d - 1 = ((n - (d + 1) : Nat) : Int) := by omega
    have e2 : wrap64 (((n - (d + 1) : Nat) : Int) - 1) = (n : Int) - ((d + 1 : Nat) : Int) - 1 := by unfold wrap64; omega
    have dd : rdOf false done ((n - (d + 1) : Nat) : Int) = done.getD (n - (d + 1)) false := by show done.getD (((n - (d + 1) : Nat) : Int)).toNat false = _; rw [Int.toNat_natCast]
    rw [e]
    refine Ev.step (fun k => by rw [lambrequinref10_Parts.l2]) ?_
    rw [dd]
    refine Ev.pos (by clear e2; omega) (Ev.pos (by clear e2; omega) (Ev.pos (by clear e2; omega) ?_))
    refine rparts_l3 hok hn hn2 hd (by clear e2; omega) n 0 _ (by omega) ?_
    rw [e2, ← ready_all]
    unfold lf at next
    exact next
theorem rparts_l4 {done : List Bool} (hd : done.length = n) {out R : List (List Int)} (ho : out.length ≤ 1000000) {x : Nat} (hx : x < n) (next : Ev (fun k => lambrequinref10_Parts.l1 k (n : Int) (tabL rows) (doneL (tabL rows) x n done) (out ++ [partL (tabL rows) n x])) R) :
    ∀ (m y : Nat), y + m = n → Ev (fun k => lambrequinref10_Parts.l4 k (n : Int) (tabL rows) (doneL (tabL rows) x y done) out (x : Int) (partL (tabL rows) y x) (y : Int)) R
  | 0, y, h => by
    have : y = n := by omega
    subst this
    refine Ev.step (fun k => by rw [lambrequinref10_Parts.l4]) ?_
    exact Ev.neg (by omega) (Ev.pos (by omega) next)
  | m + 1, y, h => by
    have hy : y < n := by omega
    have ih := rparts_l4 hd ho hx next m (y + 1) (by omega)
    have tl : (tabL rows).length = n := by simp [tabL, hn]
    have t1 := tab_len hok hn hn2 hx
    have t2 := tab_len hok hn hn2 hy
    have dl := doneL_len (tabL rows) x y done
    have pl := partL_len (tabL rows) x y
    rw [partL_step, doneL_step] at ih
    refine Ev.step (fun k => by rw [lambrequinref10_Parts.l4]) ?_
    rw [wrap_up (by omega), tab_tb, tab_tb]
    refine Ev.pos (by omega) (Ev.pos (by omega) (Ev.pos (by omega) (Ev.pos (by omega) (Ev.pos (by omega) ?_))))
    by_cases h1 : tb (tabL rows) x y = true
    · refine Ev.pos h1 (Ev.pos (by omega) (Ev.pos (by omega) ?_))
      by_cases h2 : tb (tabL rows) y x = true
      · have hp : partB (tabL rows) x y = true := by unfold partB; rw [h1, h2]; rfl
        rw [if_pos hp, if_pos hp] at ih
        refine Ev.pos h2 (Ev.pos (by omega) (Ev.pos (by omega) ?_))
        rw [Int.toNat_natCast]
        exact ih
      · have hp : ¬ partB (tabL rows) x y = true := by unfold partB; simp [h2]
        rw [if_neg hp, if_neg hp, List.append_nil] at ih
        exact Ev.neg h2 ih
    · have hp : ¬ partB (tabL rows) x y = true := by unfold partB; simp [h1]
      rw [if_neg hp, if_neg hp, List.append_nil] at ih
      exact Ev.neg h1 ih
theorem rparts_l1 : ∀ (k : Nat) (left : Int) (done : List Bool) (out p : List (List Int)), PI rows left done out → partsG (tabL rows) n k left done out = some p → Ev (fun k => lambrequinref10_Parts.l1 k (n : Int) (tabL rows) done out) p
  | 0, _, _, _, _, _, h => by cases h
  | k + 1, left, done, out, p, hp, h => by
    have hd : done.length = n := hp.len.trans hn
    have hfew := hp.few
    have e0 : wrap64 ((n : Int) - 1) = (n : Int) - ((0 : Nat) : Int) - 1 := by unfold wrap64; omega
    refine Ev.step (fun k => by rw [lambrequinref10_Parts.l1]) ?_
    rw [e0]
    clear e0
    refine rparts_l2 hok hn hn2 hd ?_ n 0 (by omega)
    unfold partsG at h
    split at h
    · split at h
      · obtain ⟨x, hf, h⟩ := Option.bind_eq_some_iff.1 h
        obtain ⟨h1, h2⟩ := findR_some _ _ _ hf
        rw [lf_at h1 h2 (fun y hy => findR_first _ _ _ hf y (Nat.zero_le _) hy)]
        refine Ev.step (fun k => by rw [lambrequinref10_Parts.l2]) ?_
        refine Ev.neg (by omega) (Ev.neg (by omega) ?_)
        have hnx := hp.next hok (x := x) (by omega) (by rw [hn]; exact h2)
        rw [hn] at hnx
        exact rparts_l4 hok hn hn2 hd (by omega) h1 (rparts_l1 k _ _ _ p hnx.1 h) n 0 (by omega)
      · cases h
    · rename_i hl
      cases h
      have hc0 : done.count false = 0 := by have := hp.left_eq; omega
      rw [lf_none (fun y hy => ?_)]
      · refine Ev.step (fun k => by rw [lambrequinref10_Parts.l2]) ?_
        exact Ev.neg (by omega) (Ev.pos (by decide) (Ev.now _))
      · rw [ready_all]
        have hy' : y < done.length := by omega
        have : done.getD y false = true := by
          rw [List.getD_eq_getElem?_getD, List.getElem?_eq_getElem hy']
          cases hdy : done[y] with
          | true => rfl
          | false =>
            exfalso
            have := List.count_pos_iff.2 (show false ∈ done from hdy ▸ List.getElem_mem hy')
            omega
        rw [this]
        rfl
end
theorem rparts_l0 {n : Nat} {l : List IPair} (hl : l.length ≤ 1000000) (hb : cleanBad (n : Int) l = false) {R : List (List Int)} (next : Ev (fun k => lambrequinref10_Parts.l1 k (n : Int) (tabL (rws n l)) (List.replicate n false) []) R) : ∀ (m i : Nat), i + m = n → Ev (fun k => lambrequinref10_Parts.l0 k (n : Int) l ((List.range i).map (reachL (rws n l))) (i : Int)) R
  | 0, i, h => by
    have hi : i = n := by omega
    have hn := bad_n hb
    refine Ev.step (fun k => by rw [lambrequinref10_Parts.l0]) ?_
    refine Ev.neg (by omega) (Ev.pos (by omega) (Ev.pos (by omega) ?_))
    rw [Int.toNat_natCast, hi]
    have e : tabL (rws n l) = (List.range n).map (reachL (rws n l)) := by unfold tabL; rw [rws_len]
    rw [← e]
    exact next
  | m + 1, i, h => by
    have hn := bad_n hb
    have ih := rparts_l0 hl hb next m (i + 1) (by omega)
    rw [List.range_succ, List.map_append, List.map_singleton] at ih
    refine Ev.step (fun k => by rw [lambrequinref10_Parts.l0]) ?_
    rw [wrap_up (by omega)]
    exact Ev.pos (by omega) (Ev.bind (refReach_in hl hb (by omega)) (Ev.pos (by simp; omega) ih))
/-- both tell the same parts -/
theorem refParts_ev {n : Nat} {l : List IPair} (hl : l.length ≤ 1000000) (hb : cleanBad (n : Int) l = false) {p : List (List Int)} (hev : Ev (fun k => graph_Parts.f k (n : Int) l) p) : Ev (fun k => lambrequinref10_Parts.f k (n : Int) l) p := by
  have hn := bad_n hb
  have hok := rws_ok hb
  have hlen := rws_len n l
  have hpi := PI.first hok
  obtain ⟨p', hp⟩ := partsG_ex hok (by omega) n (n : Int) (List.replicate (rws n l).length false) [] (by rw [hlen] at hpi ⊢; exact hpi) (by omega)
  have hev' : Ev (fun k => graph_Parts.f k (n : Int) l) p' := by
    unfold graph_Parts.f
    exact Ev.bind (nexts_ev hl hb) (Ev.pos rfl (Ev.pos ⟨hok, by show ((rws n l).length : Int) = n; rw [hlen], by show (rws n l).length ≤ 30000; omega⟩ (Ev.of (fun k => partsG_more _ _ k _ _ _) hp)))
  have epp : p = p' := by
    obtain ⟨k, hk⟩ := hev
    obtain ⟨k', hk'⟩ := hev'
    have h1 := hk (max k k') (Nat.le_max_left _ _)
    have h2 := hk' (max k k') (Nat.le_max_right _ _)
    rw [h1] at h2
    exact Option.some.inj h2
  rw [epp]
  unfold lambrequinref10_Parts.f
  have hm := may_ev (n := (n : Int)) hl
  rw [hb] at hm
  refine Ev.bind hm (Ev.pos (by decide) (rparts_l0 hl hb ?_ n 0 (by omega)))
  rw [hlen] at hp hpi
  exact rparts_l1 hok hlen hn _ _ _ _ p' hpi hp
end Go.Proofs.Ytmlhnjonmjmhdaa.H
/- of the shortest ways the search finds the least one -/
namespace Go.Proofs.Ytmlhnjonmjmhdaa.H
open Go.RowKit Go.Proofs.YtmlhnjonmjmhdaaW.PrintWords
abbrev ix (Q : List Int) (v : Int) : Nat := Q.idxOf v
theorem ix_mem {Q : List Int} {v : Int} (h : v ∈ Q) (r : List Int) : ix (Q ++ r) v = ix Q v := by
  unfold ix
  rw [List.idxOf_append, if_pos h]
theorem ix_lt {Q : List Int} {v : Int} (h : v ∈ Q) : ix Q v < Q.length := List.idxOf_lt_length_of_mem h
theorem ix_new {Q : List Int} {v : Int} (h : v ∉ Q) (r : List Int) : ix (Q ++ v :: r) v = Q.length := by
  unfold ix
  rw [List.idxOf_append, if_neg h, List.idxOf_cons_self, Nat.zero_add]
theorem ix_get {Q : List Int} {v : Int} (h : v ∈ Q) : Q[ix Q v]'(ix_lt h) = v := List.getElem_idxOf _
theorem ix_inj {Q : List Int} {v u : Int} (h : v ∈ Q) (g : u ∈ Q) (e : ix Q v = ix Q u) : v = u := by
  have h1 : Q[ix Q v]? = some v := by rw [List.getElem?_eq_getElem (ix_lt h), ix_get h]
  have h2 : Q[ix Q u]? = some u := by rw [List.getElem?_eq_getElem (ix_lt g), ix_get g]
  rw [e, h2] at h1
  exact (Option.some.inj h1).symm
theorem ix_pre {P R : List Int} {v : Int} (h : v ∈ P ++ R) (hl : ix (P ++ R) v < P.length) : v ∈ P := by
  have h1 := ix_get h
  rw [List.getElem_append_left hl] at h1
  rw [← h1]
  exact List.getElem_mem hl
/-- what holds of the order in which nodes are found: P are done, Q are found -/
structure QI (rows : List (List Int)) (n a : Nat) (B : List Int) (S : List Bool) (P Q : List Int) (x : Int) (ys : List Int) : Prop where
  lB : B.length = n
  lS : S.length = n
  bnd : ∀ v ∈ Q, 0 ≤ v ∧ v < (n : Int)
  seen : ∀ v : Int, 0 ≤ v → v < (n : Int) → (S.getD v.toNat false = true ↔ v ∈ Q)
  clo : ∀ u ∈ P, ∀ y ∈ rows.getD u.toNat [], y ∈ Q
  root : (a : Int) ∈ Q
  nd : Q.Nodup
  par : ∀ v ∈ Q, v ≠ (a : Int) → B.getD v.toNat 0 ∈ P ∨ (B.getD v.toNat 0 = x ∧ ∀ z ∈ ys, v < z)
  frst : ∀ v ∈ Q, v ≠ (a : Int) → ∀ u ∈ Q, v ∈ rows.getD u.toNat [] → ix Q (B.getD v.toNat 0) ≤ ix Q u
  ord : ∀ v ∈ Q, ∀ v' ∈ Q, v ≠ (a : Int) → v' ≠ (a : Int) → (ix Q (B.getD v.toNat 0) < ix Q (B.getD v'.toNat 0) ∨ (B.getD v.toNat 0 = B.getD v'.toNat 0 ∧ v < v')) → ix Q v < ix Q v'
theorem QI.step {rows : List (List Int)} {n a : Nat} {st : BF} {P R : List Int} {x y : Int} {ys : List Int} (hx : x ∉ P) (h : QI rows n a st.B st.S P (P ++ x :: R ++ st.M) x (y :: ys)) (hys : ∀ z ∈ ys, y < z) (hy : 0 ≤ y ∧ y < (n : Int)) :
    QI rows n a (stepP x st y).B (stepP x st y).S P (P ++ x :: R ++ (stepP x st y).M) x ys ∧ y ∈ P ++ x :: R ++ (stepP x st y).M := by
  by_cases hs : st.S.getD y.toNat false = true
  · have e : stepP x st y = st := by unfold stepP mkS; rw [if_pos hs, if_pos hs]
    rw [e]
    refine ⟨⟨h.lB, h.lS, h.bnd, h.seen, h.clo, h.root, h.nd, fun v hv hva => ?_, h.frst, h.ord⟩, (h.seen y hy.1 hy.2).1 hs⟩
    rcases h.par v hv hva with h1 | ⟨h1, h2⟩
    · exact .inl h1
    · exact .inr ⟨h1, fun z hz => h2 z (List.mem_cons_of_mem _ hz)⟩
  · have e : stepP x st y = ⟨st.B.set y.toNat x, st.S.set y.toNat true, st.M ++ [y]⟩ := by unfold stepP mkS; rw [if_neg hs, if_neg hs]
    rw [e]
    show QI rows n a (st.B.set y.toNat x) (st.S.set y.toNat true) P (P ++ x :: R ++ (st.M ++ [y])) x ys ∧ y ∈ P ++ x :: R ++ (st.M ++ [y])
    rw [← List.append_assoc]
    have hyQ : y ∉ P ++ x :: R ++ st.M := fun hm => hs ((h.seen y hy.1 hy.2).2 hm)
    have hxQ : x ∈ P ++ x :: R ++ st.M := by simp
    have hixx : ix (P ++ x :: R ++ st.M) x = P.length := by
      rw [ix_mem (by simp)]
      exact ix_new hx R
    have hPQ : ∀ u ∈ P, u ∈ P ++ x :: R ++ st.M := fun u hu => by rw [List.append_assoc]; exact List.mem_append_left _ hu
    have hPlt : ∀ u ∈ P, ix (P ++ x :: R ++ st.M) u < P.length := fun u hu => by
      rw [List.append_assoc, ix_mem hu]
      exact ix_lt hu
    have hpre : ∀ u ∈ P ++ x :: R ++ st.M, ix (P ++ x :: R ++ st.M) u < P.length → u ∈ P := fun u hu hl => by
      rw [List.append_assoc] at hu hl
      exact ix_pre hu hl
    generalize hQ : P ++ x :: R ++ st.M = Q at *
    have hyl : y.toNat < st.S.length := by rw [h.lS]; omega
    have hyB : y.toNat < st.B.length := by rw [h.lB]; omega
    have hBy : (st.B.set y.toNat x).getD y.toNat 0 = x := by
      rw [List.getD_eq_getElem?_getD, List.getElem?_set_self hyB]
      rfl
    have hBv : ∀ v ∈ Q, (st.B.set y.toNat x).getD v.toNat 0 = st.B.getD v.toNat 0 := by
      intro v hv
      refine getD_set_ne _ _ _ _ (fun e2 => ?_)
      have := h.bnd v hv
      have : v = y := by omega
      exact hyQ (this ▸ hv)
    have hBQ : ∀ v ∈ Q, v ≠ (a : Int) → st.B.getD v.toNat 0 ∈ Q := by
      intro v hv hva
      rcases h.par v hv hva with h1 | ⟨h1, _⟩
      · exact hPQ _ h1
      · rw [h1]; exact hxQ
    have hya : y ≠ (a : Int) := fun e2 => hyQ (e2 ▸ h.root)
    have hixy : ix (Q ++ [y]) y = Q.length := ix_new hyQ []
    have cas : ∀ v, v ∈ Q ++ [y] → v ∈ Q ∨ v = y := fun v hv => by
      rcases List.mem_append.1 hv with hv | hv
      · exact .inl hv
      · exact .inr (List.mem_singleton.1 hv)
    refine ⟨⟨by rw [List.length_set]; exact h.lB, by rw [List.length_set]; exact h.lS, ?_, ?_, fun u hu z hz => List.mem_append_left _ (h.clo u hu z hz), List.mem_append_left _ h.root, List.nodup_append.2 ⟨h.nd, by simp, fun u hu z hz e2 => hyQ (by rw [← List.mem_singleton.1 hz, ← e2]; exact hu)⟩, ?_, ?_, ?_⟩, List.mem_append_right _ (List.mem_singleton.2 rfl)⟩
    · intro v hv
      rcases cas v hv with hv | rfl
      · exact h.bnd v hv
      · exact hy
    · intro v h0 h1
      rw [getD_set_b]
      constructor
      · intro h2
        split at h2
        · rename_i e2
          have : v = y := by omega
          rw [this]
          exact List.mem_append_right _ (List.mem_singleton.2 rfl)
        · exact List.mem_append_left _ ((h.seen v h0 h1).1 h2)
      · intro h2
        rcases cas v h2 with h2 | rfl
        · split
          · rfl
          · exact (h.seen v h0 h1).2 h2
        · rw [if_pos ⟨rfl, hyl⟩]
    · intro v hv hva
      rcases cas v hv with hv | rfl
      · rw [hBv v hv]
        rcases h.par v hv hva with h1 | ⟨h1, h2⟩
        · exact .inl h1
        · exact .inr ⟨h1, fun z hz => h2 z (List.mem_cons_of_mem _ hz)⟩
      · rw [hBy]
        exact .inr ⟨rfl, hys⟩
    · intro v hv0 hva u hu0 hvu
      rcases cas v hv0 with hv | rfl
      · rw [hBv v hv, ix_mem (hBQ v hv hva)]
        rcases cas u hu0 with hu | rfl
        · rw [ix_mem hu]
          exact h.frst v hv hva u hu hvu
        · rw [hixy]
          exact Nat.le_of_lt (ix_lt (hBQ v hv hva))
      · rw [hBy, ix_mem hxQ, hixx]
        rcases cas u hu0 with hu | rfl
        · rw [ix_mem hu]
          rcases Nat.lt_or_ge (ix Q u) P.length with hlt | hge
          · exact absurd (h.clo u (hpre u hu hlt) _ hvu) hyQ
          · exact hge
        · rw [hixy]
          have := ix_lt hxQ
          omega
    · intro v hv0 v' hv0' hva hva' hc
      rcases cas v' hv0' with hv' | rfl
      · rcases cas v hv0 with hv | rfl
        · rw [hBv v hv, hBv v' hv', ix_mem (hBQ v hv hva), ix_mem (hBQ v' hv' hva')] at hc
          rw [ix_mem hv, ix_mem hv']
          exact h.ord v hv v' hv' hva hva' hc
        · exfalso
          rw [hBy, hBv v' hv', ix_mem hxQ, ix_mem (hBQ v' hv' hva'), hixx] at hc
          rcases h.par v' hv' hva' with h1 | ⟨h1, h2⟩
          · have := hPlt _ h1
            rcases hc with hc | ⟨hc, _⟩
            · omega
            · exact hx (hc ▸ h1)
          · rcases hc with hc | ⟨_, hc⟩
            · rw [h1, hixx] at hc; omega
            · have := h2 v List.mem_cons_self
              omega
      · rcases cas v hv0 with hv | rfl
        · rw [ix_mem hv, hixy]
          exact ix_lt hv
        · exfalso
          rcases hc with hc | ⟨_, hc⟩ <;> omega
theorem QI.fold {rows : List (List Int)} {n a : Nat} {P R : List Int} {x : Int} (hx : x ∉ P) : ∀ (ys : List Int) (st : BF), QI rows n a st.B st.S P (P ++ x :: R ++ st.M) x ys → ys.Pairwise (· < ·) → (∀ y ∈ ys, 0 ≤ y ∧ y < (n : Int)) →
    QI rows n a (ys.foldl (stepP x) st).B (ys.foldl (stepP x) st).S P (P ++ x :: R ++ (ys.foldl (stepP x) st).M) x [] ∧ (∀ v ∈ P ++ x :: R ++ st.M, v ∈ P ++ x :: R ++ (ys.foldl (stepP x) st).M) ∧ ∀ y ∈ ys, y ∈ P ++ x :: R ++ (ys.foldl (stepP x) st).M
  | [], st, h, _, _ => ⟨h, fun v hv => hv, fun y hy => absurd hy List.not_mem_nil⟩
  | y :: ys, st, h, hp, hb => by
    obtain ⟨hp1, hp2⟩ := List.pairwise_cons.1 hp
    obtain ⟨h1, h2⟩ := h.step hx hp1 (hb y List.mem_cons_self)
    obtain ⟨h3, h4, h5⟩ := QI.fold hx ys _ h1 hp2 (fun z hz => hb z (List.mem_cons_of_mem _ hz))
    have hmono : ∀ v ∈ P ++ x :: R ++ st.M, v ∈ P ++ x :: R ++ (stepP x st y).M := by
      intro v hv
      have hvb := h.bnd v hv
      have hv1 := (h.seen v hvb.1 hvb.2).2 hv
      exact (h1.seen v hvb.1 hvb.2).1 (mkS_mono hv1)
    refine ⟨h3, fun v hv => h4 v (hmono v hv), fun z hz => ?_⟩
    rcases List.mem_cons.1 hz with rfl | hz
    · exact h4 _ h2
    · exact h5 z hz
theorem QI.lev {rows : List (List Int)} {n a : Nat} (hok : okR rows) (hn : rows.length = n) (hasc : ∀ i, (rows.getD i []).Pairwise (· < ·)) (w : Int) : ∀ (row P : List Int) (st : BF), QI rows n a st.B st.S P (P ++ row ++ st.M) w [] → (∀ v ∈ P ++ row ++ st.M, v ≠ (a : Int) → st.B.getD v.toNat 0 ∈ P) →
    QI rows n a (row.foldl (rowP rows) st).B (row.foldl (rowP rows) st).S (P ++ row) (P ++ row ++ (row.foldl (rowP rows) st).M) w [] ∧ (∀ v ∈ P ++ row ++ (row.foldl (rowP rows) st).M, v ≠ (a : Int) → (row.foldl (rowP rows) st).B.getD v.toNat 0 ∈ P ++ row)
  | [], P, st, h, hP => by
    rw [List.append_nil] at *
    exact ⟨h, hP⟩
  | x :: row, P, st, h, hP => by
    have hnd := (List.nodup_append.1 h.nd).1
    have hx : x ∉ P := by
      have := (List.nodup_append.1 hnd).2.2
      intro hm
      exact this x hm x List.mem_cons_self rfl
    have h' : QI rows n a st.B st.S P (P ++ x :: row ++ st.M) x (rows.getD x.toNat []) := ⟨h.lB, h.lS, h.bnd, h.seen, h.clo, h.root, h.nd, fun v hv hva => .inl (hP v hv hva), h.frst, h.ord⟩
    obtain ⟨h1, h2, h3⟩ := QI.fold hx (rows.getD x.toNat []) st h' (hasc _) (fun z hz => by have := hok.row hz; rw [hn] at this; exact this)
    have e : P ++ x :: row = (P ++ [x]) ++ row := by simp
    rw [List.foldl_cons]
    have hrP : rowP rows st x = (rows.getD x.toNat []).foldl (stepP x) st := rfl
    rw [← hrP] at h1 h3
    generalize rowP rows st x = st' at h1 h3 ⊢
    rw [e] at h1 h3 ⊢
    have hP' : ∀ v ∈ P ++ [x] ++ row ++ st'.M, v ≠ (a : Int) → st'.B.getD v.toNat 0 ∈ P ++ [x] := by
      intro v hv hva
      rcases h1.par v hv hva with h4 | ⟨h4, _⟩
      · exact List.mem_append_left _ h4
      · rw [h4]; exact List.mem_append_right _ (List.mem_singleton.2 rfl)
    exact QI.lev hok hn hasc w row (P ++ [x]) st' ⟨h1.lB, h1.lS, h1.bnd, h1.seen, fun u hu y hy => by
      rcases List.mem_append.1 hu with hu | hu
      · exact h1.clo u hu y hy
      · rw [List.mem_singleton.1 hu] at hy; exact h3 y hy, h1.root, h1.nd, fun v hv hva => .inl (hP' v hv hva), h1.frst, h1.ord⟩ hP'
/-- where a level begins -/
structure QL (rows : List (List Int)) (n a : Nat) (B : List Int) (S : List Bool) (P row : List Int) : Prop where
  qi : QI rows n a B S P (P ++ row) 0 []
  par : ∀ v ∈ P ++ row, v ≠ (a : Int) → B.getD v.toNat 0 ∈ P
theorem QL.next {rows : List (List Int)} {n a : Nat} (hok : okR rows) (hn : rows.length = n) (hasc : ∀ i, (rows.getD i []).Pairwise (· < ·)) {B : List Int} {S : List Bool} {P row : List Int} (h : QL rows n a B S P row) :
    QL rows n a (levP rows B S row).B (levP rows B S row).S (P ++ row) (levP rows B S row).M := by
  have hq := h.qi
  have hp := h.par
  rw [← List.append_nil (P ++ row)] at hq hp
  obtain ⟨h1, h2⟩ := QI.lev hok hn hasc 0 row P ⟨B, S, []⟩ hq hp
  exact ⟨h1, h2⟩
theorem bfsG_order {rows : List (List Int)} {n a : Nat} (hok : okR rows) (hn : rows.length = n) (hasc : ∀ i, (rows.getD i []).Pairwise (· < ·)) {b : Int} : ∀ (g : Nat) (B : List Int) (S : List Bool) (P row : List Int) (s : BF), QL rows n a B S P row → bfsG rows b g B S row = some s → ∃ P', QL rows n a s.B s.S P' s.M
  | 0, _, _, _, _, _, _, h => by cases h
  | g + 1, B, S, P, row, s, hq, h => by
    unfold bfsG at h
    split at h
    · exact bfsG_order hok hn hasc g _ _ (P ++ row) _ s (hq.next hok hn hasc) h
    · cases h
      exact ⟨P, hq⟩
theorem QL.first {rows : List (List Int)} {n a : Nat} (ha : a < n) : QL rows n a (List.replicate n 0) ((List.replicate n false).set a true) [] [(a : Int)] := by
  have hz : ∀ i, (List.replicate n false).getD i false = false := by
    intro i
    rw [List.getD_eq_getElem?_getD, List.getElem?_replicate]
    split <;> rfl
  have hone : ∀ v, v ∈ [] ++ [(a : Int)] → v = (a : Int) := fun v hv => by simpa using hv
  refine ⟨⟨by simp, by simp, ?_, ?_, fun u hu => absurd hu List.not_mem_nil, by simp, by simp, ?_, ?_, ?_⟩, ?_⟩
  · intro v hv
    rw [hone v hv]
    omega
  · intro v h0 h1
    rw [getD_set_b]
    constructor
    · intro h
      split at h
      · rename_i e
        have : v = (a : Int) := by omega
        rw [this]
        simp
      · rw [hz] at h; cases h
    · intro h
      rw [hone v h, if_pos ⟨by omega, by rw [List.length_replicate]; omega⟩]
  · intro v hv hva
    exact absurd (hone v hv) hva
  · intro v hv hva
    exact absurd (hone v hv) hva
  · intro v hv v' hv' hva
    exact absurd (hone v hv) hva
  · intro v hv hva
    exact absurd (hone v hv) hva
theorem Wk.head {l : List (List Int)} {z b : Nat} : ∀ {d : Nat}, Wk l z (d + 1) b → ∃ y ∈ l.getD z [], Wk l y.toNat d b := by
  intro d h
  generalize e : d + 1 = q at h
  induction h generalizing d with
  | refl => omega
  | step h hy ih =>
    rename_i m i y
    match d, e with
    | 0, e =>
      have : m = 0 := by omega
      subst this
      cases h
      exact ⟨y, hy, .refl⟩
    | d + 1, e =>
      obtain ⟨u, hu, hw⟩ := ih (d := d) (by omega)
      exact ⟨u, hu, .step hw hy⟩
/-- a way that is found sooner stays ahead -/
theorem QI.beat {rows : List (List Int)} {n a b m : Nat} {B : List Int} {S : List Bool} {P Q : List Int} (hok : okR rows) (h : QI rows n a B S P Q 0 []) (hP : ∀ v ∈ Q, v ≠ (a : Int) → B.getD v.toNat 0 ∈ Q) (hin : ∀ k v, k ≤ m → Wk rows a k v → (v : Int) ∈ Q) (hmin : ∀ m', Wk rows a m' b → m ≤ m') {p : List Int}
    (hp : ∀ (j : Nat) (x y : Int), p[j]? = some x → p[j + 1]? = some y → B.getD y.toNat 0 = x ∧ y ≠ (a : Int) ∧ y ∈ Q) (hpl : p.length = m + 1) (hlast : p[m]? = some (b : Int)) :
    ∀ (d j : Nat) (z y : Int), j + d = m → p[j]? = some y → 0 ≤ z → z ∈ Q → y ∈ Q → Wk rows a j z.toNat → Wk rows z.toNat d b → ¬ ix Q z < ix Q y
  | 0, j, z, y, hj, hy, hz0, hz, hyQ, hw1, hw2 => by
    have e1 : y = (b : Int) := by
      rw [show j = m by omega, hlast] at hy
      exact (Option.some.inj hy).symm
    generalize ez : z.toNat = q at hw2
    cases hw2
    have : z = y := by omega
    rw [this]
    omega
  | d + 1, j, z, y, hj, hy, hz0, hz, hyQ, hw1, hw2 => by
    intro hlt
    obtain ⟨z1, hz1, hw3⟩ := hw2.head
    have hz1b := hok.row hz1
    have hy1 : p[j + 1]? = some p[j + 1] := List.getElem?_eq_getElem (by omega)
    obtain ⟨h1, h2, h3⟩ := hp j _ _ hy hy1
    have hw4 : Wk rows a (j + 1) z1.toNat := .step hw1 hz1
    have hz1Q : z1 ∈ Q := by
      have := hin (j + 1) z1.toNat (by omega) hw4
      rwa [Int.toNat_of_nonneg hz1b.1] at this
    have hz1a : z1 ≠ (a : Int) := by
      intro e
      rw [e, Int.toNat_natCast] at hw3
      have := hmin d hw3
      omega
    have h4 := h.frst z1 hz1Q hz1a z hz hz1
    have h5 := h.ord z1 hz1Q _ h3 hz1a h2 (.inl (by rw [h1]; omega))
    exact QI.beat hok h hP hin hmin hp hpl hlast d (j + 1) z1 _ (by omega) hy1 hz1b.1 hz1Q h3 hw4 hw3 h5
theorem QI.least {rows : List (List Int)} {n a b m : Nat} {B : List Int} {S : List Bool} {P Q : List Int} (hok : okR rows) (h : QI rows n a B S P Q 0 []) (hP : ∀ v ∈ Q, v ≠ (a : Int) → B.getD v.toNat 0 ∈ Q) (hin : ∀ k v, k ≤ m → Wk rows a k v → (v : Int) ∈ Q) (hmin : ∀ m', Wk rows a m' b → m ≤ m') {p : List Int}
    (hp : ∀ (j : Nat) (x y : Int), p[j]? = some x → p[j + 1]? = some y → B.getD y.toNat 0 = x ∧ y ≠ (a : Int) ∧ y ∈ Q) (hpl : p.length = m + 1) (hlast : p[m]? = some (b : Int))
    {i : Nat} {x y z : Int} (hx : p[i]? = some x) (hy : p[i + 1]? = some y) (hxQ : x ∈ Q) (hxw : Wk rows a i x.toNat) (hz : z ∈ rows.getD x.toNat []) (hw : Wk rows z.toNat (m - (i + 1)) b) : y ≤ z := by
  obtain ⟨h1, h2, h3⟩ := hp i _ _ hx hy
  have hi : i + 1 < m + 1 := by rw [← hpl]; exact (List.getElem?_eq_some_iff.1 hy).1
  have hzb := hok.row hz
  have hw4 : Wk rows a (i + 1) z.toNat := .step hxw hz
  have hzQ : z ∈ Q := by
    have := hin (i + 1) z.toNat (by omega) hw4
    rwa [Int.toNat_of_nonneg hzb.1] at this
  have hza : z ≠ (a : Int) := by
    intro e
    rw [e, Int.toNat_natCast] at hw
    have := hmin _ hw
    omega
  rcases Classical.em (z < y) with hlt | hge
  · exfalso
    have h4 := h.frst z hzQ hza x hxQ hz
    have h5 : ix Q z < ix Q y := by
      refine h.ord z hzQ y h3 hza h2 ?_
      rw [h1]
      rcases Nat.lt_or_ge (ix Q (B.getD z.toNat 0)) (ix Q x) with h6 | h6
      · exact .inl h6
      · exact .inr ⟨ix_inj (hP z hzQ hza) hxQ (by omega), hlt⟩
    exact QI.beat hok h hP hin hmin hp hpl hlast (m - (i + 1)) (i + 1) z y (by omega) hy hzb.1 hzQ h3 hw4 hw h5
  · omega
end Go.Proofs.Ytmlhnjonmjmhdaa.H
namespace Go.Proofs.Ytmlhnjonmjmhdaa.H
open Go.RowKit Go.Proofs.YtmlhnjonmjmhdaaW.PrintWords Go.Proofs.YtmlhnjonmjmhdaaW.PrintLast Go.Proofs.YtmlhnjonmjmhdaaW.PrintMore
attribute [local go_sem] max2_int min2_int max_two min_two max_three min_three max_four min_four
def lambrequinlaw10_shown.f (k : Nat)  : Option (Bool) := (graph_Parts.f k 3 (([(⟨0, 1⟩ : IPair), (⟨1, 0⟩ : IPair), (⟨1, 2⟩ : IPair)] : List (IPair)))).bind fun t104 => ((graph_Path.f k 3 (([(⟨0, 1⟩ : IPair), (⟨1, 2⟩ : IPair)] : List (IPair))) 0 2).bind fun t110 => ((lambrequinref10_Lists.f k t104 (([(([2] : List Int)), (([0, 1] : List Int))] : List (List Int)))).bind fun t122 => (if t122 = true then ((lambrequinref10_Ints.f k t110 (([0, 1, 2] : List Int))).bind fun t126 => (some t126)) else (some false))))
theorem lambrequinlaw10_shown.mono : ∀ k, LeO (lambrequinlaw10_shown.f k ) (lambrequinlaw10_shown.f (k + 1) ) := by
 intro  k
 unfold lambrequinlaw10_shown.f
 repeat' first
   | (with_reducible exact graph_Parts.mono _ _ _)
   | (with_reducible exact graph_Path.mono _ _ _ _ _)
   | (with_reducible exact lambrequinref10_Ints.mono _ _ _)
   | (with_reducible exact lambrequinref10_Lists.mono _ _ _)
   | (with_reducible exact LeO.refl _)
   | (with_reducible exact LeO.none _)
   | (with_reducible refine LeO.ite ?_ ?_)
   | (with_reducible refine LeO.bind ?_ (fun _ => ?_))
   | exact graph_Parts.mono _ _ _
   | exact graph_Path.mono _ _ _ _ _
   | exact lambrequinref10_Ints.mono _ _ _
   | exact lambrequinref10_Lists.mono _ _ _
   | exact LeO.none _
   | refine LeO.ite ?_ ?_
   | refine LeO.bind ?_ (fun _ => ?_)
set_option maxHeartbeats 8000000 in
set_option maxRecDepth 100000 in
theorem lambrequinlaw10_shown.calls (k : Nat)  (r : Bool) (w : World) (h : lambrequinlaw10_shown.f k  = some r) :
  Calls Try.prog 14 #[] w fun e w' => e = .returned (.bool r) ∧ Below w.heap.size w w' := by
 have hu27 := Try.underlying27
 have HB := am (Below.refl w.heap.size w)
 have H : ((graph_Parts.f k 3 (([(⟨0, 1⟩ : IPair), (⟨1, 0⟩ : IPair), (⟨1, 2⟩ : IPair)] : List (IPair)))).bind fun t104 => ((graph_Path.f k 3 (([(⟨0, 1⟩ : IPair), (⟨1, 2⟩ : IPair)] : List (IPair))) 0 2).bind fun t110 => ((lambrequinref10_Lists.f k t104 (([(([2] : List Int)), (([0, 1] : List Int))] : List (List Int)))).bind fun t122 => (if t122 = true then ((lambrequinref10_Ints.f k t110 (([0, 1, 2] : List Int))).bind fun t126 => (some t126)) else (some false))))) = some r := h
 clear h
 obtain ⟨y101, hy101⟩ : ∃ y_ : List (IPair), y_ = (([(⟨0, 1⟩ : IPair), (⟨1, 0⟩ : IPair), (⟨1, 2⟩ : IPair)] : List (IPair))) := ⟨_, rfl⟩
 replace H : ((graph_Parts.f k 3 y101).bind fun t104 => ((graph_Path.f k 3 (([(⟨0, 1⟩ : IPair), (⟨1, 2⟩ : IPair)] : List (IPair))) 0 2).bind fun t110 => ((lambrequinref10_Lists.f k t104 (([(([2] : List Int)), (([0, 1] : List Int))] : List (List Int)))).bind fun t122 => (if t122 = true then ((lambrequinref10_Ints.f k t110 (([0, 1, 2] : List Int))).bind fun t126 => (some t126)) else (some false))))) = some r := by first | (rw [hy101]; with_reducible exact H) | (have H2_ := (Option.bind_some _ _).symm.trans H; rw [hy101]; with_reducible exact H2_) | (have H2_ := (Option.bind_some _ _).symm.trans H; with_reducible exact H2_) | with_reducible exact H | (rw [hy101]; exact H) | exact H
 have Ny101 := am hy101
 clear hy101
 replace H := Option.bind_eq_some_iff.mp H
 obtain ⟨t104, A10, H⟩ := H
 replace H : ((graph_Path.f k 3 (([(⟨0, 1⟩ : IPair), (⟨1, 2⟩ : IPair)] : List (IPair))) 0 2).bind fun t110 => ((lambrequinref10_Lists.f k t104 (([(([2] : List Int)), (([0, 1] : List Int))] : List (List Int)))).bind fun t122 => (if t122 = true then ((lambrequinref10_Ints.f k t110 (([0, 1, 2] : List Int))).bind fun t126 => (some t126)) else (some false)))) = some r := H
 have A1 := am A10
 clear A10
 obtain ⟨y107, hy107⟩ : ∃ y_ : List (IPair), y_ = (([(⟨0, 1⟩ : IPair), (⟨1, 2⟩ : IPair)] : List (IPair))) := ⟨_, rfl⟩
 replace H : ((graph_Path.f k 3 y107 0 2).bind fun t110 => ((lambrequinref10_Lists.f k t104 (([(([2] : List Int)), (([0, 1] : List Int))] : List (List Int)))).bind fun t122 => (if t122 = true then ((lambrequinref10_Ints.f k t110 (([0, 1, 2] : List Int))).bind fun t126 => (some t126)) else (some false)))) = some r := by first | (rw [hy107]; with_reducible exact H) | (have H2_ := (Option.bind_some _ _).symm.trans H; rw [hy107]; with_reducible exact H2_) | (have H2_ := (Option.bind_some _ _).symm.trans H; with_reducible exact H2_) | with_reducible exact H | (rw [hy107]; exact H) | exact H
 have Ny107 := am hy107
 clear hy107
 replace H := Option.bind_eq_some_iff.mp H
 obtain ⟨t110, A20, H⟩ := H
 replace H : ((lambrequinref10_Lists.f k t104 (([(([2] : List Int)), (([0, 1] : List Int))] : List (List Int)))).bind fun t122 => (if t122 = true then ((lambrequinref10_Ints.f k t110 (([0, 1, 2] : List Int))).bind fun t126 => (some t126)) else (some false))) = some r := H
 have A2 := am A20
 clear A20
 obtain ⟨y113, hy113⟩ : ∃ y_ : List Int, y_ = (([2] : List Int)) := ⟨_, rfl⟩
 replace H : ((lambrequinref10_Lists.f k t104 (([y113, (([0, 1] : List Int))] : List (List Int)))).bind fun t122 => (if t122 = true then ((lambrequinref10_Ints.f k t110 (([0, 1, 2] : List Int))).bind fun t126 => (some t126)) else (some false))) = some r := by first | (rw [hy113]; with_reducible exact H) | (have H2_ := (Option.bind_some _ _).symm.trans H; rw [hy113]; with_reducible exact H2_) | (have H2_ := (Option.bind_some _ _).symm.trans H; with_reducible exact H2_) | with_reducible exact H | (rw [hy113]; exact H) | exact H
 have Ny113 := am hy113
 clear hy113
 obtain ⟨y116, hy116⟩ : ∃ y_ : List Int, y_ = (([0, 1] : List Int)) := ⟨_, rfl⟩
 replace H : ((lambrequinref10_Lists.f k t104 (([y113, y116] : List (List Int)))).bind fun t122 => (if t122 = true then ((lambrequinref10_Ints.f k t110 (([0, 1, 2] : List Int))).bind fun t126 => (some t126)) else (some false))) = some r := by first | (rw [hy116]; with_reducible exact H) | (have H2_ := (Option.bind_some _ _).symm.trans H; rw [hy116]; with_reducible exact H2_) | (have H2_ := (Option.bind_some _ _).symm.trans H; with_reducible exact H2_) | with_reducible exact H | (rw [hy116]; exact H) | exact H
 have Ny116 := am hy116
 clear hy116
 obtain ⟨y119, hy119⟩ : ∃ y_ : List (List Int), y_ = (([y113, y116] : List (List Int))) := ⟨_, rfl⟩
 replace H : ((lambrequinref10_Lists.f k t104 y119).bind fun t122 => (if t122 = true then ((lambrequinref10_Ints.f k t110 (([0, 1, 2] : List Int))).bind fun t126 => (some t126)) else (some false))) = some r := by first | (rw [hy119]; with_reducible exact H) | (have H2_ := (Option.bind_some _ _).symm.trans H; rw [hy119]; with_reducible exact H2_) | (have H2_ := (Option.bind_some _ _).symm.trans H; with_reducible exact H2_) | with_reducible exact H | (rw [hy119]; exact H) | exact H
 have Ny119 := am hy119
 clear hy119
 replace H := Option.bind_eq_some_iff.mp H
 obtain ⟨t122, A30, H⟩ := H
 replace H : (if t122 = true then ((lambrequinref10_Ints.f k t110 (([0, 1, 2] : List Int))).bind fun t126 => (some t126)) else (some false)) = some r := H
 have A3 := am A30
 clear A30
 by_cases c4 : t122 = true
 ·subst c4
  have H1 : ((lambrequinref10_Ints.f k t110 (([0, 1, 2] : List Int))).bind fun t126 => (some t126)) = some r := by rw [if_pos rfl] at H; exact H
  clear H
  have H := H1
  clear H1
  obtain ⟨y123, hy123⟩ : ∃ y_ : List Int, y_ = (([0, 1, 2] : List Int)) := ⟨_, rfl⟩
  replace H : ((lambrequinref10_Ints.f k t110 y123).bind fun t126 => (some t126)) = some r := by first | (rw [hy123]; with_reducible exact H) | (have H2_ := (Option.bind_some _ _).symm.trans H; rw [hy123]; with_reducible exact H2_) | (have H2_ := (Option.bind_some _ _).symm.trans H; with_reducible exact H2_) | with_reducible exact H | (rw [hy123]; exact H) | exact H
  have Ny123 := am hy123
  clear hy123
  replace H := Option.bind_eq_some_iff.mp H
  obtain ⟨t126, A50, H⟩ := H
  replace H : (some t126) = some r := H
  have A5 := am A50
  clear A50
  obtain rfl := Option.some.inj H
  go_enter Try.func14, Try.ntmps14
  go_wp2_with (first | ((with_reducible refine gate_dst (N := 6) rfl ?_); (try (refine gate_guard (by rfl) ?_; dsimp only)); refine Kd.R_lit k27 _ 27 ?hg (N := 6) ?hd (xs := ([(⟨0, 1⟩ : IPair), (⟨1, 0⟩ : IPair), (⟨1, 2⟩ : IPair)] : List (IPair))) (inner := [.int .i64 0, .int .i64 1, .int .i64 1, .int .i64 0, .int .i64 1, .int .i64 2]) (ok := fun _ => True) (okp := fun _ => True) ?hr ?hp (fun _ hk => hk) trivial (Below.refl _ _) (Nat.le_refl _) (by simp) ?_; (case hd => rfl); (case hg => rfl); (case hr => first | (go_simp; done) | (go_simp; rfl)); (case hp => exact (Reps.c2 (show Kd.M k27 _ _ _ (⟨0, 1⟩ : IPair) [.int .i64 0, .int .i64 1] from (k27_mkM _ _ _ (⟨0, 1⟩ : IPair) )) (Reps.c2 (show Kd.M k27 _ _ _ (⟨1, 0⟩ : IPair) [.int .i64 1, .int .i64 0] from (k27_mkM _ _ _ (⟨1, 0⟩ : IPair) )) (Reps.c2 (show Kd.M k27 _ _ _ (⟨1, 2⟩ : IPair) [.int .i64 1, .int .i64 2] from (k27_mkM _ _ _ (⟨1, 2⟩ : IPair) )) (Reps.none _ _))))); intro v102 w6 ho7 hb hg_ hnew_; clear hg_ hnew_; (first | rw [← Ny101.out] at ho7 | (simp only [Int.reduceToNat] at ho7; rw [← Ny101.out] at ho7)); have HO103 := am (Kd.R_lower ho7 (below_size (by repeat (first | (with_reducible first | exact HB.out | apply lA | apply lN | apply lD) | exact HB.out)))); replace HB := am (below_step (by repeat (first | (with_reducible first | exact HB.out | apply lA | apply lN | apply lD) | exact HB.out)) hb); clear hb ho7; obtain ⟨Ao8, co8, eo8⟩ := Kd.R_slice HO103.out; subst eo8) | ((with_reducible refine gate_callee (f := 18) rfl ?_); refine goesL_ (some 7) rfl rfl Try.func18 (by kernel_rfl) rfl #[.int .i64 3, .slice Ao8 y101.length co8] rfl (by (try simp only [List.map_toArray, List.map_cons, List.map_nil]); first | done | rfl | (simp only [List.length_drop, List.length_take]; rfl)) ?_; (with_reducible refine (graph_Parts.calls k 3 _ _ y101 t104 _ ?side1 ?side2 A1.out).mono ?_); (case side1 => repeat (first | exact (Kd.R_reads' HO103.out).2.2 | (with_reducible refine Kd.C_alloc ?_ _) | (with_reducible refine Kd.C_drewN ?_ _) | (with_reducible refine Kd.C_drew ?_))); (case side2 => exact (Kd.R_reads' HO103.out).2.1); rintro e w9 ⟨v105, rfl, ho0, hb⟩; refine ⟨_, rfl, ?_⟩; have HO106 := am (Kd.N_lower (Kd.N_mono (ok' := fun k_ => some k_ ≠ (.slice Ao8 y101.length co8 : Value).ownBlock) (Kd.S_N (Kd.S_bound ho0)) (fun k_ hk_ => (Kd.fresh' (Kd.R_lt (by (with_reducible repeat (first | apply Ra | apply Rn | apply Rd)); exact HO103.out)) k_ hk_.2.1))) (below_size (by repeat (first | (with_reducible first | exact HB.out | apply lA | apply lN | apply lD) | exact HB.out)))); replace HO103 := am (Kd.R_below (by (with_reducible repeat (first | apply Ra | apply Rn | apply Rd)); exact HO103.out) hb); replace HB := am (below_step (by repeat (first | (with_reducible first | exact HB.out | apply lA | apply lN | apply lD) | exact HB.out)) hb); (try clear hb); (try clear hb2); (try clear hk); (try clear hi); (try clear ho0)) | ((with_reducible refine gate_dst (N := 10) rfl ?_); (try (refine gate_guard (by rfl) ?_; dsimp only)); refine Kd.R_lit k27 _ 27 ?hg (N := 10) ?hd (xs := ([(⟨0, 1⟩ : IPair), (⟨1, 2⟩ : IPair)] : List (IPair))) (inner := [.int .i64 0, .int .i64 1, .int .i64 1, .int .i64 2]) (ok := fun _ => True) (okp := fun _ => True) ?hr ?hp (fun _ hk => hk) trivial (Below.refl _ _) (Nat.le_refl _) (by simp) ?_; (case hd => rfl); (case hg => rfl); (case hr => first | (go_simp; done) | (go_simp; rfl)); (case hp => exact (Reps.c2 (show Kd.M k27 _ _ _ (⟨0, 1⟩ : IPair) [.int .i64 0, .int .i64 1] from (k27_mkM _ _ _ (⟨0, 1⟩ : IPair) )) (Reps.c2 (show Kd.M k27 _ _ _ (⟨1, 2⟩ : IPair) [.int .i64 1, .int .i64 2] from (k27_mkM _ _ _ (⟨1, 2⟩ : IPair) )) (Reps.none _ _)))); intro v108 w10 ho11 hb hg_ hnew_; clear hg_ hnew_; (first | rw [← Ny107.out] at ho11 | (simp only [Int.reduceToNat] at ho11; rw [← Ny107.out] at ho11)); replace HO106 := am (Kd.N_elder' (by (with_reducible repeat (first | apply Kd.N_alloc | apply Kd.N_drewN | apply Kd.N_drew)); exact HO106.out) (Kd.R_base ho11) hb); have HO109 := am (Kd.R_lower (Kd.R_new' ho11 (Kd.R_lt (by (with_reducible repeat (first | apply Ra | apply Rn | apply Rd)); exact HO103.out))) (below_size (by repeat (first | (with_reducible first | exact HB.out | apply lA | apply lN | apply lD) | exact HB.out)))); replace HO103 := am (Kd.R_elder' (by (with_reducible repeat (first | apply Ra | apply Rn | apply Rd)); exact HO103.out) (Kd.R_base ho11) hb); replace HB := am (below_step (by repeat (first | (with_reducible first | exact HB.out | apply lA | apply lN | apply lD) | exact HB.out)) hb); clear hb ho11; obtain ⟨Ao12, co12, eo12⟩ := Kd.R_slice HO109.out; subst eo12) | ((with_reducible refine gate_callee (f := 20) rfl ?_); refine goesL_ (some 11) rfl rfl Try.func20 (by kernel_rfl) rfl #[.int .i64 3, .slice Ao12 y107.length co12, .int .i64 0, .int .i64 2] rfl (by (try simp only [List.map_toArray, List.map_cons, List.map_nil]); first | done | rfl | (simp only [List.length_drop, List.length_take]; rfl)) ?_; (with_reducible refine (graph_Path.calls k 3 _ _ y107 0 2 t110 _ ?side1 ?side2 A2.out).mono ?_); (case side1 => repeat (first | exact (Kd.R_reads' HO109.out).2.2 | (with_reducible refine Kd.C_alloc ?_ _) | (with_reducible refine Kd.C_drewN ?_ _) | (with_reducible refine Kd.C_drew ?_))); (case side2 => exact (Kd.R_reads' HO109.out).2.1); rintro e w13 ⟨v111, rfl, ho0, hb⟩; refine ⟨_, rfl, ?_⟩; replace HO103 := am (Kd.R_below (by (with_reducible repeat (first | apply Ra | apply Rn | apply Rd)); exact HO103.out) hb); replace HO106 := am (Kd.N_elder' (by (with_reducible repeat (first | apply Kd.N_alloc | apply Kd.N_drewN | apply Kd.N_drew)); exact HO106.out) (Kd.R_base ho0) hb); replace HO109 := am (Kd.R_below (by (with_reducible repeat (first | apply Ra | apply Rn | apply Rd)); exact HO109.out) hb); have HO112 := am (Kd.R_lower ho0 (below_size (by repeat (first | (with_reducible first | exact HB.out | apply lA | apply lN | apply lD) | exact HB.out)))); replace HB := am (below_step (by repeat (first | (with_reducible first | exact HB.out | apply lA | apply lN | apply lD) | exact HB.out)) hb); (try clear hb); (try clear hb2); (try clear hk); (try clear hi); (try clear ho0)) | ((with_reducible refine gate_dst (N := 13) rfl ?_); (try (refine gate_guard (by rfl) ?_; dsimp only)); refine Kd.R_lit (Kd.int .i64) _ 3 ?hg (N := 13) ?hd (xs := ([2] : List Int)) (inner := [.int .i64 2]) (ok := fun _ => True) (okp := fun _ => True) ?hr ?hp (fun _ hk => hk) trivial (Below.refl _ _) (Nat.le_refl _) (by simp) ?_; (case hd => rfl); (case hg => rfl); (case hr => first | (go_simp; done) | (go_simp; rfl)); (case hp => exact (Reps.one (show Kd.M (Kd.int .i64) _ _ _ 2 [.int .i64 2] from rfl) (Reps.none _ _))); intro v114 w14 ho15 hb hg_ hnew_; clear hg_ hnew_; (first | rw [← Ny113.out] at ho15 | (simp only [Int.reduceToNat] at ho15; rw [← Ny113.out] at ho15)); replace HO103 := am (Kd.R_below (by (with_reducible repeat (first | apply Ra | apply Rn | apply Rd)); exact HO103.out) hb); replace HO106 := am (Kd.N_elder' (by (with_reducible repeat (first | apply Kd.N_alloc | apply Kd.N_drewN | apply Kd.N_drew)); exact HO106.out) (Kd.R_base ho15) hb); replace HO109 := am (Kd.R_below (by (with_reducible repeat (first | apply Ra | apply Rn | apply Rd)); exact HO109.out) hb); have HO115 := am (Kd.R_lower (Kd.R_new' ho15 (Kd.R_lt (by (with_reducible repeat (first | apply Ra | apply Rn | apply Rd)); exact HO112.out))) (below_size (by repeat (first | (with_reducible first | exact HB.out | apply lA | apply lN | apply lD) | exact HB.out)))); replace HO112 := am (Kd.R_elder' (by (with_reducible repeat (first | apply Ra | apply Rn | apply Rd)); exact HO112.out) (Kd.R_base ho15) hb); replace HB := am (below_step (by repeat (first | (with_reducible first | exact HB.out | apply lA | apply lN | apply lD) | exact HB.out)) hb); clear hb ho15) | ((with_reducible refine gate_dst (N := 14) rfl ?_); (try (refine gate_guard (by rfl) ?_; dsimp only)); refine Kd.R_lit (Kd.int .i64) _ 3 ?hg (N := 14) ?hd (xs := ([0, 1] : List Int)) (inner := [.int .i64 0, .int .i64 1]) (ok := fun _ => True) (okp := fun _ => True) ?hr ?hp (fun _ hk => hk) trivial (Below.refl _ _) (Nat.le_refl _) (by simp) ?_; (case hd => rfl); (case hg => rfl); (case hr => first | (go_simp; done) | (go_simp; rfl)); (case hp => exact (Reps.one (show Kd.M (Kd.int .i64) _ _ _ 0 [.int .i64 0] from rfl) (Reps.one (show Kd.M (Kd.int .i64) _ _ _ 1 [.int .i64 1] from rfl) (Reps.none _ _)))); intro v117 w16 ho17 hb hg_ hnew_; clear hg_ hnew_; (first | rw [← Ny116.out] at ho17 | (simp only [Int.reduceToNat] at ho17; rw [← Ny116.out] at ho17)); replace HO103 := am (Kd.R_below (by (with_reducible repeat (first | apply Ra | apply Rn | apply Rd)); exact HO103.out) hb); replace HO106 := am (Kd.N_elder' (by (with_reducible repeat (first | apply Kd.N_alloc | apply Kd.N_drewN | apply Kd.N_drew)); exact HO106.out) (Kd.R_base ho17) hb); replace HO109 := am (Kd.R_below (by (with_reducible repeat (first | apply Ra | apply Rn | apply Rd)); exact HO109.out) hb); have HO118 := am (Kd.R_lower (Kd.R_new' (Kd.R_new' ho17 (Kd.R_lt (by (with_reducible repeat (first | apply Ra | apply Rn | apply Rd)); exact HO112.out))) (Kd.R_lt (by (with_reducible repeat (first | apply Ra | apply Rn | apply Rd)); exact HO115.out))) (below_size (by repeat (first | (with_reducible first | exact HB.out | apply lA | apply lN | apply lD) | exact HB.out)))); replace HO112 := am (Kd.R_elder' (by (with_reducible repeat (first | apply Ra | apply Rn | apply Rd)); exact HO112.out) (Kd.R_base ho17) hb); replace HO115 := am (Kd.R_elder' (by (with_reducible repeat (first | apply Ra | apply Rn | apply Rd)); exact HO115.out) (Kd.R_base ho17) hb); replace HB := am (below_step (by repeat (first | (with_reducible first | exact HB.out | apply lA | apply lN | apply lD) | exact HB.out)) hb); clear hb ho17; obtain ⟨Ao18, co18, eo18⟩ := Kd.R_slice HO115.out; subst eo18; obtain ⟨Ao19, co19, eo19⟩ := Kd.R_slice HO118.out; subst eo19) | ((with_reducible refine gate_dst (N := 15) rfl ?_); (try (refine gate_guard (by rfl) ?_; dsimp only)); refine Kd.N_lit (Kd.slice 3 (Kd.int .i64)) _ 35 ?hg (N' := 15) ?hd (xs := ([y113, y116] : List (List Int))) (inner := [.slice Ao18 y113.length co18, .slice Ao19 y116.length co19]) (ok := (fun k_ => some k_ ≠ (.slice Ao8 y101.length co8 : Value).ownBlock ∧ some k_ ≠ (v105 : Value).ownBlock ∧ some k_ ≠ (.slice Ao12 y107.length co12 : Value).ownBlock ∧ some k_ ≠ (v111 : Value).ownBlock)) (okp := (fun k_ => some k_ ≠ (.slice Ao8 y101.length co8 : Value).ownBlock ∧ some k_ ≠ (v105 : Value).ownBlock ∧ some k_ ≠ (.slice Ao12 y107.length co12 : Value).ownBlock ∧ some k_ ≠ (v111 : Value).ownBlock)) ?hr ?hp (fun _ hk => hk) ((show ∀ k_, w16.heap.size ≤ k_ → (fun k_ => some k_ ≠ (.slice Ao8 y101.length co8 : Value).ownBlock ∧ some k_ ≠ (v105 : Value).ownBlock ∧ some k_ ≠ (.slice Ao12 y107.length co12 : Value).ownBlock ∧ some k_ ≠ (v111 : Value).ownBlock) k_ from fun k_ hk => ⟨Kd.fresh' (Kd.R_lt (by (with_reducible repeat (first | apply Ra | apply Rn | apply Rd)); exact HO103.out)) k_ hk, Kd.fresh' (Kd.N_lt (by (with_reducible repeat (first | apply Kd.N_alloc | apply Kd.N_drewN | apply Kd.N_drew)); exact HO106.out)) k_ hk, Kd.fresh' (Kd.R_lt (by (with_reducible repeat (first | apply Ra | apply Rn | apply Rd)); exact HO109.out)) k_ hk, Kd.fresh' (Kd.R_lt (by (with_reducible repeat (first | apply Ra | apply Rn | apply Rd)); exact HO112.out)) k_ hk⟩) _ (Nat.le_refl _)) (Below.refl _ _) (Nat.le_refl _) (by simp) ?_; (case hd => rfl); (case hg => rfl); (case hr => first | (go_simp; done) | (go_simp; rfl)); (case hp => exact (Reps.one (show Kd.FK (Kd.slice 3 (Kd.int .i64)) _ _ y113 [.slice Ao18 y113.length co18] from (Kd.FK_slice_mk (Kd.R_reads' (Kd.R_mono (ok' := (fun k_ => some k_ ≠ (.slice Ao8 y101.length co8 : Value).ownBlock ∧ some k_ ≠ (v105 : Value).ownBlock ∧ some k_ ≠ (.slice Ao12 y107.length co12 : Value).ownBlock ∧ some k_ ≠ (v111 : Value).ownBlock)) (Kd.R_apart' (Kd.R_apart' (Kd.R_apart' (HO115.out) (Kd.R_typed HO103.out) (by decide)) (Kd.N_typed HO106.out) (by decide)) (Kd.R_typed HO109.out) (by decide)) (fun k_ hk => ⟨hk.1.1.2, ⟨hk.1.2, ⟨hk.2, hk.1.1.1.1.2⟩⟩⟩))).2.1 (Kd.R_F (Kd.R_mono (ok' := (fun k_ => some k_ ≠ (.slice Ao8 y101.length co8 : Value).ownBlock ∧ some k_ ≠ (v105 : Value).ownBlock ∧ some k_ ≠ (.slice Ao12 y107.length co12 : Value).ownBlock ∧ some k_ ≠ (v111 : Value).ownBlock)) (Kd.R_apart' (Kd.R_apart' (Kd.R_apart' (HO115.out) (Kd.R_typed HO103.out) (by decide)) (Kd.N_typed HO106.out) (by decide)) (Kd.R_typed HO109.out) (by decide)) (fun k_ hk => ⟨hk.1.1.2, ⟨hk.1.2, ⟨hk.2, hk.1.1.1.1.2⟩⟩⟩))))) (Reps.one (show Kd.FK (Kd.slice 3 (Kd.int .i64)) _ _ y116 [.slice Ao19 y116.length co19] from (Kd.FK_slice_mk (Kd.R_reads' (Kd.R_mono (ok' := (fun k_ => some k_ ≠ (.slice Ao8 y101.length co8 : Value).ownBlock ∧ some k_ ≠ (v105 : Value).ownBlock ∧ some k_ ≠ (.slice Ao12 y107.length co12 : Value).ownBlock ∧ some k_ ≠ (v111 : Value).ownBlock)) (Kd.R_apart' (Kd.R_apart' (Kd.R_apart' (HO118.out) (Kd.R_typed HO103.out) (by decide)) (Kd.N_typed HO106.out) (by decide)) (Kd.R_typed HO109.out) (by decide)) (fun k_ hk => ⟨hk.1.1.2, ⟨hk.1.2, ⟨hk.2, hk.1.1.1.1.2⟩⟩⟩))).2.1 (Kd.R_F (Kd.R_mono (ok' := (fun k_ => some k_ ≠ (.slice Ao8 y101.length co8 : Value).ownBlock ∧ some k_ ≠ (v105 : Value).ownBlock ∧ some k_ ≠ (.slice Ao12 y107.length co12 : Value).ownBlock ∧ some k_ ≠ (v111 : Value).ownBlock)) (Kd.R_apart' (Kd.R_apart' (Kd.R_apart' (HO118.out) (Kd.R_typed HO103.out) (by decide)) (Kd.N_typed HO106.out) (by decide)) (Kd.R_typed HO109.out) (by decide)) (fun k_ hk => ⟨hk.1.1.2, ⟨hk.1.2, ⟨hk.2, hk.1.1.1.1.2⟩⟩⟩))))) (Reps.none _ _)))); intro v120 w20 ho21 hb hg_ hnew_; clear hg_ hnew_; (first | rw [← Ny119.out] at ho21 | (simp only [Int.reduceToNat] at ho21; rw [← Ny119.out] at ho21)); replace HO103 := am (Kd.R_below (by (with_reducible repeat (first | apply Ra | apply Rn | apply Rd)); exact HO103.out) hb); replace HO106 := am (Kd.N_elder' (by (with_reducible repeat (first | apply Kd.N_alloc | apply Kd.N_drewN | apply Kd.N_drew)); exact HO106.out) (Kd.N_base ho21) hb); replace HO109 := am (Kd.R_below (by (with_reducible repeat (first | apply Ra | apply Rn | apply Rd)); exact HO109.out) hb); replace HO112 := am (Kd.R_below (by (with_reducible repeat (first | apply Ra | apply Rn | apply Rd)); exact HO112.out) hb); have HO121 := am (Kd.N_lower ho21 (below_size (by repeat (first | (with_reducible first | exact HB.out | apply lA | apply lN | apply lD) | exact HB.out)))); replace HB := am (below_step (by repeat (first | (with_reducible first | exact HB.out | apply lA | apply lN | apply lD) | exact HB.out)) hb); clear HO115 HO118; clear hb ho21; obtain ⟨Ao22, co22, eo22⟩ := Kd.N_slice HO106.out; subst eo22; obtain ⟨Ao23, co23, eo23⟩ := Kd.N_slice HO121.out; subst eo23) | ((with_reducible refine gate_callee (f := 17) rfl ?_); refine goesL_ (some 16) rfl rfl Try.func17 (by kernel_rfl) rfl #[.slice Ao22 t104.length co22, .slice Ao23 y119.length co23] rfl (by (try simp only [List.map_toArray, List.map_cons, List.map_nil]); first | done | rfl | (simp only [List.length_drop, List.length_take]; rfl)) ?_; (with_reducible refine (lambrequinref10_Lists.calls k _ _ t104 _ _ y119 true _ ?side1 ?side2 ?side3 ?side4 A3.out).mono ?_); (case side1 => repeat (first | exact (Kd.N_reads' HO106.out).2.2 | (with_reducible refine Kd.C_alloc ?_ _) | (with_reducible refine Kd.C_drewN ?_ _) | (with_reducible refine Kd.C_drew ?_))); (case side2 => exact (Kd.N_reads' HO106.out).2.1); (case side3 => repeat (first | exact (Kd.N_reads' HO121.out).2.2 | (with_reducible refine Kd.C_alloc ?_ _) | (with_reducible refine Kd.C_drewN ?_ _) | (with_reducible refine Kd.C_drew ?_))); (case side4 => exact (Kd.N_reads' HO121.out).2.1); rintro e w' ⟨rfl, ⟨nd, rfl⟩⟩; refine ⟨_, rfl, ?_⟩) | ((with_reducible refine gate_dst (N := 19) rfl ?_); (try (refine gate_guard (by rfl) ?_; dsimp only)); refine Kd.R_lit (Kd.int .i64) _ 3 ?hg (N := 19) ?hd (xs := ([0, 1, 2] : List Int)) (inner := [.int .i64 0, .int .i64 1, .int .i64 2]) (ok := fun _ => True) (okp := fun _ => True) ?hr ?hp (fun _ hk => hk) trivial (Below.refl _ _) (Nat.le_refl _) (by simp) ?_; (case hd => rfl); (case hg => rfl); (case hr => first | (go_simp; done) | (go_simp; rfl)); (case hp => exact (Reps.one (show Kd.M (Kd.int .i64) _ _ _ 0 [.int .i64 0] from rfl) (Reps.one (show Kd.M (Kd.int .i64) _ _ _ 1 [.int .i64 1] from rfl) (Reps.one (show Kd.M (Kd.int .i64) _ _ _ 2 [.int .i64 2] from rfl) (Reps.none _ _))))); intro v124 w24 ho25 hb hg_ hnew_; clear hg_ hnew_; (first | rw [← Ny123.out] at ho25 | (simp only [Int.reduceToNat] at ho25; rw [← Ny123.out] at ho25)); replace HO103 := am (Kd.R_below (by (with_reducible repeat (first | apply Ra | apply Rn | apply Rd)); exact HO103.out) hb); replace HO106 := am (Kd.N_elder' (by (with_reducible repeat (first | apply Kd.N_alloc | apply Kd.N_drewN | apply Kd.N_drew)); exact HO106.out) (Kd.R_base ho25) hb); replace HO109 := am (Kd.R_below (by (with_reducible repeat (first | apply Ra | apply Rn | apply Rd)); exact HO109.out) hb); replace HO121 := am (Kd.N_elder' (by (with_reducible repeat (first | apply Kd.N_alloc | apply Kd.N_drewN | apply Kd.N_drew)); exact HO121.out) (Kd.R_base ho25) hb); have HO125 := am (Kd.R_lower (Kd.R_new' ho25 (Kd.R_lt (by (with_reducible repeat (first | apply Ra | apply Rn | apply Rd)); exact HO112.out))) (below_size (by repeat (first | (with_reducible first | exact HB.out | apply lA | apply lN | apply lD) | exact HB.out)))); replace HO112 := am (Kd.R_elder' (by (with_reducible repeat (first | apply Ra | apply Rn | apply Rd)); exact HO112.out) (Kd.R_base ho25) hb); replace HB := am (below_step (by repeat (first | (with_reducible first | exact HB.out | apply lA | apply lN | apply lD) | exact HB.out)) hb); clear hb ho25; obtain ⟨Ao26, co26, eo26⟩ := Kd.R_slice HO112.out; subst eo26; obtain ⟨Ao27, co27, eo27⟩ := Kd.R_slice HO125.out; subst eo27) | (go_at_call 19; (with_reducible refine (lambrequinref10_Ints.calls k _ _ t110 _ _ y123 t126 _ ?side1 ?side2 ?side3 ?side4 A5.out).mono ?_); (case side1 => repeat (first | exact (Kd.R_reads' HO112.out).2.2 | (with_reducible refine Kd.C_alloc ?_ _) | (with_reducible refine Kd.C_drewN ?_ _) | (with_reducible refine Kd.C_drew ?_))); (case side2 => exact (Kd.R_reads' HO112.out).2.1); (case side3 => repeat (first | exact (Kd.R_reads' HO125.out).2.2 | (with_reducible refine Kd.C_alloc ?_ _) | (with_reducible refine Kd.C_drewN ?_ _) | (with_reducible refine Kd.C_drew ?_))); (case side4 => exact (Kd.R_reads' HO125.out).2.1); rintro e w' ⟨rfl, ⟨nd, rfl⟩⟩))
  go_ret
  exact ⟨by first | rfl | (simp [errW_none, errW_some] <;> rfl) | (simp [*, errW_none, errW_some] <;> rfl), by repeat (first | (with_reducible first | exact HB.out | apply lA | apply lN | apply lD) | exact HB.out)⟩
 ·replace c4 := Bool.eq_false_iff.mpr c4
  subst c4
  have H1 : (some false) = some r := by rw [if_neg (show ¬ (false = true) by decide)] at H; exact H
  clear H
  have H := H1
  clear H1
  obtain rfl := Option.some.inj H
  go_enter Try.func14, Try.ntmps14
  go_wp2_with (first | ((with_reducible refine gate_dst (N := 6) rfl ?_); (try (refine gate_guard (by rfl) ?_; dsimp only)); refine Kd.R_lit k27 _ 27 ?hg (N := 6) ?hd (xs := ([(⟨0, 1⟩ : IPair), (⟨1, 0⟩ : IPair), (⟨1, 2⟩ : IPair)] : List (IPair))) (inner := [.int .i64 0, .int .i64 1, .int .i64 1, .int .i64 0, .int .i64 1, .int .i64 2]) (ok := fun _ => True) (okp := fun _ => True) ?hr ?hp (fun _ hk => hk) trivial (Below.refl _ _) (Nat.le_refl _) (by simp) ?_; (case hd => rfl); (case hg => rfl); (case hr => first | (go_simp; done) | (go_simp; rfl)); (case hp => exact (Reps.c2 (show Kd.M k27 _ _ _ (⟨0, 1⟩ : IPair) [.int .i64 0, .int .i64 1] from (k27_mkM _ _ _ (⟨0, 1⟩ : IPair) )) (Reps.c2 (show Kd.M k27 _ _ _ (⟨1, 0⟩ : IPair) [.int .i64 1, .int .i64 0] from (k27_mkM _ _ _ (⟨1, 0⟩ : IPair) )) (Reps.c2 (show Kd.M k27 _ _ _ (⟨1, 2⟩ : IPair) [.int .i64 1, .int .i64 2] from (k27_mkM _ _ _ (⟨1, 2⟩ : IPair) )) (Reps.none _ _))))); intro v102 w28 ho29 hb hg_ hnew_; clear hg_ hnew_; (first | rw [← Ny101.out] at ho29 | (simp only [Int.reduceToNat] at ho29; rw [← Ny101.out] at ho29)); have HO103 := am (Kd.R_lower ho29 (below_size (by repeat (first | (with_reducible first | exact HB.out | apply lA | apply lN | apply lD) | exact HB.out)))); replace HB := am (below_step (by repeat (first | (with_reducible first | exact HB.out | apply lA | apply lN | apply lD) | exact HB.out)) hb); clear hb ho29; obtain ⟨Ao30, co30, eo30⟩ := Kd.R_slice HO103.out; subst eo30) | ((with_reducible refine gate_callee (f := 18) rfl ?_); refine goesL_ (some 7) rfl rfl Try.func18 (by kernel_rfl) rfl #[.int .i64 3, .slice Ao30 y101.length co30] rfl (by (try simp only [List.map_toArray, List.map_cons, List.map_nil]); first | done | rfl | (simp only [List.length_drop, List.length_take]; rfl)) ?_; (with_reducible refine (graph_Parts.calls k 3 _ _ y101 t104 _ ?side1 ?side2 A1.out).mono ?_); (case side1 => repeat (first | exact (Kd.R_reads' HO103.out).2.2 | (with_reducible refine Kd.C_alloc ?_ _) | (with_reducible refine Kd.C_drewN ?_ _) | (with_reducible refine Kd.C_drew ?_))); (case side2 => exact (Kd.R_reads' HO103.out).2.1); rintro e w31 ⟨v105, rfl, ho0, hb⟩; refine ⟨_, rfl, ?_⟩; have HO106 := am (Kd.N_lower (Kd.N_mono (ok' := fun k_ => some k_ ≠ (.slice Ao30 y101.length co30 : Value).ownBlock) (Kd.S_N (Kd.S_bound ho0)) (fun k_ hk_ => (Kd.fresh' (Kd.R_lt (by (with_reducible repeat (first | apply Ra | apply Rn | apply Rd)); exact HO103.out)) k_ hk_.2.1))) (below_size (by repeat (first | (with_reducible first | exact HB.out | apply lA | apply lN | apply lD) | exact HB.out)))); replace HO103 := am (Kd.R_below (by (with_reducible repeat (first | apply Ra | apply Rn | apply Rd)); exact HO103.out) hb); replace HB := am (below_step (by repeat (first | (with_reducible first | exact HB.out | apply lA | apply lN | apply lD) | exact HB.out)) hb); (try clear hb); (try clear hb2); (try clear hk); (try clear hi); (try clear ho0)) | ((with_reducible refine gate_dst (N := 10) rfl ?_); (try (refine gate_guard (by rfl) ?_; dsimp only)); refine Kd.R_lit k27 _ 27 ?hg (N := 10) ?hd (xs := ([(⟨0, 1⟩ : IPair), (⟨1, 2⟩ : IPair)] : List (IPair))) (inner := [.int .i64 0, .int .i64 1, .int .i64 1, .int .i64 2]) (ok := fun _ => True) (okp := fun _ => True) ?hr ?hp (fun _ hk => hk) trivial (Below.refl _ _) (Nat.le_refl _) (by simp) ?_; (case hd => rfl); (case hg => rfl); (case hr => first | (go_simp; done) | (go_simp; rfl)); (case hp => exact (Reps.c2 (show Kd.M k27 _ _ _ (⟨0, 1⟩ : IPair) [.int .i64 0, .int .i64 1] from (k27_mkM _ _ _ (⟨0, 1⟩ : IPair) )) (Reps.c2 (show Kd.M k27 _ _ _ (⟨1, 2⟩ : IPair) [.int .i64 1, .int .i64 2] from (k27_mkM _ _ _ (⟨1, 2⟩ : IPair) )) (Reps.none _ _)))); intro v108 w32 ho33 hb hg_ hnew_; clear hg_ hnew_; (first | rw [← Ny107.out] at ho33 | (simp only [Int.reduceToNat] at ho33; rw [← Ny107.out] at ho33)); replace HO106 := am (Kd.N_elder' (by (with_reducible repeat (first | apply Kd.N_alloc | apply Kd.N_drewN | apply Kd.N_drew)); exact HO106.out) (Kd.R_base ho33) hb); have HO109 := am (Kd.R_lower (Kd.R_new' ho33 (Kd.R_lt (by (with_reducible repeat (first | apply Ra | apply Rn | apply Rd)); exact HO103.out))) (below_size (by repeat (first | (with_reducible first | exact HB.out | apply lA | apply lN | apply lD) | exact HB.out)))); replace HO103 := am (Kd.R_elder' (by (with_reducible repeat (first | apply Ra | apply Rn | apply Rd)); exact HO103.out) (Kd.R_base ho33) hb); replace HB := am (below_step (by repeat (first | (with_reducible first | exact HB.out | apply lA | apply lN | apply lD) | exact HB.out)) hb); clear hb ho33; obtain ⟨Ao34, co34, eo34⟩ := Kd.R_slice HO109.out; subst eo34) | ((with_reducible refine gate_callee (f := 20) rfl ?_); refine goesL_ (some 11) rfl rfl Try.func20 (by kernel_rfl) rfl #[.int .i64 3, .slice Ao34 y107.length co34, .int .i64 0, .int .i64 2] rfl (by (try simp only [List.map_toArray, List.map_cons, List.map_nil]); first | done | rfl | (simp only [List.length_drop, List.length_take]; rfl)) ?_; (with_reducible refine (graph_Path.calls k 3 _ _ y107 0 2 t110 _ ?side1 ?side2 A2.out).mono ?_); (case side1 => repeat (first | exact (Kd.R_reads' HO109.out).2.2 | (with_reducible refine Kd.C_alloc ?_ _) | (with_reducible refine Kd.C_drewN ?_ _) | (with_reducible refine Kd.C_drew ?_))); (case side2 => exact (Kd.R_reads' HO109.out).2.1); rintro e w35 ⟨v111, rfl, ho0, hb⟩; refine ⟨_, rfl, ?_⟩; replace HO103 := am (Kd.R_below (by (with_reducible repeat (first | apply Ra | apply Rn | apply Rd)); exact HO103.out) hb); replace HO106 := am (Kd.N_elder' (by (with_reducible repeat (first | apply Kd.N_alloc | apply Kd.N_drewN | apply Kd.N_drew)); exact HO106.out) (Kd.R_base ho0) hb); replace HO109 := am (Kd.R_below (by (with_reducible repeat (first | apply Ra | apply Rn | apply Rd)); exact HO109.out) hb); have HO112 := am (Kd.R_lower ho0 (below_size (by repeat (first | (with_reducible first | exact HB.out | apply lA | apply lN | apply lD) | exact HB.out)))); replace HB := am (below_step (by repeat (first | (with_reducible first | exact HB.out | apply lA | apply lN | apply lD) | exact HB.out)) hb); (try clear hb); (try clear hb2); (try clear hk); (try clear hi); (try clear ho0)) | ((with_reducible refine gate_dst (N := 13) rfl ?_); (try (refine gate_guard (by rfl) ?_; dsimp only)); refine Kd.R_lit (Kd.int .i64) _ 3 ?hg (N := 13) ?hd (xs := ([2] : List Int)) (inner := [.int .i64 2]) (ok := fun _ => True) (okp := fun _ => True) ?hr ?hp (fun _ hk => hk) trivial (Below.refl _ _) (Nat.le_refl _) (by simp) ?_; (case hd => rfl); (case hg => rfl); (case hr => first | (go_simp; done) | (go_simp; rfl)); (case hp => exact (Reps.one (show Kd.M (Kd.int .i64) _ _ _ 2 [.int .i64 2] from rfl) (Reps.none _ _))); intro v114 w36 ho37 hb hg_ hnew_; clear hg_ hnew_; (first | rw [← Ny113.out] at ho37 | (simp only [Int.reduceToNat] at ho37; rw [← Ny113.out] at ho37)); replace HO103 := am (Kd.R_below (by (with_reducible repeat (first | apply Ra | apply Rn | apply Rd)); exact HO103.out) hb); replace HO106 := am (Kd.N_elder' (by (with_reducible repeat (first | apply Kd.N_alloc | apply Kd.N_drewN | apply Kd.N_drew)); exact HO106.out) (Kd.R_base ho37) hb); replace HO109 := am (Kd.R_below (by (with_reducible repeat (first | apply Ra | apply Rn | apply Rd)); exact HO109.out) hb); have HO115 := am (Kd.R_lower (Kd.R_new' ho37 (Kd.R_lt (by (with_reducible repeat (first | apply Ra | apply Rn | apply Rd)); exact HO112.out))) (below_size (by repeat (first | (with_reducible first | exact HB.out | apply lA | apply lN | apply lD) | exact HB.out)))); replace HO112 := am (Kd.R_elder' (by (with_reducible repeat (first | apply Ra | apply Rn | apply Rd)); exact HO112.out) (Kd.R_base ho37) hb); replace HB := am (below_step (by repeat (first | (with_reducible first | exact HB.out | apply lA | apply lN | apply lD) | exact HB.out)) hb); clear hb ho37) | ((with_reducible refine gate_dst (N := 14) rfl ?_); (try (refine gate_guard (by rfl) ?_; dsimp only)); refine Kd.R_lit (Kd.int .i64) _ 3 ?hg (N := 14) ?hd (xs := ([0, 1] : List Int)) (inner := [.int .i64 0, .int .i64 1]) (ok := fun _ => True) (okp := fun _ => True) ?hr ?hp (fun _ hk => hk) trivial (Below.refl _ _) (Nat.le_refl _) (by simp) ?_; (case hd => rfl); (case hg => rfl); (case hr => first | (go_simp; done) | (go_simp; rfl)); (case hp => exact (Reps.one (show Kd.M (Kd.int .i64) _ _ _ 0 [.int .i64 0] from rfl) (Reps.one (show Kd.M (Kd.int .i64) _ _ _ 1 [.int .i64 1] from rfl) (Reps.none _ _)))); intro v117 w38 ho39 hb hg_ hnew_; clear hg_ hnew_; (first | rw [← Ny116.out] at ho39 | (simp only [Int.reduceToNat] at ho39; rw [← Ny116.out] at ho39)); replace HO103 := am (Kd.R_below (by (with_reducible repeat (first | apply Ra | apply Rn | apply Rd)); exact HO103.out) hb); replace HO106 := am (Kd.N_elder' (by (with_reducible repeat (first | apply Kd.N_alloc | apply Kd.N_drewN | apply Kd.N_drew)); exact HO106.out) (Kd.R_base ho39) hb); replace HO109 := am (Kd.R_below (by (with_reducible repeat (first | apply Ra | apply Rn | apply Rd)); exact HO109.out) hb); have HO118 := am (Kd.R_lower (Kd.R_new' (Kd.R_new' ho39 (Kd.R_lt (by (with_reducible repeat (first | apply Ra | apply Rn | apply Rd)); exact HO112.out))) (Kd.R_lt (by (with_reducible repeat (first | apply Ra | apply Rn | apply Rd)); exact HO115.out))) (below_size (by repeat (first | (with_reducible first | exact HB.out | apply lA | apply lN | apply lD) | exact HB.out)))); replace HO112 := am (Kd.R_elder' (by (with_reducible repeat (first | apply Ra | apply Rn | apply Rd)); exact HO112.out) (Kd.R_base ho39) hb); replace HO115 := am (Kd.R_elder' (by (with_reducible repeat (first | apply Ra | apply Rn | apply Rd)); exact HO115.out) (Kd.R_base ho39) hb); replace HB := am (below_step (by repeat (first | (with_reducible first | exact HB.out | apply lA | apply lN | apply lD) | exact HB.out)) hb); clear hb ho39; obtain ⟨Ao40, co40, eo40⟩ := Kd.R_slice HO115.out; subst eo40; obtain ⟨Ao41, co41, eo41⟩ := Kd.R_slice HO118.out; subst eo41) | ((with_reducible refine gate_dst (N := 15) rfl ?_); (try (refine gate_guard (by rfl) ?_; dsimp only)); refine Kd.N_lit (Kd.slice 3 (Kd.int .i64)) _ 35 ?hg (N' := 15) ?hd (xs := ([y113, y116] : List (List Int))) (inner := [.slice Ao40 y113.length co40, .slice Ao41 y116.length co41]) (ok := (fun k_ => some k_ ≠ (.slice Ao30 y101.length co30 : Value).ownBlock ∧ some k_ ≠ (v105 : Value).ownBlock ∧ some k_ ≠ (.slice Ao34 y107.length co34 : Value).ownBlock ∧ some k_ ≠ (v111 : Value).ownBlock)) (okp := (fun k_ => some k_ ≠ (.slice Ao30 y101.length co30 : Value).ownBlock ∧ some k_ ≠ (v105 : Value).ownBlock ∧ some k_ ≠ (.slice Ao34 y107.length co34 : Value).ownBlock ∧ some k_ ≠ (v111 : Value).ownBlock)) ?hr ?hp (fun _ hk => hk) ((show ∀ k_, w38.heap.size ≤ k_ → (fun k_ => some k_ ≠ (.slice Ao30 y101.length co30 : Value).ownBlock ∧ some k_ ≠ (v105 : Value).ownBlock ∧ some k_ ≠ (.slice Ao34 y107.length co34 : Value).ownBlock ∧ some k_ ≠ (v111 : Value).ownBlock) k_ from fun k_ hk => ⟨Kd.fresh' (Kd.R_lt (by (with_reducible repeat (first | apply Ra | apply Rn | apply Rd)); exact HO103.out)) k_ hk, Kd.fresh' (Kd.N_lt (by (with_reducible repeat (first | apply Kd.N_alloc | apply Kd.N_drewN | apply Kd.N_drew)); exact HO106.out)) k_ hk, Kd.fresh' (Kd.R_lt (by (with_reducible repeat (first | apply Ra | apply Rn | apply Rd)); exact HO109.out)) k_ hk, Kd.fresh' (Kd.R_lt (by (with_reducible repeat (first | apply Ra | apply Rn | apply Rd)); exact HO112.out)) k_ hk⟩) _ (Nat.le_refl _)) (Below.refl _ _) (Nat.le_refl _) (by simp) ?_; (case hd => rfl); (case hg => rfl); (case hr => first | (go_simp; done) | (go_simp; rfl)); (case hp => exact (Reps.one (show Kd.FK (Kd.slice 3 (Kd.int .i64)) _ _ y113 [.slice Ao40 y113.length co40] from (Kd.FK_slice_mk (Kd.R_reads' (Kd.R_mono (ok' := (fun k_ => some k_ ≠ (.slice Ao30 y101.length co30 : Value).ownBlock ∧ some k_ ≠ (v105 : Value).ownBlock ∧ some k_ ≠ (.slice Ao34 y107.length co34 : Value).ownBlock ∧ some k_ ≠ (v111 : Value).ownBlock)) (Kd.R_apart' (Kd.R_apart' (Kd.R_apart' (HO115.out) (Kd.R_typed HO103.out) (by decide)) (Kd.N_typed HO106.out) (by decide)) (Kd.R_typed HO109.out) (by decide)) (fun k_ hk => ⟨hk.1.1.2, ⟨hk.1.2, ⟨hk.2, hk.1.1.1.1.2⟩⟩⟩))).2.1 (Kd.R_F (Kd.R_mono (ok' := (fun k_ => some k_ ≠ (.slice Ao30 y101.length co30 : Value).ownBlock ∧ some k_ ≠ (v105 : Value).ownBlock ∧ some k_ ≠ (.slice Ao34 y107.length co34 : Value).ownBlock ∧ some k_ ≠ (v111 : Value).ownBlock)) (Kd.R_apart' (Kd.R_apart' (Kd.R_apart' (HO115.out) (Kd.R_typed HO103.out) (by decide)) (Kd.N_typed HO106.out) (by decide)) (Kd.R_typed HO109.out) (by decide)) (fun k_ hk => ⟨hk.1.1.2, ⟨hk.1.2, ⟨hk.2, hk.1.1.1.1.2⟩⟩⟩))))) (Reps.one (show Kd.FK (Kd.slice 3 (Kd.int .i64)) _ _ y116 [.slice Ao41 y116.length co41] from (Kd.FK_slice_mk (Kd.R_reads' (Kd.R_mono (ok' := (fun k_ => some k_ ≠ (.slice Ao30 y101.length co30 : Value).ownBlock ∧ some k_ ≠ (v105 : Value).ownBlock ∧ some k_ ≠ (.slice Ao34 y107.length co34 : Value).ownBlock ∧ some k_ ≠ (v111 : Value).ownBlock)) (Kd.R_apart' (Kd.R_apart' (Kd.R_apart' (HO118.out) (Kd.R_typed HO103.out) (by decide)) (Kd.N_typed HO106.out) (by decide)) (Kd.R_typed HO109.out) (by decide)) (fun k_ hk => ⟨hk.1.1.2, ⟨hk.1.2, ⟨hk.2, hk.1.1.1.1.2⟩⟩⟩))).2.1 (Kd.R_F (Kd.R_mono (ok' := (fun k_ => some k_ ≠ (.slice Ao30 y101.length co30 : Value).ownBlock ∧ some k_ ≠ (v105 : Value).ownBlock ∧ some k_ ≠ (.slice Ao34 y107.length co34 : Value).ownBlock ∧ some k_ ≠ (v111 : Value).ownBlock)) (Kd.R_apart' (Kd.R_apart' (Kd.R_apart' (HO118.out) (Kd.R_typed HO103.out) (by decide)) (Kd.N_typed HO106.out) (by decide)) (Kd.R_typed HO109.out) (by decide)) (fun k_ hk => ⟨hk.1.1.2, ⟨hk.1.2, ⟨hk.2, hk.1.1.1.1.2⟩⟩⟩))))) (Reps.none _ _)))); intro v120 w42 ho43 hb hg_ hnew_; clear hg_ hnew_; (first | rw [← Ny119.out] at ho43 | (simp only [Int.reduceToNat] at ho43; rw [← Ny119.out] at ho43)); replace HO103 := am (Kd.R_below (by (with_reducible repeat (first | apply Ra | apply Rn | apply Rd)); exact HO103.out) hb); replace HO106 := am (Kd.N_elder' (by (with_reducible repeat (first | apply Kd.N_alloc | apply Kd.N_drewN | apply Kd.N_drew)); exact HO106.out) (Kd.N_base ho43) hb); replace HO109 := am (Kd.R_below (by (with_reducible repeat (first | apply Ra | apply Rn | apply Rd)); exact HO109.out) hb); replace HO112 := am (Kd.R_below (by (with_reducible repeat (first | apply Ra | apply Rn | apply Rd)); exact HO112.out) hb); have HO121 := am (Kd.N_lower ho43 (below_size (by repeat (first | (with_reducible first | exact HB.out | apply lA | apply lN | apply lD) | exact HB.out)))); replace HB := am (below_step (by repeat (first | (with_reducible first | exact HB.out | apply lA | apply lN | apply lD) | exact HB.out)) hb); clear HO115 HO118; clear hb ho43; obtain ⟨Ao44, co44, eo44⟩ := Kd.N_slice HO106.out; subst eo44; obtain ⟨Ao45, co45, eo45⟩ := Kd.N_slice HO121.out; subst eo45) | ((with_reducible refine gate_callee (f := 17) rfl ?_); refine goesL_ (some 16) rfl rfl Try.func17 (by kernel_rfl) rfl #[.slice Ao44 t104.length co44, .slice Ao45 y119.length co45] rfl (by (try simp only [List.map_toArray, List.map_cons, List.map_nil]); first | done | rfl | (simp only [List.length_drop, List.length_take]; rfl)) ?_; (with_reducible refine (lambrequinref10_Lists.calls k _ _ t104 _ _ y119 false _ ?side1 ?side2 ?side3 ?side4 A3.out).mono ?_); (case side1 => repeat (first | exact (Kd.N_reads' HO106.out).2.2 | (with_reducible refine Kd.C_alloc ?_ _) | (with_reducible refine Kd.C_drewN ?_ _) | (with_reducible refine Kd.C_drew ?_))); (case side2 => exact (Kd.N_reads' HO106.out).2.1); (case side3 => repeat (first | exact (Kd.N_reads' HO121.out).2.2 | (with_reducible refine Kd.C_alloc ?_ _) | (with_reducible refine Kd.C_drewN ?_ _) | (with_reducible refine Kd.C_drew ?_))); (case side4 => exact (Kd.N_reads' HO121.out).2.1); rintro e w' ⟨rfl, ⟨nd, rfl⟩⟩; refine ⟨_, rfl, ?_⟩))
  go_ret
  exact ⟨by first | rfl | (simp [errW_none, errW_some] <;> rfl) | (simp [*, errW_none, errW_some] <;> rfl), by repeat (first | (with_reducible first | exact HB.out | apply lA | apply lN | apply lD) | exact HB.out)⟩
end Go.Proofs.Ytmlhnjonmjmhdaa.H
/- the document's example, reckoned -/
namespace Go.Proofs.Ytmlhnjonmjmhdaa.H
open Go.RowKit Go.Proofs.YtmlhnjonmjmhdaaW.PrintWords
theorem sortL_self {l : List IPair} (h : l.Pairwise lexLe) : sortL l = l := (sortL_eq (List.Perm.refl l) h).symm
def ex1 : List IPair := [⟨0, 1⟩, ⟨1, 0⟩, ⟨1, 2⟩]
def ex2 : List IPair := [⟨0, 1⟩, ⟨1, 2⟩]
theorem ex1_s : dd (sortL ex1) = ex1 := by rw [sortL_self (by decide)]; decide
theorem ex2_s : dd (sortL ex2) = ex2 := by rw [sortL_self (by decide)]; decide
theorem ex_bad1 : cleanBad ((3 : Nat) : Int) ex1 = false := by decide
theorem ex_bad2 : cleanBad ((3 : Nat) : Int) ex2 = false := by decide
theorem ex1_r : nextR 3 ex1 = [[1], [0, 2], []] := by decide
theorem ex2_r : nextR 3 ex2 = [[1], [2], []] := by decide
theorem Parts_x : Ev (fun k => graph_Parts.f k 3 ex1) [[2], [0, 1]] := by
  have h := nexts_ev (l := ex1) (n := 3) (by decide) ex_bad1
  rw [ex1_s, ex1_r] at h
  unfold graph_Parts.f
  exact Ev.bind h (Ev.pos rfl (Ev.pos ⟨by decide, by decide, by decide⟩ (Ev.of (k := 4) (fun k => partsG_more _ _ k _ _ _) (by decide))))
theorem Path_x : Ev (fun k => graph_Path.f k 3 ex2 0 2) [0, 1, 2] := by
  have h := nexts_ev (l := ex2) (n := 3) (by decide) ex_bad2
  rw [ex2_s, ex2_r] at h
  unfold graph_Path.f
  refine Ev.bind h (Ev.pos ⟨rfl, by decide⟩ (Ev.pos ⟨by decide, by decide, by decide⟩ ?_))
  refine Ev.bind (a := ⟨[0, 0, 1], [true, true, true], [2]⟩) (Ev.of (k := 5) (fun k => bfsG_more _ _ k _ _ _) (by rfl)) (Ev.pos (by decide) ?_)
  refine Ev.bind (a := [2, 1, 0]) (Ev.of (k := 5) (fun k => backG_more _ _ k _ _) (by decide)) ?_
  exact Ev.of (k := 5) (fun k => slices_Reverse_int_int.mono _ k) (by first | rfl | kernel_rfl | decide +kernel | simp [slices_Reverse_int_int.f, slices_Reverse_int_int.l0, rd, wrap64])
theorem shown10_ev : Ev (fun k => lambrequinlaw10_shown.f k) true := by
  unfold lambrequinlaw10_shown.f
  refine Ev.bind Parts_x (Ev.bind Path_x (Ev.bind (Lists_refl _ (by decide) (by decide)) (Ev.pos rfl (Ev.bind (Ints_refl _ (by decide)) (Ev.now _)))))
end Go.Proofs.Ytmlhnjonmjmhdaa.H
/- graph.Clean of the same edges, however they come -/
namespace Go.Proofs.Ytmlhnjonmjmhdaa.H
open Go.RowKit Go.Proofs.YtmlhnjonmjmhdaaW.PrintWords
theorem partsG_len {tt : List (List Bool)} {n : Nat} : ∀ (k : Nat) (left : Int) (done : List Bool) (out p : List (List Int)), partsG tt n k left done out = some p → out.length ≤ 100001 → (∀ r ∈ out, r.length ≤ n) → p.length ≤ 100001 ∧ ∀ r ∈ p, r.length ≤ n
  | 0, _, _, _, _, h, _, _ => by cases h
  | k + 1, left, done, out, p, h, hl, hr => by
    unfold partsG at h
    split at h
    · split at h
      · rename_i h2
        obtain ⟨x, hx, h⟩ := Option.bind_eq_some_iff.1 h
        refine partsG_len k _ _ _ _ h (by rw [List.length_append, List.length_singleton]; omega) ?_
        intro r hr2
        rcases List.mem_append.1 hr2 with hr2 | hr2
        · exact hr r hr2
        · rw [List.mem_singleton.1 hr2]; exact partL_len tt x n
      · cases h
    · cases h; exact ⟨hl, hr⟩
theorem Parts_len {k : Nat} {n : Int} {l : List IPair} {p : List (List Int)} (h : graph_Parts.f k n l = some p) : p.length ≤ 10000000 ∧ ∀ r ∈ p, r.length ≤ 10000000 := by
  unfold graph_Parts.f at h
  obtain ⟨t, ht, h⟩ := Option.bind_eq_some_iff.1 h
  split at h
  · split at h
    · rename_i hc
      obtain ⟨h1, h2⟩ := partsG_len _ _ _ _ _ h (by simp) (by simp)
      exact ⟨by omega, fun r hr => by have := h2 r hr; omega⟩
    · cases h
  · cases h; exact ⟨by simp, by simp⟩
theorem Ev.at {α : Type} {g : Nat → Option α} {r : α} (h : Ev g r) : ∃ k, g k = .some r := h.rounds
theorem Parts_exl {n : Nat} {l : List IPair} (hl : l.length ≤ 1000000) (hb : cleanBad (n : Int) l = false) : ∃ p, Ev (fun k => graph_Parts.f k (n : Int) l) p ∧ p.length ≤ 10000000 ∧ ∀ r ∈ p, r.length ≤ 10000000 := by
  obtain ⟨p, hp⟩ := Parts_ex hl hb
  obtain ⟨k, hk⟩ := hp.rounds
  exact ⟨p, hp, Parts_len hk⟩
theorem dd_strict : ∀ {l : List IPair}, l.Pairwise lexLe → (dd l).Pairwise lexLt
  | [], _ => List.Pairwise.nil
  | [a], _ => List.pairwise_singleton _ _
  | a :: b :: l, h => by
    have h2 : (b :: l).Pairwise lexLe := (List.pairwise_cons.1 h).2
    have ih := dd_strict h2
    have hall := (List.pairwise_cons.1 h).1
    by_cases e : a = b
    · subst e
      have : dd (a :: a :: l) = dd (a :: l) := by simp [dd]
      rw [this]
      exact ih
    · have : dd (a :: b :: l) = a :: dd (b :: l) := by simp [dd, e]
      rw [this]
      refine List.pairwise_cons.2 ⟨fun x hx => ?_, ih⟩
      rw [mem_dd] at hx
      have hx1 := hall x hx
      have hb1 := hall b List.mem_cons_self
      have hbx : x = b ∨ lexLe b x := by
        rcases List.mem_cons.1 hx with rfl | hx
        · exact .inl rfl
        · exact .inr ((List.pairwise_cons.1 h2).1 x hx)
      have hne : a ≠ x := by
        rintro rfl
        rcases hbx with h3 | h3
        · exact e h3
        · exact e (lexLe_anti hb1 h3)
      unfold lexLe at hx1
      unfold lexLt
      by_cases h5 : a.fst = x.fst
      · by_cases h6 : a.snd = x.snd
        · exfalso
          apply hne
          cases a
          cases x
          simp only at h5 h6
          rw [h5, h6]
        · omega
      · omega
theorem strict_eq {l l' : List IPair} (h : l.Pairwise lexLt) (h' : l'.Pairwise lexLt) (hm : ∀ e, e ∈ l ↔ e ∈ l') : l = l' := by
  have irr : ∀ x : IPair, ¬ lexLt x x := fun x => by unfold lexLt; omega
  have nd : l.Nodup := List.Pairwise.imp (S := fun a b => a ≠ b) (fun {a b} hab (e : a = b) => irr a (by rw [← e] at hab; exact hab)) h
  have nd' : l'.Nodup := List.Pairwise.imp (S := fun a b => a ≠ b) (fun {a b} hab (e : a = b) => irr a (by rw [← e] at hab; exact hab)) h'
  have hp : l.Perm l' := (List.perm_ext_iff_of_nodup nd nd').2 hm
  exact List.Perm.eq_of_pairwise (le := lexLt) (fun x y _ _ h k => by unfold lexLt at h k; omega) h h' hp
theorem clean_same {l l' : List IPair} (h : ∀ e, e ∈ l ↔ e ∈ l') : dd (sortL l) = dd (sortL l') :=
  strict_eq (dd_strict (sortL_pw l)) (dd_strict (sortL_pw l')) (fun e => by rw [mem_sortL, mem_sortL]; exact h e)
theorem cleanBad_same {n : Int} {l l' : List IPair} (h : ∀ e, e ∈ l ↔ e ∈ l') : cleanBad n l = cleanBad n l' := by
  have : l.any (outP n) = l'.any (outP n) := by
    rw [Bool.eq_iff_iff, List.any_eq_true, List.any_eq_true]
    constructor
    · rintro ⟨e, he, hp⟩; exact ⟨e, (h e).1 he, hp⟩
    · rintro ⟨e, he, hp⟩; exact ⟨e, (h e).2 he, hp⟩
  unfold cleanBad
  rw [this]
theorem Clean_same {n : Int} {l l' : List IPair} (hl : l.length ≤ 1000000) (hl' : l'.length ≤ 1000000) (h : ∀ e, e ∈ l ↔ e ∈ l') : graph_Clean.f n l = graph_Clean.f n l' := by
  unfold graph_Clean.f
  rw [if_pos hl, if_pos hl', cleanBad_same h, clean_same h]
theorem Parts_same {n : Int} {l l' : List IPair} (h : graph_Clean.f n l = graph_Clean.f n l') (k : Nat) : graph_Parts.f k n l = graph_Parts.f k n l' := by
  unfold graph_Parts.f graph_nexts.f
  rw [h]
theorem Path_same {n : Int} {l l' : List IPair} (h : graph_Clean.f n l = graph_Clean.f n l') (a b : Int) (k : Nat) : graph_Path.f k n l a b = graph_Path.f k n l' a b := by
  unfold graph_Path.f graph_nexts.f
  rw [h]
end Go.Proofs.Ytmlhnjonmjmhdaa.H
/- graph.Path: of the shortest ways the least one -/
namespace Go.Proofs.Ytmlhnjonmjmhdaa.H
open Go.RowKit Go.Proofs.YtmlhnjonmjmhdaaW.PrintWords
theorem Ev.uniq {α : Type} {g : Nat → Option α} {r r' : α} (h : Ev g r) (h' : Ev g r') : r = r' := by
  obtain ⟨k, hk⟩ := h
  obtain ⟨k', hk'⟩ := h'
  have h1 := hk (max k k') (Nat.le_max_left _ _)
  have h2 := hk' (max k k') (Nat.le_max_right _ _)
  rw [h1] at h2
  exact Option.some.inj h2
theorem rws_asc {n : Nat} {l : List IPair} (hb : cleanBad (n : Int) l = false) (i : Nat) : ((rws n l).getD i []).Pairwise (· < ·) := by
  rcases Nat.lt_or_ge i n with hi | hi
  · rw [nextR_get n _ i hi, List.pairwise_map]
    refine List.Pairwise.imp_of_mem ?_ ((dd_strict (sortL_pw l)).filter _)
    intro x y hx hy h
    obtain ⟨h1, h2⟩ := List.mem_filter.1 hx
    obtain ⟨h3, h4⟩ := List.mem_filter.1 hy
    have h5 := inE_of hb x h1
    have h6 := inE_of hb y h3
    have h7 : x.fst.toNat = i := of_decide_eq_true h2
    have h8 : y.fst.toNat = i := of_decide_eq_true h4
    unfold lexLt at h
    omega
  · rw [List.getD_eq_getElem?_getD, List.getElem?_eq_none (by rw [rws_len]; exact hi)]
    exact List.Pairwise.nil
theorem Path_least {n : Nat} {l : List IPair} (hl : l.length ≤ 1000000) (hb : cleanBad (n : Int) l = false) {a b : Nat} (ha : a < n) (hbn : b < n) {p : List Int} (hev : Ev (fun k => graph_Path.f k (n : Int) l (a : Int) (b : Int)) p) (hp : IsP (rws n l) a b p)
    {i : Nat} {x y z : Int} (hx : p[i]? = some x) (hy : p[i + 1]? = some y) (hz : z ∈ (rws n l).getD x.toNat []) (hw : Wk (rws n l) z.toNat (p.length - 1 - (i + 1)) b) : y ≤ z := by
  have hn := bad_n hb
  have hlen := rws_len n l
  have hok := rws_ok hb
  have hf := BC.first (n := n) (a := (a : Int)) (by omega) (by omega)
  have hls := LS.first (rows := rws n l) (n := n) (a := (a : Int)) (by omega) (by omega)
  rw [Int.toNat_natCast] at hf hls
  have hcl := List.count_le_length (a := false) (l := (List.replicate n false).set a true)
  rw [List.length_set, List.length_replicate] at hcl
  have hsa : ((List.replicate n false).set a true).getD a false = true := by
    rw [getD_set_b, if_pos ⟨rfl, by rw [List.length_replicate]; omega⟩]
  obtain ⟨s, hs, hbc⟩ := bfsG_ex hok hlen (b : Int) (n + 1) _ _ [(a : Int)] hf (fun y hy => by rw [List.mem_singleton.1 hy]; exact ⟨by omega, hsa⟩) (by omega)
  obtain ⟨⟨L, hL⟩, hend⟩ := bfsG_levels hok hlen _ 0 _ _ _ s hls hs
  rw [Int.toNat_natCast] at hend
  obtain ⟨P, hQ⟩ := bfsG_order hok hlen (rws_asc hb) _ _ _ [] _ s (QL.first ha) hs
  have hs0 : bfsG (rws n l) (b : Int) (n + 1 + 1) (List.replicate (rws n l).length 0) ((List.replicate (rws n l).length false).set a true) [(a : Int)] = some s := by rw [hlen]; exact hs
  have hw0 := hp.walk (p.length - 1) 0 _ _ hp.fst (by rw [Nat.zero_add]; exact hp.lst)
  rw [Int.toNat_natCast, Int.toNat_natCast] at hw0
  have hsb : s.S.getD b false = true := by
    rcases hend with hM | h
    · rw [hM] at hL
      exact hL.closed _ b hw0
    · exact h
  obtain ⟨m, _, hc, hmin⟩ := hL.li.near b hsb
  have hB : ∀ v ∈ s.B, 0 ≤ v := fun v hv => (hL.li.bi.rB v hv).1
  have hmL : m ≤ L := by
    rcases hL.li.old b hsb with h | ⟨q, hq, hqw⟩
    · cases h
    · exact Nat.le_trans (hmin q hqw) hq
  have hpl : p.length = m + 1 := by
    have h1 := hp.short m hc.wk
    have h2 := hmin _ hw0
    have := hp.pos
    omega
  have hmq : m ≤ 100000 := by have := hp.few; omega
  have hrun := Path_run hl hb ha hbn hs0 hsb hB hc hmin hmq
  have hpe := Ev.uniq hev hrun
  have hchain := chain_at hB m (b : Int) (by omega) hc hmin
  have hlr : ((b : Int) :: chL s.B m b).length = m + 1 := by rw [List.length_cons, chL_len]
  have hat : ∀ i, i ≤ m → p[i]? = ((b : Int) :: chL s.B m b)[m - i]? := by
    intro i hi
    rw [hpe, List.getElem?_reverse (by omega), hlr]
    rfl
  have hseen : ∀ v : Int, 0 ≤ v → v < (n : Int) → s.S.getD v.toNat false = true → v ∈ P ++ s.M := fun v h0 h1 h2 => (hQ.qi.seen v h0 h1).1 h2
  have hwlt : ∀ k v, Wk (rws n l) a k v → v < n := by
    intro k v h
    cases h with
    | refl => exact ha
    | step _ hy =>
      have := hok.row hy
      omega
  have hback : ∀ (j : Nat) (x y : Int), p[j]? = some x → p[j + 1]? = some y → s.B.getD y.toNat 0 = x ∧ y ≠ (a : Int) ∧ y ∈ P ++ s.M := by
    intro j x y hx hy
    have hj : j + 1 < m + 1 := by rw [← hpl]; exact (List.getElem?_eq_some_iff.1 hy).1
    have hyb := hp.bnd y (List.mem_of_getElem? hy)
    have hwy := hp.walk (m - (j + 1)) (j + 1) _ _ hy (by rw [show j + 1 + (m - (j + 1)) = p.length - 1 by omega]; exact hp.lst)
    rw [Int.toNat_natCast] at hwy
    have hya : y ≠ (a : Int) := by
      intro e
      rw [e, Int.toNat_natCast] at hwy
      have := hmin _ hwy
      omega
    rw [hat j (by omega)] at hx
    rw [hat (j + 1) (by omega)] at hy
    obtain ⟨h1, h2, h3, h4, h5, h6⟩ := hchain _ _ hy
    have hx' : (((b : Int) :: chL s.B m b).drop (m - (j + 1)))[1]? = some x := by
      rw [List.getElem?_drop, show m - (j + 1) + 1 = m - j by omega]
      exact hx
    rw [h6, show m - (m - (j + 1)) = j + 1 by omega] at hx'
    refine ⟨by simpa [chL] using hx', hya, hseen y h2 (by rw [← hlen]; exact hyb.2) h3⟩
  have hxb := hp.bnd x (List.mem_of_getElem? hx)
  have hxw := hp.walk i 0 _ _ hp.fst (by rw [Nat.zero_add]; exact hx)
  rw [Int.toNat_natCast] at hxw
  have hi : i + 1 < m + 1 := by rw [← hpl]; exact (List.getElem?_eq_some_iff.1 hy).1
  have hin : ∀ k v, k ≤ m → Wk (rws n l) a k v → (v : Int) ∈ P ++ s.M := by
    intro k v hk hwk
    have hv := hwlt k v hwk
    refine hseen (v : Int) (by omega) (by omega) ?_
    rw [Int.toNat_natCast]
    exact hL.li.all k v (by omega) hwk
  have hxQ : x ∈ P ++ s.M := by
    have := hin i x.toNat (by omega) hxw
    rwa [Int.toNat_of_nonneg hxb.1] at this
  refine QI.least hok hQ.qi (fun v hv hva => List.mem_append_left _ (hQ.par v hv hva)) hin hmin hback hpl ?_ hx hy hxQ hxw hz ?_
  · have := hp.lst
    rwa [hpl] at this
  · rwa [hpl] at hw
end Go.Proofs.Ytmlhnjonmjmhdaa.H

/- RowSubstMatches of the seat's law SubstMatches: the law holds, under the statement's own conditions. -/
import Derived.Test.YtdanihbbnepjpaaNXSubstMatches
import Derived.Test.YtdanihbbnepjpaaNXSubstMatches1
import Derived.Test.YtdanihbbnepjpaaNXSubstMatches4
import Derived.Test.YtdanihbbnepjpaaNXSubstMatches2
import Derived.Test.YtdanihbbnepjpaaNXSubstMatches3
import Derived.Test.YtdanihbbnepjpaaRows
import Derived.Test.YtdanihbbnepjpaaNW
import Derived.WalkKit
import Derived.ProofKit
import Derived.OpenShut
import Derived.ShutString
import Derived.ChangeOld
import Derived.Below
import Derived.SizedLaws
import Derived.Carry
namespace Go.Proofs.Ytdanihbbnepjpaa.H
open Go.RowKit Go.Proofs.YtdanihbbnepjpaaW.PrintWords Go.Proofs.YtdanihbbnepjpaaW.PrintLast Go.Proofs.YtdanihbbnepjpaaW.PrintMore
attribute [local go_sem] max2_int min2_int max_two min_two max_three min_three max_four min_four
set_option linter.unusedVariables false
set_option linter.unusedSimpArgs false
attribute [local go_sem high] eqA24
set_option maxHeartbeats 8000000 in
set_option maxRecDepth 100000 in
theorem lambrequinlaw12_SubstMatches.calls (k : Nat) (a0_0 : ByteArray) (A0_1 : Option Addr) (c0_1 : Nat) (l0_1 : List (Term)) (A1 : Option Addr) (c1 : Nat) (l1 : List (Val)) (a2_0 : Int) (a2_1 : ByteArray) (A2_2 : Option Addr) (c2_2 : Nat) (l2_2 : List (Term)) (a2_3 : ByteArray) (a2_4 : Bool) (a2_5 : ByteArray) (a2_6 : Bool) (a2_7 : ByteArray) (a2_8 : Int) (a2_9 : Bool) (a2_10 : ByteArray) (a2_11 : Bool) (a2_12 : ByteArray) (a2_13 : Int) (A3 : Option Addr) (c3 : Nat) (l3 : List (RPair)) (r : Bool) (w : World) (hr0_1 : Kd.C k49 w A0_1 l0_1.length l0_1) (hc0_1 : l0_1.length ≤ c0_1) (hr1 : Kd.C k24 w A1 l1.length l1) (hc1 : l1.length ≤ c1) (hr2_2 : Kd.C k49 w A2_2 l2_2.length l2_2) (hc2_2 : l2_2.length ≤ c2_2) (hr3 : Kd.C k69 w A3 l3.length l3) (hc3 : l3.length ≤ c3) (h : lambrequinlaw12_SubstMatches.f k a0_0 l0_1 l1 a2_0 a2_1 l2_2 a2_3 a2_4 a2_5 a2_6 a2_7 a2_8 a2_9 a2_10 a2_11 a2_12 a2_13 l3 = some r) :
  Calls Try.prog 8 #[.agg #[.string a0_0, .slice A0_1 l0_1.length c0_1], .slice A1 l1.length c1, .agg #[.int .i64 a2_0, .string a2_1, .slice A2_2 l2_2.length c2_2, .string a2_3, .bool a2_4, .string a2_5, .bool a2_6, .string a2_7, .int .i64 a2_8, .bool a2_9, .string a2_10, .bool a2_11, .string a2_12, .int .i64 a2_13], .slice A3 l3.length c3] w fun e w' => e = .returned (.bool r) ∧ Below w.heap.size w w' := by
 have hu46 := Try.underlying46
 have hu58 := Try.underlying58
 have hu49 := Try.underlying49
 have hu24 := Try.underlying24
 have HR0_1 := am hr0_1
 have HC0_1 := am hc0_1
 clear hr0_1 hc0_1
 have HR1 := am hr1
 have HC1 := am hc1
 clear hr1 hc1
 have HR2_2 := am hr2_2
 have HC2_2 := am hc2_2
 clear hr2_2 hc2_2
 have HR3 := am hr3
 have HC3 := am hc3
 clear hr3 hc3
 have HB := am (Below.refl w.heap.size w)
 have H : ((lambrequinlaw12_shown.f k).bind fun t103 => (lambrequinlaw12_SubstMatches.j0 k l1 l3 t103 a0_0 l0_1 a2_0 a2_1 l2_2 a2_3 a2_4 a2_5 a2_6 a2_7 a2_8 a2_9 a2_10 a2_11 a2_12 a2_13)) = some r := h
 clear h
 have HC5 := am H
 clear H
 go_enter Try.func8, Try.ntmps8
 go_upto_region 1 with (first | ((with_reducible refine gate_dst (N := 4) rfl ?_); (try (refine gate_guard (by rfl) ?_; dsimp only)); refine box_event ?hg (N := 4) ?hd (cs := #[.string a0_0, .slice A0_1 l0_1.length c0_1]) (t := 46) ?hr ?_; (case hd => rfl); (case hg => rfl); (case hr => first | (go_simp; done) | (go_simp; rfl)); intro gb101 hg w6 hbox hb; have BK101 := am (hbox); have GW101 := am ((by rw [hg]; exact (below_size (by repeat (first | (with_reducible first | exact HB.out | apply lA | apply lN | apply lD) | exact HB.out))) : w.heap.size ≤ gb101)); have GE101 := am ((by rw [hg]; exact (below_size (by repeat (first | (with_reducible first | exact HB.out | apply lA | apply lN | apply lD) | exact HB.out))) : w.heap.size ≤ gb101)); replace HB := am (below_step (by repeat (first | (with_reducible first | exact HB.out | apply lA | apply lN | apply lD) | exact HB.out)) hb); clear hb hbox hg) | ((with_reducible refine gate_dst (N := 6) rfl ?_); (try (refine gate_guard (by rfl) ?_; dsimp only)); refine box_event ?hg (N := 6) ?hd (cs := #[.int .i64 a2_0, .string a2_1, .slice A2_2 l2_2.length c2_2, .string a2_3, .bool a2_4, .string a2_5, .bool a2_6, .string a2_7, .int .i64 a2_8, .bool a2_9, .string a2_10, .bool a2_11, .string a2_12, .int .i64 a2_13]) (t := 58) ?hr ?_; (case hd => rfl); (case hg => rfl); (case hr => first | (go_simp; done) | (go_simp; rfl)); intro gb102 hg w7 hbox hb; have BK102 := am (hbox); have GW102 := am ((by rw [hg]; exact (below_size (by repeat (first | (with_reducible first | exact HB.out | apply lA | apply lN | apply lD | refine lS ?_ GE101.out) | exact HB.out))) : w.heap.size ≤ gb102)); have GE102 := am ((by rw [hg]; exact (below_size (by repeat (first | (with_reducible first | exact HB.out | apply lA | apply lN | apply lD | refine lS ?_ GE101.out) | exact HB.out))) : w.heap.size ≤ gb102)); replace HB := am (below_step (by repeat (first | (with_reducible first | exact HB.out | apply lA | apply lN | apply lD | refine lS ?_ GE101.out) | exact HB.out)) hb); have NB101_102 := am ((by rw [hg]; exact Nat.ne_of_lt (blk_lt (g := gb101) (o := .cells #[.string a0_0, .slice A0_1 l0_1.length c0_1] 46 (0, 0)) (by (with_reducible repeat (first | refine bN ?_ _ | refine bD ?_ | refine bA ?_ _)); exact BK101.out)) : gb101 ≠ gb102)); have NB102_101 := am ((by rw [hg]; exact Nat.ne_of_gt (blk_lt (g := gb101) (o := .cells #[.string a0_0, .slice A0_1 l0_1.length c0_1] 46 (0, 0)) (by (with_reducible repeat (first | refine bN ?_ _ | refine bD ?_ | refine bA ?_ _)); exact BK101.out)) : gb102 ≠ gb101)); replace BK101 := am (blk_below (g := gb101) (o := .cells #[.string a0_0, .slice A0_1 l0_1.length c0_1] 46 (0, 0)) (by (with_reducible repeat (first | refine bN ?_ _ | refine bD ?_ | refine bA ?_ _)); exact BK101.out) hb); clear hb hbox hg))
 (try simp only [Act.put, List.setIfInBounds_toArray, List.set_cons_zero, List.set_cons_succ])
 go_cut [9] (fun v9 wc => ∃ (kq : Nat) (x9_4 : Bool), v9 = .bool x9_4 ∧ Aside0 (lambrequinlaw12_SubstMatches.j0 kq l1 l3 x9_4 a0_0 l0_1 a2_0 a2_1 l2_2 a2_3 a2_4 a2_5 a2_6 a2_7 a2_8 a2_9 a2_10 a2_11 a2_12 a2_13 = some r) ∧ Aside0 (kq ≤ k) ∧ Aside0 (wc.heap[gb101]? = some (.cells #[.string a0_0, (.slice A0_1 l0_1.length c0_1)] 46 (0, 0))) ∧ Aside0 (wc.heap[gb102]? = some (.cells #[.int .i64 a2_0, .string a2_1, (.slice A2_2 l2_2.length c2_2), .string a2_3, .bool a2_4, .string a2_5, .bool a2_6, .string a2_7, .int .i64 a2_8, .bool a2_9, .string a2_10, .bool a2_11, .string a2_12, .int .i64 a2_13] 58 (0, 0))) ∧ Aside0 (Below w.heap.size w wc))
 case first =>
  have H := HC5.out
  clear HC5
  replace H := Option.bind_eq_some_iff.mp H
  obtain ⟨t103, A80, H⟩ := H
  replace H : (lambrequinlaw12_SubstMatches.j0 k l1 l3 t103 a0_0 l0_1 a2_0 a2_1 l2_2 a2_3 a2_4 a2_5 a2_6 a2_7 a2_8 a2_9 a2_10 a2_11 a2_12 a2_13) = some r := H
  have A8 := am A80
  clear A80
  have H' := am H
  clear H
  go_wp2_with (first | ((with_reducible refine gate_callee (f := 9) rfl ?_); refine goesL_ (some 26) rfl rfl Try.func9 (by kernel_rfl) rfl #[] rfl (by (try simp only [List.map_toArray, List.map_cons, List.map_nil]); first | done | rfl | (simp only [List.length_drop, List.length_take]; rfl)) ?_; (with_reducible refine (lambrequinlaw12_shown.calls k  t103 _ A8.out).mono ?_); rintro e w9 ⟨rfl, hb⟩; refine ⟨_, rfl, ?_⟩; replace BK101 := am (blk_below (g := gb101) (o := .cells #[.string a0_0, .slice A0_1 l0_1.length c0_1] 46 (0, 0)) (by (with_reducible repeat (first | refine bN ?_ _ | refine bD ?_ | refine bA ?_ _)); exact BK101.out) hb); replace BK102 := am (blk_below (g := gb102) (o := .cells #[.int .i64 a2_0, .string a2_1, .slice A2_2 l2_2.length c2_2, .string a2_3, .bool a2_4, .string a2_5, .bool a2_6, .string a2_7, .int .i64 a2_8, .bool a2_9, .string a2_10, .bool a2_11, .string a2_12, .int .i64 a2_13] 58 (0, 0)) (by (with_reducible repeat (first | refine bN ?_ _ | refine bD ?_ | refine bA ?_ _)); exact BK102.out) hb); replace HB := am (below_step (by repeat (first | (with_reducible first | exact HB.out | apply lA | apply lN | apply lD | refine lS ?_ GE101.out | refine lS ?_ GE102.out) | exact HB.out)) hb); (try clear hb); (try clear hb2); (try clear hk); (try clear hi)))
  go_meet
  case rel => exact ⟨_, (t103), (by first | rfl | (simp; done) | (simp [*]; done)), H', ⟨by first | omega | exact Nat.le_refl _⟩, ⟨by (with_reducible repeat (first | refine bN ?_ _ | refine bD ?_ | refine bA ?_ _)); exact BK101.out⟩, ⟨by (with_reducible repeat (first | refine bN ?_ _ | refine bD ?_ | refine bA ?_ _)); exact BK102.out⟩, ⟨by repeat (first | (with_reducible first | exact HB.out | apply lA | apply lN | apply lD | refine lS ?_ GE101.out | refine lS ?_ GE102.out) | exact HB.out)⟩⟩
 case rest =>
  clear HC5
  try clear c1
  try clear c2
  try clear p2
  try clear c3
  try clear c8
  try clear c9
  obtain ⟨kq, x9_4, rfl, HA, HJ4, BK101, BK102, HB⟩ := hcut
  cases kq with
  | zero => exact absurd HA.out (by simp [lambrequinlaw12_SubstMatches.j0])
  | succ kj4 =>
   have H := HA.out
   clear HA
   simp only [lambrequinlaw12_SubstMatches.j0] at H
   have HC10 := am H
   clear H
   go_upto_region 2 with (fail)
   go_cut [35] (fun v35 wc => ∃ (kq : Nat) (x35_9 : Bool), v35 = .bool x35_9 ∧ Aside0 (lambrequinlaw12_SubstMatches.j1 kq l1 l3 x9_4 x35_9 a0_0 l0_1 a2_0 a2_1 l2_2 a2_3 a2_4 a2_5 a2_6 a2_7 a2_8 a2_9 a2_10 a2_11 a2_12 a2_13 = some r) ∧ Aside0 (kq ≤ kj4) ∧ Aside0 (wc.heap[gb101]? = some (.cells #[.string a0_0, (.slice A0_1 l0_1.length c0_1)] 46 (0, 0))) ∧ Aside0 (wc.heap[gb102]? = some (.cells #[.int .i64 a2_0, .string a2_1, (.slice A2_2 l2_2.length c2_2), .string a2_3, .bool a2_4, .string a2_5, .bool a2_6, .string a2_7, .int .i64 a2_8, .bool a2_9, .string a2_10, .bool a2_11, .string a2_12, .int .i64 a2_13] 58 (0, 0))) ∧ Aside0 (Below w.heap.size w wc))
   case first =>
    have H := HC10.out
    clear HC10
    replace H := Option.bind_eq_some_iff.mp H
    obtain ⟨t104, A110, H⟩ := H
    replace H : (if t104 = true then (lambrequinlaw12_SubstMatches.j1 kj4 l1 l3 x9_4 (decide ((l0_1.length : Int) > 30)) a0_0 l0_1 a2_0 a2_1 l2_2 a2_3 a2_4 a2_5 a2_6 a2_7 a2_8 a2_9 a2_10 a2_11 a2_12 a2_13) else (lambrequinlaw12_SubstMatches.j1 kj4 l1 l3 x9_4 true a0_0 l0_1 a2_0 a2_1 l2_2 a2_3 a2_4 a2_5 a2_6 a2_7 a2_8 a2_9 a2_10 a2_11 a2_12 a2_13)) = some r := H
    have A11 := am A110
    clear A110
    by_cases c12 : t104 = true
    ·subst c12
     have H1 : (lambrequinlaw12_SubstMatches.j1 kj4 l1 l3 x9_4 (decide ((l0_1.length : Int) > 30)) a0_0 l0_1 a2_0 a2_1 l2_2 a2_3 a2_4 a2_5 a2_6 a2_7 a2_8 a2_9 a2_10 a2_11 a2_12 a2_13) = some r := by rw [if_pos rfl] at H; exact H
     clear H
     have H := H1
     clear H1
     have H' := am H
     clear H
     go_wp2_with (first | ((with_reducible refine gate_callee (f := 10) rfl ?_); refine goesL_ (some 28) rfl rfl Try.func10 (by kernel_rfl) rfl #[.slice A3 l3.length c3] rfl (by (try simp only [List.map_toArray, List.map_cons, List.map_nil]); first | done | rfl | (simp only [List.length_drop, List.length_take]; rfl)) ?_; (with_reducible refine (lambrequinlaw12_few.calls _ _ l3 true _ ?side1 ?side2 A11.out).mono ?_); (case side1 => repeat (first | exact (Kd.C_below HR3.out HB.out) | (with_reducible refine Kd.C_alloc ?_ _) | (with_reducible refine Kd.C_drewN ?_ _) | (with_reducible refine Kd.C_drew ?_))); (case side2 => exact HC3.out); rintro e w' ⟨rfl, ⟨nd, rfl⟩⟩; refine ⟨_, rfl, ?_⟩; have hnb13 := NB101_102.out; have hnc13 := NB102_101.out; have hcz14_0 : wc.cell? ⟨gb101, 0, none⟩ = some (.string a0_0) := (blk_cell BK101.out 0).trans rfl; have hcz14_1 : wc.cell? ⟨gb101, 1, none⟩ = some (.slice A0_1 l0_1.length c0_1) := (blk_cell BK101.out 1).trans rfl; have hfz14_0 := blk_frozen BK101.out 0; have hfz14_1 := blk_frozen BK101.out 1))
     go_meet
     case rel => exact ⟨_, (decide ((l0_1.length : Int) > 30)), (by first | rfl | (simp; done) | (simp [*]; done)), H', ⟨by have := HJ4.out; first | omega | exact Nat.le_refl _⟩, ⟨by (with_reducible repeat (first | refine bN ?_ _ | refine bD ?_ | refine bA ?_ _)); exact BK101.out⟩, ⟨by (with_reducible repeat (first | refine bN ?_ _ | refine bD ?_ | refine bA ?_ _)); exact BK102.out⟩, ⟨by repeat (first | (with_reducible first | exact HB.out | apply lA | apply lN | apply lD | refine lS ?_ GE101.out | refine lS ?_ GE102.out) | exact HB.out)⟩⟩
    ·replace c12 := Bool.eq_false_iff.mpr c12
     subst c12
     have H1 : (lambrequinlaw12_SubstMatches.j1 kj4 l1 l3 x9_4 true a0_0 l0_1 a2_0 a2_1 l2_2 a2_3 a2_4 a2_5 a2_6 a2_7 a2_8 a2_9 a2_10 a2_11 a2_12 a2_13) = some r := by rw [if_neg (show ¬ (false = true) by decide)] at H; exact H
     clear H
     have H := H1
     clear H1
     have H' := am H
     clear H
     go_wp2_with (first | ((with_reducible refine gate_callee (f := 10) rfl ?_); refine goesL_ (some 28) rfl rfl Try.func10 (by kernel_rfl) rfl #[.slice A3 l3.length c3] rfl (by (try simp only [List.map_toArray, List.map_cons, List.map_nil]); first | done | rfl | (simp only [List.length_drop, List.length_take]; rfl)) ?_; (with_reducible refine (lambrequinlaw12_few.calls _ _ l3 false _ ?side1 ?side2 A11.out).mono ?_); (case side1 => repeat (first | exact (Kd.C_below HR3.out HB.out) | (with_reducible refine Kd.C_alloc ?_ _) | (with_reducible refine Kd.C_drewN ?_ _) | (with_reducible refine Kd.C_drew ?_))); (case side2 => exact HC3.out); rintro e w' ⟨rfl, ⟨nd, rfl⟩⟩; refine ⟨_, rfl, ?_⟩))
     go_meet
     case rel => exact ⟨_, (true), (by first | rfl | (simp; done) | (simp [*]; done)), H', ⟨by have := HJ4.out; first | omega | exact Nat.le_refl _⟩, ⟨by (with_reducible repeat (first | refine bN ?_ _ | refine bD ?_ | refine bA ?_ _)); exact BK101.out⟩, ⟨by (with_reducible repeat (first | refine bN ?_ _ | refine bD ?_ | refine bA ?_ _)); exact BK102.out⟩, ⟨by repeat (first | (with_reducible first | exact HB.out | apply lA | apply lN | apply lD | refine lS ?_ GE101.out | refine lS ?_ GE102.out) | exact HB.out)⟩⟩
   case rest =>
    clear HC10
    try clear c1
    try clear c2
    try clear p2
    try clear c3
    try clear c8
    try clear c9
    try clear c10
    try clear c12
    try clear c13
    try clear hcz14_0
    try clear hcz14_1
    try clear hfz14_0
    try clear hfz14_1
    try clear p2
    obtain ⟨kq, x35_9, rfl, HA, HJ9, BK101, BK102, HB⟩ := hcut
    cases kq with
    | zero => exact absurd HA.out (by simp [lambrequinlaw12_SubstMatches.j1])
    | succ kj9 =>
     have H := HA.out
     clear HA
     simp only [lambrequinlaw12_SubstMatches.j1] at H
     by_cases c15 : x35_9 = true
     ·subst c15
      have H1 : (some x9_4) = some r := by rw [if_pos rfl] at H; exact H
      clear H
      have H := H1
      clear H1
      obtain rfl := Option.some.inj H
      go_wp2
      go_ret
      exact ⟨by first | rfl | (simp [errW_none, errW_some] <;> rfl) | (simp [*, errW_none, errW_some] <;> rfl), by repeat (first | (with_reducible first | exact HB.out | apply lA | apply lN | apply lD | refine lS ?_ GE101.out | refine lS ?_ GE102.out) | exact HB.out)⟩
     ·replace c15 := Bool.eq_false_iff.mpr c15
      subst c15
      have H1 : ((lambrequinlaw12_env.f kj9 l3).bind fun t105 => ((subst_Match.f kj9 a0_0 l0_1 l1 t105).bind fun bt108 => ((lambrequinref12_Match.f kj9 a0_0 l0_1 l1 l3).bind fun bt112 => ((lambrequinlaw12_env.f kj9 l3).bind fun t116 => ((subst_Ground.f kj9 a0_0 l0_1 t116).bind fun bt119 => ((lambrequinref12_Ground.f kj9 a0_0 l0_1 l3).bind fun bt123 => ((lambrequinlaw12_env.f kj9 l3).bind fun t127 => ((subst_Holds.f a2_0 a2_1 l2_2 a2_3 a2_4 a2_5 a2_6 a2_7 a2_8 a2_9 a2_10 a2_11 a2_12 a2_13 t127).bind fun bt130 => ((lambrequinref12_Holds.f kj9 a2_0 a2_1 l2_2 a2_3 a2_4 a2_5 a2_6 a2_7 a2_8 a2_9 a2_10 a2_11 a2_12 a2_13 l3).bind fun bt132 => (lambrequinlaw12_SubstMatches.j2 kj9 l3 x9_4 bt108.1 bt108.2 bt112.1 bt112.2 bt119.1 bt119.2 bt123.1 bt123.2 bt130.1 bt130.2 bt132.1 bt132.2 a2_0 a2_1 l2_2 a2_3 a2_4 a2_5 a2_6 a2_7 a2_8 a2_9 a2_10 a2_11 a2_12 a2_13)))))))))) = some r := by rw [if_neg (show ¬ (false = true) by decide)] at H; exact H
      clear H
      have H := H1
      clear H1
      replace H := Option.bind_eq_some_iff.mp H
      obtain ⟨t105, A160, H⟩ := H
      replace H : ((subst_Match.f kj9 a0_0 l0_1 l1 t105).bind fun bt108 => ((lambrequinref12_Match.f kj9 a0_0 l0_1 l1 l3).bind fun bt112 => ((lambrequinlaw12_env.f kj9 l3).bind fun t116 => ((subst_Ground.f kj9 a0_0 l0_1 t116).bind fun bt119 => ((lambrequinref12_Ground.f kj9 a0_0 l0_1 l3).bind fun bt123 => ((lambrequinlaw12_env.f kj9 l3).bind fun t127 => ((subst_Holds.f a2_0 a2_1 l2_2 a2_3 a2_4 a2_5 a2_6 a2_7 a2_8 a2_9 a2_10 a2_11 a2_12 a2_13 t127).bind fun bt130 => ((lambrequinref12_Holds.f kj9 a2_0 a2_1 l2_2 a2_3 a2_4 a2_5 a2_6 a2_7 a2_8 a2_9 a2_10 a2_11 a2_12 a2_13 l3).bind fun bt132 => (lambrequinlaw12_SubstMatches.j2 kj9 l3 x9_4 bt108.1 bt108.2 bt112.1 bt112.2 bt119.1 bt119.2 bt123.1 bt123.2 bt130.1 bt130.2 bt132.1 bt132.2 a2_0 a2_1 l2_2 a2_3 a2_4 a2_5 a2_6 a2_7 a2_8 a2_9 a2_10 a2_11 a2_12 a2_13))))))))) = some r := H
      have A16 := am A160
      clear A160
      replace H := Option.bind_eq_some_iff.mp H
      obtain ⟨⟨t108, t111⟩, A170, H⟩ := H
      replace H : ((lambrequinref12_Match.f kj9 a0_0 l0_1 l1 l3).bind fun bt112 => ((lambrequinlaw12_env.f kj9 l3).bind fun t116 => ((subst_Ground.f kj9 a0_0 l0_1 t116).bind fun bt119 => ((lambrequinref12_Ground.f kj9 a0_0 l0_1 l3).bind fun bt123 => ((lambrequinlaw12_env.f kj9 l3).bind fun t127 => ((subst_Holds.f a2_0 a2_1 l2_2 a2_3 a2_4 a2_5 a2_6 a2_7 a2_8 a2_9 a2_10 a2_11 a2_12 a2_13 t127).bind fun bt130 => ((lambrequinref12_Holds.f kj9 a2_0 a2_1 l2_2 a2_3 a2_4 a2_5 a2_6 a2_7 a2_8 a2_9 a2_10 a2_11 a2_12 a2_13 l3).bind fun bt132 => (lambrequinlaw12_SubstMatches.j2 kj9 l3 x9_4 t108 t111 bt112.1 bt112.2 bt119.1 bt119.2 bt123.1 bt123.2 bt130.1 bt130.2 bt132.1 bt132.2 a2_0 a2_1 l2_2 a2_3 a2_4 a2_5 a2_6 a2_7 a2_8 a2_9 a2_10 a2_11 a2_12 a2_13)))))))) = some r := H
      have A17 := am A170
      clear A170
      replace H := Option.bind_eq_some_iff.mp H
      obtain ⟨⟨t112, t115⟩, A180, H⟩ := H
      replace H : ((lambrequinlaw12_env.f kj9 l3).bind fun t116 => ((subst_Ground.f kj9 a0_0 l0_1 t116).bind fun bt119 => ((lambrequinref12_Ground.f kj9 a0_0 l0_1 l3).bind fun bt123 => ((lambrequinlaw12_env.f kj9 l3).bind fun t127 => ((subst_Holds.f a2_0 a2_1 l2_2 a2_3 a2_4 a2_5 a2_6 a2_7 a2_8 a2_9 a2_10 a2_11 a2_12 a2_13 t127).bind fun bt130 => ((lambrequinref12_Holds.f kj9 a2_0 a2_1 l2_2 a2_3 a2_4 a2_5 a2_6 a2_7 a2_8 a2_9 a2_10 a2_11 a2_12 a2_13 l3).bind fun bt132 => (lambrequinlaw12_SubstMatches.j2 kj9 l3 x9_4 t108 t111 t112 t115 bt119.1 bt119.2 bt123.1 bt123.2 bt130.1 bt130.2 bt132.1 bt132.2 a2_0 a2_1 l2_2 a2_3 a2_4 a2_5 a2_6 a2_7 a2_8 a2_9 a2_10 a2_11 a2_12 a2_13))))))) = some r := H
      have A18 := am A180
      clear A180
      replace H := Option.bind_eq_some_iff.mp H
      obtain ⟨t116, A190, H⟩ := H
      replace H : ((subst_Ground.f kj9 a0_0 l0_1 t116).bind fun bt119 => ((lambrequinref12_Ground.f kj9 a0_0 l0_1 l3).bind fun bt123 => ((lambrequinlaw12_env.f kj9 l3).bind fun t127 => ((subst_Holds.f a2_0 a2_1 l2_2 a2_3 a2_4 a2_5 a2_6 a2_7 a2_8 a2_9 a2_10 a2_11 a2_12 a2_13 t127).bind fun bt130 => ((lambrequinref12_Holds.f kj9 a2_0 a2_1 l2_2 a2_3 a2_4 a2_5 a2_6 a2_7 a2_8 a2_9 a2_10 a2_11 a2_12 a2_13 l3).bind fun bt132 => (lambrequinlaw12_SubstMatches.j2 kj9 l3 x9_4 t108 t111 t112 t115 bt119.1 bt119.2 bt123.1 bt123.2 bt130.1 bt130.2 bt132.1 bt132.2 a2_0 a2_1 l2_2 a2_3 a2_4 a2_5 a2_6 a2_7 a2_8 a2_9 a2_10 a2_11 a2_12 a2_13)))))) = some r := H
      have A19 := am A190
      clear A190
      replace H := Option.bind_eq_some_iff.mp H
      obtain ⟨⟨t119, t122⟩, A200, H⟩ := H
      replace H : ((lambrequinref12_Ground.f kj9 a0_0 l0_1 l3).bind fun bt123 => ((lambrequinlaw12_env.f kj9 l3).bind fun t127 => ((subst_Holds.f a2_0 a2_1 l2_2 a2_3 a2_4 a2_5 a2_6 a2_7 a2_8 a2_9 a2_10 a2_11 a2_12 a2_13 t127).bind fun bt130 => ((lambrequinref12_Holds.f kj9 a2_0 a2_1 l2_2 a2_3 a2_4 a2_5 a2_6 a2_7 a2_8 a2_9 a2_10 a2_11 a2_12 a2_13 l3).bind fun bt132 => (lambrequinlaw12_SubstMatches.j2 kj9 l3 x9_4 t108 t111 t112 t115 t119 t122 bt123.1 bt123.2 bt130.1 bt130.2 bt132.1 bt132.2 a2_0 a2_1 l2_2 a2_3 a2_4 a2_5 a2_6 a2_7 a2_8 a2_9 a2_10 a2_11 a2_12 a2_13))))) = some r := H
      have A20 := am A200
      clear A200
      replace H := Option.bind_eq_some_iff.mp H
      obtain ⟨⟨t123, t126⟩, A210, H⟩ := H
      replace H : ((lambrequinlaw12_env.f kj9 l3).bind fun t127 => ((subst_Holds.f a2_0 a2_1 l2_2 a2_3 a2_4 a2_5 a2_6 a2_7 a2_8 a2_9 a2_10 a2_11 a2_12 a2_13 t127).bind fun bt130 => ((lambrequinref12_Holds.f kj9 a2_0 a2_1 l2_2 a2_3 a2_4 a2_5 a2_6 a2_7 a2_8 a2_9 a2_10 a2_11 a2_12 a2_13 l3).bind fun bt132 => (lambrequinlaw12_SubstMatches.j2 kj9 l3 x9_4 t108 t111 t112 t115 t119 t122 t123 t126 bt130.1 bt130.2 bt132.1 bt132.2 a2_0 a2_1 l2_2 a2_3 a2_4 a2_5 a2_6 a2_7 a2_8 a2_9 a2_10 a2_11 a2_12 a2_13)))) = some r := H
      have A21 := am A210
      clear A210
      replace H := Option.bind_eq_some_iff.mp H
      obtain ⟨t127, A220, H⟩ := H
      replace H : ((subst_Holds.f a2_0 a2_1 l2_2 a2_3 a2_4 a2_5 a2_6 a2_7 a2_8 a2_9 a2_10 a2_11 a2_12 a2_13 t127).bind fun bt130 => ((lambrequinref12_Holds.f kj9 a2_0 a2_1 l2_2 a2_3 a2_4 a2_5 a2_6 a2_7 a2_8 a2_9 a2_10 a2_11 a2_12 a2_13 l3).bind fun bt132 => (lambrequinlaw12_SubstMatches.j2 kj9 l3 x9_4 t108 t111 t112 t115 t119 t122 t123 t126 bt130.1 bt130.2 bt132.1 bt132.2 a2_0 a2_1 l2_2 a2_3 a2_4 a2_5 a2_6 a2_7 a2_8 a2_9 a2_10 a2_11 a2_12 a2_13))) = some r := H
      have A22 := am A220
      clear A220
      replace H := Option.bind_eq_some_iff.mp H
      obtain ⟨⟨t130, t131⟩, A230, H⟩ := H
      replace H : ((lambrequinref12_Holds.f kj9 a2_0 a2_1 l2_2 a2_3 a2_4 a2_5 a2_6 a2_7 a2_8 a2_9 a2_10 a2_11 a2_12 a2_13 l3).bind fun bt132 => (lambrequinlaw12_SubstMatches.j2 kj9 l3 x9_4 t108 t111 t112 t115 t119 t122 t123 t126 t130 t131 bt132.1 bt132.2 a2_0 a2_1 l2_2 a2_3 a2_4 a2_5 a2_6 a2_7 a2_8 a2_9 a2_10 a2_11 a2_12 a2_13)) = some r := H
      have A23 := am A230
      clear A230
      have HC24 := am H
      clear H
      try go_wp2
      replace BK101 := am (blk_drew BK101.out)
      replace BK102 := am (blk_drew BK102.out)
      replace HB := am (below_drew1 HB.out)
      refine start_ (n := 10) (S := fun w' => w'.cell? ⟨gb101, 0, none⟩ = some (.string a0_0) ∧ w'.cell? ⟨gb101, 1, none⟩ = some (.slice A0_1 l0_1.length c0_1)) (ds := []) (bl 10 0) (by kernel_rfl) rfl rfl ⟨(blk_cell BK101.out 0).trans rfl, (blk_cell BK101.out 1).trans rfl⟩ (fun hHeld => ?_); refine with_tabW lambrequinlaw12_SubstMatches.tab4 lambrequinlaw12_SubstMatches.bits4 (fun HT_ HW_ => ?_)
      generalize wc.drew = w25 at BK101 BK102 HB hHeld ⊢
      refine pure_ (i := 1) (N := some 39) (v := ?_) (a' := ?_) (bl 10 2) rfl rfl (any_of HT_.out (by kernel_rfl)) (fun _ _ _ h => h) (Or.inl ⟨by rfl, ?_⟩) ?_ ?_
      rotate_left
      ·intro w'
       go_simp
       with_reducible rfl
      rotate_left
      ·simp only [Act.put, sA, sZ, sS, i64_w, i32_w]
       rfl
      refine pure_ (i := 2) (N := some 40) (v := ?_) (a' := ?_) (bl 10 6) rfl rfl (any_of HT_.out (by kernel_rfl)) (fun _ _ _ h => h) (Or.inl ⟨by rfl, ?_⟩) ?_ ?_
      rotate_left
      ·intro w'
       go_simp
       with_reducible rfl
      rotate_left
      ·simp only [Act.put, sA, sZ, sS, i64_w, i32_w]
       rfl
      refine take_ (i := 0) (N := some 38) (v := ?_) (a' := ?_) (bl 10 7) rfl rfl (take_ofW HT_.out HW_.out (by kernel_rfl)) (fun _ _ _ h => h) (Or.inl ⟨by rfl, ?_⟩) hHeld ?_ ?_
      rotate_left
      ·rintro w' ⟨s0, s1⟩
       go_simp
       with_reducible rfl
      rotate_left
      ·simp only [Act.put, sA, sZ, sS, i64_w, i32_w]
       rfl
      refine one_ (i := 3) (N := some 41) (bl 10 15) rfl rfl (one_of HT_.out (by kernel_rfl)) (by decide) (fun K hK => ?_)
      refine goes_ Try.func11 (by kernel_rfl) rfl #[.slice A3 l3.length c3] (by rfl) rfl rfl (by (try simp only [List.map_toArray, List.map_cons, List.map_nil]); first | done | rfl | (simp only [List.length_drop, List.length_take]; rfl)) ?_
      with_reducible refine (lambrequinlaw12_env.calls kj9 _ _ l3 t105 _ ?side1 ?side2 A16.out).mono ?_
      (case side1 => repeat (first | exact (Kd.C_below HR3.out HB.out) | (with_reducible refine Kd.C_alloc ?_ _) | (with_reducible refine Kd.C_drewN ?_ _) | (with_reducible refine Kd.C_drew ?_)))
      (case side2 => exact HC3.out)
      rintro e w26 ⟨v106, rfl, ho0, hb⟩
      refine ⟨_, rfl, ?_⟩
      have HO107 := am (Kd.R_lower ho0 (below_size (by repeat (first | (with_reducible first | exact HB.out | apply lA | apply lN | apply lD | refine lS ?_ GE101.out | refine lS ?_ GE102.out) | exact HB.out))))
      replace BK101 := am (blk_below (g := gb101) (o := .cells #[.string a0_0, .slice A0_1 l0_1.length c0_1] 46 (0, 0)) (by (with_reducible repeat (first | refine bN ?_ _ | refine bD ?_ | refine bA ?_ _)); exact BK101.out) hb)
      replace BK102 := am (blk_below (g := gb102) (o := .cells #[.int .i64 a2_0, .string a2_1, .slice A2_2 l2_2.length c2_2, .string a2_3, .bool a2_4, .string a2_5, .bool a2_6, .string a2_7, .int .i64 a2_8, .bool a2_9, .string a2_10, .bool a2_11, .string a2_12, .int .i64 a2_13] 58 (0, 0)) (by (with_reducible repeat (first | refine bN ?_ _ | refine bD ?_ | refine bA ?_ _)); exact BK102.out) hb)
      replace HB := am (below_step (by repeat (first | (with_reducible first | exact HB.out | apply lA | apply lN | apply lD | refine lS ?_ GE101.out | refine lS ?_ GE102.out) | exact HB.out)) hb)
      (try clear hb)
      (try clear hb2)
      (try clear hk)
      (try clear hi)
      (try clear ho0)
      obtain ⟨Ao27, co27, eo27⟩ := Kd.R_slice HO107.out
      (first | subst eo27 | (injection eo27 with f1_ f2_ f3_; have f4_ := f1_.symm; have f5_ := f3_.symm; clear f1_ f2_ f3_; subst f4_; subst f5_))
      refine hK.out _ _ ⟨(blk_cell BK101.out 0).trans rfl, (blk_cell BK101.out 1).trans rfl⟩ (fun hHeld => ?_)
      clear hK K
      refine norm_ (a' := ?_) ?_ ?_
      rotate_left
      ·show Act.put _ (some 41) _ = _
       simp only [Act.put, sA, sZ, sS, i64_w, i32_w]
       rfl
      refine one_ (i := 4) (N := some 42) (bl 10 31) rfl rfl (one_of HT_.out (by kernel_rfl)) (by decide) (fun K hK => ?_)
      refine goes_ Try.func22 (by kernel_rfl) rfl #[.agg #[.string a0_0, .slice A0_1 l0_1.length c0_1], .slice A1 l1.length c1, .slice Ao27 t105.length co27] (by rfl) rfl rfl (by (try simp only [List.map_toArray, List.map_cons, List.map_nil]); first | done | rfl | (simp only [List.length_drop, List.length_take]; rfl)) ?_
      with_reducible refine (subst_Match.calls kj9 a0_0 _ _ l0_1 _ _ l1 (fun k_ => some k_ = (.slice Ao27 t105.length co27 : Value).ownBlock) _ _ t105 t108 t111 _ ?side1 ?side2 ?side3 ?side4 ?side5 A17.out).mono ?_
      (case side1 => repeat (first | exact (Kd.C_below HR0_1.out HB.out) | (with_reducible refine Kd.C_alloc ?_ _) | (with_reducible refine Kd.C_drewN ?_ _) | (with_reducible refine Kd.C_drew ?_)))
      (case side2 => exact HC0_1.out)
      (case side3 => repeat (first | exact (Kd.C_below HR1.out HB.out) | (with_reducible refine Kd.C_alloc ?_ _) | (with_reducible refine Kd.C_drewN ?_ _) | (with_reducible refine Kd.C_drew ?_)))
      (case side4 => exact HC1.out)
      (case side5 => exact Kd.R_V (Kd.R_tight rfl (Kd.R_types (Kd.R_types (HO107.out) BK101.out (by decide)) BK102.out (by decide))))
      rintro e w28 ⟨v109, rfl, ho0, hb⟩
      refine ⟨_, rfl, ?_⟩
      have HO110 := am (Kd.V_lower (Kd.V_mono (ok' := fun k_ => k_ ≠ gb101 ∧ k_ ≠ gb102) ho0 (fun k_ hk_ => ⟨Or.elim hk_ (fun hs_ => ((Kd.R_types (Kd.R_types (HO107.out) BK101.out (by decide)) BK102.out (by decide)).1 k_ hs_.symm).1.2) (fun hn_ => (Kd.freshB (g := gb101) (o := .cells #[.string a0_0, .slice A0_1 l0_1.length c0_1] 46 (0, 0)) (by (with_reducible repeat (first | refine bN ?_ _ | refine bD ?_ | refine bA ?_ _)); exact BK101.out) k_ hn_)), Or.elim hk_ (fun hs_ => ((Kd.R_types (Kd.R_types (HO107.out) BK101.out (by decide)) BK102.out (by decide)).1 k_ hs_.symm).2) (fun hn_ => (Kd.freshB (g := gb102) (o := .cells #[.int .i64 a2_0, .string a2_1, .slice A2_2 l2_2.length c2_2, .string a2_3, .bool a2_4, .string a2_5, .bool a2_6, .string a2_7, .int .i64 a2_8, .bool a2_9, .string a2_10, .bool a2_11, .string a2_12, .int .i64 a2_13] 58 (0, 0)) (by (with_reducible repeat (first | refine bN ?_ _ | refine bD ?_ | refine bA ?_ _)); exact BK102.out) k_ hn_))⟩)) (below_size (by repeat (first | (with_reducible first | exact HB.out | apply lA | apply lN | apply lD | refine lS ?_ GE101.out | refine lS ?_ GE102.out) | exact HB.out))))
      replace HO107 := am (Kd.R_below (by (with_reducible repeat (first | apply Ra | apply Rn | apply Rd)); exact HO107.out) hb)
      replace BK101 := am (blk_below (g := gb101) (o := .cells #[.string a0_0, .slice A0_1 l0_1.length c0_1] 46 (0, 0)) (by (with_reducible repeat (first | refine bN ?_ _ | refine bD ?_ | refine bA ?_ _)); exact BK101.out) hb)
      replace BK102 := am (blk_below (g := gb102) (o := .cells #[.int .i64 a2_0, .string a2_1, .slice A2_2 l2_2.length c2_2, .string a2_3, .bool a2_4, .string a2_5, .bool a2_6, .string a2_7, .int .i64 a2_8, .bool a2_9, .string a2_10, .bool a2_11, .string a2_12, .int .i64 a2_13] 58 (0, 0)) (by (with_reducible repeat (first | refine bN ?_ _ | refine bD ?_ | refine bA ?_ _)); exact BK102.out) hb)
      replace HB := am (below_step (by repeat (first | (with_reducible first | exact HB.out | apply lA | apply lN | apply lD | refine lS ?_ GE101.out | refine lS ?_ GE102.out) | exact HB.out)) hb)
      (try clear hb)
      (try clear hb2)
      (try clear hk)
      (try clear hi)
      (try clear ho0)
      refine hK.out _ _ ⟨(blk_cell BK101.out 0).trans rfl, (blk_cell BK101.out 1).trans rfl⟩ (fun hHeld => ?_)
      clear hK K
      refine norm_ (a' := ?_) ?_ ?_
      rotate_left
      ·show Act.put _ (some 42) _ = _
       simp only [Act.put, sA, sZ, sS, i64_w, i32_w]
       rfl
      refine pure_ (i := 5) (N := some 37) (v := ?_) (a' := ?_) (bl 10 63) rfl rfl (any_of HT_.out (by kernel_rfl)) (fun _ _ _ h => h) (Or.inl ⟨by rfl, ?_⟩) ?_ ?_
      rotate_left
      ·intro w'
       go_simp
       with_reducible rfl
      rotate_left
      ·simp only [Act.put, sA, sZ, sS, i64_w, i32_w]
       rfl
      refine pure_ (i := 6) (N := some 43) (v := ?_) (a' := ?_) (bl 10 127) rfl rfl (any_of HT_.out (by kernel_rfl)) (fun _ _ _ h => h) (Or.inl ⟨by rfl, ?_⟩) ?_ ?_
      rotate_left
      ·intro w'
       go_simp
       with_reducible rfl
      rotate_left
      ·simp only [Act.put, sA, sZ, sS, i64_w, i32_w]
       rfl
      refine pure_ (i := 7) (N := some 44) (v := ?_) (a' := ?_) (bl 10 255) rfl rfl (any_of HT_.out (by kernel_rfl)) (fun _ _ _ h => h) (Or.inl ⟨by rfl, ?_⟩) ?_ ?_
      rotate_left
      ·intro w'
       go_simp
       with_reducible rfl
      rotate_left
      ·simp only [Act.put, sA, sZ, sS, i64_w, i32_w]
       rfl
      refine pure_ (i := 8) (N := some 10) (v := ?_) (a' := ?_) (bl 10 511) rfl rfl (any_of HT_.out (by kernel_rfl)) (fun _ _ _ h => h) (Or.inl ⟨by rfl, ?_⟩) ?_ ?_
      rotate_left
      ·intro w'
       go_simp
       with_reducible rfl
      rotate_left
      ·simp only [Act.put, sA, sZ, sS, i64_w, i32_w]
       rfl
      refine pure_ (i := 9) (N := some 11) (v := ?_) (a' := ?_) (bl 10 1023) rfl rfl (any_of HT_.out (by kernel_rfl)) (fun _ _ _ h => h) (Or.inl ⟨by rfl, ?_⟩) ?_ ?_
      rotate_left
      ·intro w'
       go_simp
       with_reducible rfl
      rotate_left
      ·simp only [Act.put, sA, sZ, sS, i64_w, i32_w]
       rfl
      refine done_ (done_of HT_.out (by kernel_rfl)) ?_
      have hnb29 := NB101_102.out
      have hnc29 := NB102_101.out
      have hcz30_0 : w28.cell? ⟨gb101, 0, none⟩ = some (.string a0_0) := (blk_cell BK101.out 0).trans rfl
      have hcz30_1 : w28.cell? ⟨gb101, 1, none⟩ = some (.slice A0_1 l0_1.length c0_1) := (blk_cell BK101.out 1).trans rfl
      have hfz30_0 := blk_frozen BK101.out 0
      have hfz30_1 := blk_frozen BK101.out 1
      try go_wp2_with (first | ((with_reducible refine gate_callee (f := 24) rfl ?_); refine goesL_ (some 49) rfl rfl Try.func24 (by kernel_rfl) rfl #[.agg #[.string a0_0, .slice A0_1 l0_1.length c0_1], .slice A1 l1.length c1, .slice A3 l3.length c3] rfl (by (try simp only [List.map_toArray, List.map_cons, List.map_nil]); first | done | rfl | (simp only [List.length_drop, List.length_take]; rfl)) ?_; (with_reducible refine (lambrequinref12_Match.calls kj9 a0_0 _ _ l0_1 _ _ l1 (fun k_ => k_ < w.heap.size) _ _ l3 t112 t115 _ ?side1 ?side2 ?side3 ?side4 ?side5 A18.out).mono ?_); (case side1 => repeat (first | exact (Kd.C_below HR0_1.out HB.out) | (with_reducible refine Kd.C_alloc ?_ _) | (with_reducible refine Kd.C_drewN ?_ _) | (with_reducible refine Kd.C_drew ?_))); (case side2 => exact HC0_1.out); (case side3 => repeat (first | exact (Kd.C_below HR1.out HB.out) | (with_reducible refine Kd.C_alloc ?_ _) | (with_reducible refine Kd.C_drewN ?_ _) | (with_reducible refine Kd.C_drew ?_))); (case side4 => exact HC1.out); (case side5 => exact Kd.V_mk HC3.out (Kd.F_below (Kd.C_F k69_heap HR3.out) (by repeat (first | (with_reducible first | exact HB.out | apply lA | apply lN | apply lD | refine lS ?_ GE101.out | refine lS ?_ GE102.out) | exact HB.out)))); rintro e w31 ⟨v113, rfl, ho0, hb⟩; refine ⟨_, rfl, ?_⟩; replace HO110 := am (Kd.V_below (by (with_reducible repeat (first | apply Va | apply Vn | apply Vd)); exact HO110.out) hb); have HO114 := am (Kd.V_lower (Kd.V_mono (ok' := fun k_ => some k_ ≠ (.slice Ao27 t105.length co27 : Value).ownBlock ∧ k_ ≠ gb101 ∧ k_ ≠ gb102) ho0 (fun k_ hk_ => ⟨Or.elim hk_ (fun hs_ => fun e_ => Nat.not_le.2 hs_ (Kd.R_base HO107.out k_ e_.symm)) (fun hn_ => (Kd.fresh' (Kd.R_lt (by (with_reducible repeat (first | apply Ra | apply Rn | apply Rd)); exact HO107.out)) k_ hn_)), Or.elim hk_ (fun hs_ => fun e_ => Nat.not_le.2 hs_ (by rw [e_]; exact GW101.out)) (fun hn_ => (Kd.freshB (g := gb101) (o := .cells #[.string a0_0, .slice A0_1 l0_1.length c0_1] 46 (0, 0)) (by (with_reducible repeat (first | refine bN ?_ _ | refine bD ?_ | refine bA ?_ _)); exact BK101.out) k_ hn_)), Or.elim hk_ (fun hs_ => fun e_ => Nat.not_le.2 hs_ (by rw [e_]; exact GW102.out)) (fun hn_ => (Kd.freshB (g := gb102) (o := .cells #[.int .i64 a2_0, .string a2_1, .slice A2_2 l2_2.length c2_2, .string a2_3, .bool a2_4, .string a2_5, .bool a2_6, .string a2_7, .int .i64 a2_8, .bool a2_9, .string a2_10, .bool a2_11, .string a2_12, .int .i64 a2_13] 58 (0, 0)) (by (with_reducible repeat (first | refine bN ?_ _ | refine bD ?_ | refine bA ?_ _)); exact BK102.out) k_ hn_))⟩)) (below_size (by repeat (first | (with_reducible first | exact HB.out | apply lA | apply lN | apply lD | refine lS ?_ GE101.out | refine lS ?_ GE102.out) | exact HB.out)))); replace HO107 := am (Kd.R_below (by (with_reducible repeat (first | apply Ra | apply Rn | apply Rd)); exact HO107.out) hb); replace BK101 := am (blk_below (g := gb101) (o := .cells #[.string a0_0, .slice A0_1 l0_1.length c0_1] 46 (0, 0)) (by (with_reducible repeat (first | refine bN ?_ _ | refine bD ?_ | refine bA ?_ _)); exact BK101.out) hb); replace BK102 := am (blk_below (g := gb102) (o := .cells #[.int .i64 a2_0, .string a2_1, .slice A2_2 l2_2.length c2_2, .string a2_3, .bool a2_4, .string a2_5, .bool a2_6, .string a2_7, .int .i64 a2_8, .bool a2_9, .string a2_10, .bool a2_11, .string a2_12, .int .i64 a2_13] 58 (0, 0)) (by (with_reducible repeat (first | refine bN ?_ _ | refine bD ?_ | refine bA ?_ _)); exact BK102.out) hb); replace HB := am (below_step (by repeat (first | (with_reducible first | exact HB.out | apply lA | apply lN | apply lD | refine lS ?_ GE101.out | refine lS ?_ GE102.out) | exact HB.out)) hb); (try clear hb); (try clear hb2); (try clear hk); (try clear hi); (try clear ho0)))
      replace HO107 := am (Kd.R_drew HO107.out)
      replace HO110 := am (Kd.V_drew HO110.out)
      replace HO114 := am (Kd.V_drew HO114.out)
      replace BK101 := am (blk_drew BK101.out)
      replace BK102 := am (blk_drew BK102.out)
      replace HB := am (below_drew1 HB.out)
      refine start_ (n := 9) (S := fun w' => w'.cell? ⟨gb101, 0, none⟩ = some (.string a0_0) ∧ w'.cell? ⟨gb101, 1, none⟩ = some (.slice A0_1 l0_1.length c0_1)) (ds := []) (bl 9 0) (by kernel_rfl) rfl rfl ⟨(blk_cell BK101.out 0).trans rfl, (blk_cell BK101.out 1).trans rfl⟩ (fun hHeld => ?_); refine with_tabW lambrequinlaw12_SubstMatches.tab6 lambrequinlaw12_SubstMatches.bits6 (fun HT_ HW_ => ?_)
      generalize w31.drew = w32 at HO107 HO110 HO114 BK101 BK102 HB hHeld ⊢
      refine pure_ (i := 1) (N := some 54) (v := ?_) (a' := ?_) (bl 9 2) rfl rfl (any_of HT_.out (by kernel_rfl)) (fun _ _ _ h => h) (Or.inl ⟨by rfl, ?_⟩) ?_ ?_
      rotate_left
      ·intro w'
       go_simp
       with_reducible rfl
      rotate_left
      ·simp only [Act.put, sA, sZ, sS, i64_w, i32_w]
       rfl
      refine take_ (i := 0) (N := some 53) (v := ?_) (a' := ?_) (bl 9 3) rfl rfl (take_ofW HT_.out HW_.out (by kernel_rfl)) (fun _ _ _ h => h) (Or.inl ⟨by rfl, ?_⟩) hHeld ?_ ?_
      rotate_left
      ·rintro w' ⟨s0, s1⟩
       go_simp
       with_reducible rfl
      rotate_left
      ·simp only [Act.put, sA, sZ, sS, i64_w, i32_w]
       rfl
      refine one_ (i := 2) (N := some 55) (bl 9 7) rfl rfl (one_of HT_.out (by kernel_rfl)) (by decide) (fun K hK => ?_)
      refine goes_ Try.func11 (by kernel_rfl) rfl #[.slice A3 l3.length c3] (by rfl) rfl rfl (by (try simp only [List.map_toArray, List.map_cons, List.map_nil]); first | done | rfl | (simp only [List.length_drop, List.length_take]; rfl)) ?_
      with_reducible refine (lambrequinlaw12_env.calls kj9 _ _ l3 t116 _ ?side1 ?side2 A19.out).mono ?_
      (case side1 => repeat (first | exact (Kd.C_below HR3.out HB.out) | (with_reducible refine Kd.C_alloc ?_ _) | (with_reducible refine Kd.C_drewN ?_ _) | (with_reducible refine Kd.C_drew ?_)))
      (case side2 => exact HC3.out)
      rintro e w33 ⟨v117, rfl, ho0, hb⟩
      refine ⟨_, rfl, ?_⟩
      replace HO110 := am (Kd.V_elder' (by (with_reducible repeat (first | apply Va | apply Vn | apply Vd)); exact HO110.out) (Kd.R_base ho0) hb)
      replace HO114 := am (Kd.V_elder' (by (with_reducible repeat (first | apply Va | apply Vn | apply Vd)); exact HO114.out) (Kd.R_base ho0) hb)
      have HO118 := am (Kd.R_lower (Kd.R_new' ho0 (Kd.R_lt (by (with_reducible repeat (first | apply Ra | apply Rn | apply Rd)); exact HO107.out))) (below_size (by repeat (first | (with_reducible first | exact HB.out | apply lA | apply lN | apply lD | refine lS ?_ GE101.out | refine lS ?_ GE102.out) | exact HB.out))))
      replace HO107 := am (Kd.R_elder' (by (with_reducible repeat (first | apply Ra | apply Rn | apply Rd)); exact HO107.out) (Kd.R_base ho0) hb)
      replace BK101 := am (blk_below (g := gb101) (o := .cells #[.string a0_0, .slice A0_1 l0_1.length c0_1] 46 (0, 0)) (by (with_reducible repeat (first | refine bN ?_ _ | refine bD ?_ | refine bA ?_ _)); exact BK101.out) hb)
      replace BK102 := am (blk_below (g := gb102) (o := .cells #[.int .i64 a2_0, .string a2_1, .slice A2_2 l2_2.length c2_2, .string a2_3, .bool a2_4, .string a2_5, .bool a2_6, .string a2_7, .int .i64 a2_8, .bool a2_9, .string a2_10, .bool a2_11, .string a2_12, .int .i64 a2_13] 58 (0, 0)) (by (with_reducible repeat (first | refine bN ?_ _ | refine bD ?_ | refine bA ?_ _)); exact BK102.out) hb)
      replace HB := am (below_step (by repeat (first | (with_reducible first | exact HB.out | apply lA | apply lN | apply lD | refine lS ?_ GE101.out | refine lS ?_ GE102.out) | exact HB.out)) hb)
      (try clear hb)
      (try clear hb2)
      (try clear hk)
      (try clear hi)
      (try clear ho0)
      obtain ⟨Ao34, co34, eo34⟩ := Kd.R_slice HO118.out
      (first | subst eo34 | (injection eo34 with f1_ f2_ f3_; have f4_ := f1_.symm; have f5_ := f3_.symm; clear f1_ f2_ f3_; subst f4_; subst f5_))
      refine hK.out _ _ ⟨(blk_cell BK101.out 0).trans rfl, (blk_cell BK101.out 1).trans rfl⟩ (fun hHeld => ?_)
      clear hK K
      refine norm_ (a' := ?_) ?_ ?_
      rotate_left
      ·show Act.put _ (some 55) _ = _
       simp only [Act.put, sA, sZ, sS, i64_w, i32_w]
       rfl
      refine one_ (i := 3) (N := some 56) (bl 9 15) rfl rfl (one_of HT_.out (by kernel_rfl)) (by decide) (fun K hK => ?_)
      refine goes_ Try.func21 (by kernel_rfl) rfl #[.agg #[.string a0_0, .slice A0_1 l0_1.length c0_1], .slice Ao34 t116.length co34] (by rfl) rfl rfl (by (try simp only [List.map_toArray, List.map_cons, List.map_nil]); first | done | rfl | (simp only [List.length_drop, List.length_take]; rfl)) ?_
      with_reducible refine (subst_Ground.calls kj9 a0_0 _ _ l0_1 _ _ t116 t119 t122 _ ?side1 ?side2 ?side3 ?side4 A20.out).mono ?_
      (case side1 => repeat (first | exact (Kd.C_below HR0_1.out HB.out) | (with_reducible refine Kd.C_alloc ?_ _) | (with_reducible refine Kd.C_drewN ?_ _) | (with_reducible refine Kd.C_drew ?_)))
      (case side2 => exact HC0_1.out)
      (case side3 => repeat (first | exact (Kd.R_reads' HO118.out).2.2 | (with_reducible refine Kd.C_alloc ?_ _) | (with_reducible refine Kd.C_drewN ?_ _) | (with_reducible refine Kd.C_drew ?_)))
      (case side4 => exact (Kd.R_reads' HO118.out).2.1)
      rintro e w35 ⟨v120, rfl, ho0, hb⟩
      refine ⟨_, rfl, ?_⟩
      replace HO107 := am (Kd.R_below (by (with_reducible repeat (first | apply Ra | apply Rn | apply Rd)); exact HO107.out) hb)
      replace HO110 := am (Kd.V_elder' (by (with_reducible repeat (first | apply Va | apply Vn | apply Vd)); exact HO110.out) (Kd.R_base ho0) hb)
      replace HO114 := am (Kd.V_elder' (by (with_reducible repeat (first | apply Va | apply Vn | apply Vd)); exact HO114.out) (Kd.R_base ho0) hb)
      replace HO118 := am (Kd.R_below (by (with_reducible repeat (first | apply Ra | apply Rn | apply Rd)); exact HO118.out) hb)
      have HO121 := am (Kd.R_lower ho0 (below_size (by repeat (first | (with_reducible first | exact HB.out | apply lA | apply lN | apply lD | refine lS ?_ GE101.out | refine lS ?_ GE102.out) | exact HB.out))))
      replace BK101 := am (blk_below (g := gb101) (o := .cells #[.string a0_0, .slice A0_1 l0_1.length c0_1] 46 (0, 0)) (by (with_reducible repeat (first | refine bN ?_ _ | refine bD ?_ | refine bA ?_ _)); exact BK101.out) hb)
      replace BK102 := am (blk_below (g := gb102) (o := .cells #[.int .i64 a2_0, .string a2_1, .slice A2_2 l2_2.length c2_2, .string a2_3, .bool a2_4, .string a2_5, .bool a2_6, .string a2_7, .int .i64 a2_8, .bool a2_9, .string a2_10, .bool a2_11, .string a2_12, .int .i64 a2_13] 58 (0, 0)) (by (with_reducible repeat (first | refine bN ?_ _ | refine bD ?_ | refine bA ?_ _)); exact BK102.out) hb)
      replace HB := am (below_step (by repeat (first | (with_reducible first | exact HB.out | apply lA | apply lN | apply lD | refine lS ?_ GE101.out | refine lS ?_ GE102.out) | exact HB.out)) hb)
      (try clear hb)
      (try clear hb2)
      (try clear hk)
      (try clear hi)
      (try clear ho0)
      refine hK.out _ _ ⟨(blk_cell BK101.out 0).trans rfl, (blk_cell BK101.out 1).trans rfl⟩ (fun hHeld => ?_)
      clear hK K
      refine norm_ (a' := ?_) ?_ ?_
      rotate_left
      ·show Act.put _ (some 56) _ = _
       simp only [Act.put, sA, sZ, sS, i64_w, i32_w]
       rfl
      refine pure_ (i := 4) (N := some 52) (v := ?_) (a' := ?_) (bl 9 31) rfl rfl (any_of HT_.out (by kernel_rfl)) (fun _ _ _ h => h) (Or.inl ⟨by rfl, ?_⟩) ?_ ?_
      rotate_left
      ·intro w'
       go_simp
       with_reducible rfl
      rotate_left
      ·simp only [Act.put, sA, sZ, sS, i64_w, i32_w]
       rfl
      refine pure_ (i := 5) (N := some 57) (v := ?_) (a' := ?_) (bl 9 63) rfl rfl (any_of HT_.out (by kernel_rfl)) (fun _ _ _ h => h) (Or.inl ⟨by rfl, ?_⟩) ?_ ?_
      rotate_left
      ·intro w'
       go_simp
       with_reducible rfl
      rotate_left
      ·simp only [Act.put, sA, sZ, sS, i64_w, i32_w]
       rfl
      refine pure_ (i := 6) (N := some 58) (v := ?_) (a' := ?_) (bl 9 127) rfl rfl (any_of HT_.out (by kernel_rfl)) (fun _ _ _ h => h) (Or.inl ⟨by rfl, ?_⟩) ?_ ?_
      rotate_left
      ·intro w'
       go_simp
       with_reducible rfl
      rotate_left
      ·simp only [Act.put, sA, sZ, sS, i64_w, i32_w]
       rfl
      refine pure_ (i := 7) (N := some 14) (v := ?_) (a' := ?_) (bl 9 255) rfl rfl (any_of HT_.out (by kernel_rfl)) (fun _ _ _ h => h) (Or.inl ⟨by rfl, ?_⟩) ?_ ?_
      rotate_left
      ·intro w'
       go_simp
       with_reducible rfl
      rotate_left
      ·simp only [Act.put, sA, sZ, sS, i64_w, i32_w]
       rfl
      refine pure_ (i := 8) (N := some 15) (v := ?_) (a' := ?_) (bl 9 511) rfl rfl (any_of HT_.out (by kernel_rfl)) (fun _ _ _ h => h) (Or.inl ⟨by rfl, ?_⟩) ?_ ?_
      rotate_left
      ·intro w'
       go_simp
       with_reducible rfl
      rotate_left
      ·simp only [Act.put, sA, sZ, sS, i64_w, i32_w]
       rfl
      refine done_ (done_of HT_.out (by kernel_rfl)) ?_
      have hcz36_0 : w35.cell? ⟨gb101, 0, none⟩ = some (.string a0_0) := (blk_cell BK101.out 0).trans rfl
      have hcz36_1 : w35.cell? ⟨gb101, 1, none⟩ = some (.slice A0_1 l0_1.length c0_1) := (blk_cell BK101.out 1).trans rfl
      have hfz36_0 := blk_frozen BK101.out 0
      have hfz36_1 := blk_frozen BK101.out 1
      try go_wp2_with (first | ((with_reducible refine gate_callee (f := 25) rfl ?_); refine goesL_ (some 62) rfl rfl Try.func25 (by kernel_rfl) rfl #[.agg #[.string a0_0, .slice A0_1 l0_1.length c0_1], .slice A3 l3.length c3] rfl (by (try simp only [List.map_toArray, List.map_cons, List.map_nil]); first | done | rfl | (simp only [List.length_drop, List.length_take]; rfl)) ?_; (with_reducible refine (lambrequinref12_Ground.calls kj9 a0_0 _ _ l0_1 _ _ l3 t123 t126 _ ?side1 ?side2 ?side3 ?side4 A21.out).mono ?_); (case side1 => repeat (first | exact (Kd.C_below HR0_1.out HB.out) | (with_reducible refine Kd.C_alloc ?_ _) | (with_reducible refine Kd.C_drewN ?_ _) | (with_reducible refine Kd.C_drew ?_))); (case side2 => exact HC0_1.out); (case side3 => repeat (first | exact (Kd.C_below HR3.out HB.out) | (with_reducible refine Kd.C_alloc ?_ _) | (with_reducible refine Kd.C_drewN ?_ _) | (with_reducible refine Kd.C_drew ?_))); (case side4 => exact HC3.out); rintro e w37 ⟨v124, rfl, ho0, hb⟩; refine ⟨_, rfl, ?_⟩; replace HO107 := am (Kd.R_below (by (with_reducible repeat (first | apply Ra | apply Rn | apply Rd)); exact HO107.out) hb); replace HO110 := am (Kd.V_elder' (by (with_reducible repeat (first | apply Va | apply Vn | apply Vd)); exact HO110.out) (Kd.R_base ho0) hb); replace HO114 := am (Kd.V_elder' (by (with_reducible repeat (first | apply Va | apply Vn | apply Vd)); exact HO114.out) (Kd.R_base ho0) hb); replace HO118 := am (Kd.R_below (by (with_reducible repeat (first | apply Ra | apply Rn | apply Rd)); exact HO118.out) hb); have HO125 := am (Kd.R_lower (Kd.R_new' ho0 (Kd.R_lt (by (with_reducible repeat (first | apply Ra | apply Rn | apply Rd)); exact HO121.out))) (below_size (by repeat (first | (with_reducible first | exact HB.out | apply lA | apply lN | apply lD | refine lS ?_ GE101.out | refine lS ?_ GE102.out) | exact HB.out)))); replace HO121 := am (Kd.R_elder' (by (with_reducible repeat (first | apply Ra | apply Rn | apply Rd)); exact HO121.out) (Kd.R_base ho0) hb); replace BK101 := am (blk_below (g := gb101) (o := .cells #[.string a0_0, .slice A0_1 l0_1.length c0_1] 46 (0, 0)) (by (with_reducible repeat (first | refine bN ?_ _ | refine bD ?_ | refine bA ?_ _)); exact BK101.out) hb); replace BK102 := am (blk_below (g := gb102) (o := .cells #[.int .i64 a2_0, .string a2_1, .slice A2_2 l2_2.length c2_2, .string a2_3, .bool a2_4, .string a2_5, .bool a2_6, .string a2_7, .int .i64 a2_8, .bool a2_9, .string a2_10, .bool a2_11, .string a2_12, .int .i64 a2_13] 58 (0, 0)) (by (with_reducible repeat (first | refine bN ?_ _ | refine bD ?_ | refine bA ?_ _)); exact BK102.out) hb); replace HB := am (below_step (by repeat (first | (with_reducible first | exact HB.out | apply lA | apply lN | apply lD | refine lS ?_ GE101.out | refine lS ?_ GE102.out) | exact HB.out)) hb); (try clear hb); (try clear hb2); (try clear hk); (try clear hi); (try clear ho0)))
      replace HO107 := am (Kd.R_drew HO107.out)
      replace HO110 := am (Kd.V_drew HO110.out)
      replace HO114 := am (Kd.V_drew HO114.out)
      replace HO118 := am (Kd.R_drew HO118.out)
      replace HO121 := am (Kd.R_drew HO121.out)
      replace HO125 := am (Kd.R_drew HO125.out)
      replace BK101 := am (blk_drew BK101.out)
      replace BK102 := am (blk_drew BK102.out)
      replace HB := am (below_drew1 HB.out)
      refine start_ (n := 9) (S := fun w' => w'.cell? ⟨gb102, 0, none⟩ = some (.int .i64 a2_0) ∧ w'.cell? ⟨gb102, 1, none⟩ = some (.string a2_1) ∧ w'.cell? ⟨gb102, 2, none⟩ = some (.slice A2_2 l2_2.length c2_2) ∧ w'.cell? ⟨gb102, 3, none⟩ = some (.string a2_3) ∧ w'.cell? ⟨gb102, 4, none⟩ = some (.bool a2_4) ∧ w'.cell? ⟨gb102, 5, none⟩ = some (.string a2_5) ∧ w'.cell? ⟨gb102, 6, none⟩ = some (.bool a2_6) ∧ w'.cell? ⟨gb102, 7, none⟩ = some (.string a2_7) ∧ w'.cell? ⟨gb102, 8, none⟩ = some (.int .i64 a2_8) ∧ w'.cell? ⟨gb102, 9, none⟩ = some (.bool a2_9) ∧ w'.cell? ⟨gb102, 10, none⟩ = some (.string a2_10) ∧ w'.cell? ⟨gb102, 11, none⟩ = some (.bool a2_11) ∧ w'.cell? ⟨gb102, 12, none⟩ = some (.string a2_12) ∧ w'.cell? ⟨gb102, 13, none⟩ = some (.int .i64 a2_13)) (ds := []) (bl 9 0) (by kernel_rfl) rfl rfl ⟨(blk_cell BK102.out 0).trans rfl, (blk_cell BK102.out 1).trans rfl, (blk_cell BK102.out 2).trans rfl, (blk_cell BK102.out 3).trans rfl, (blk_cell BK102.out 4).trans rfl, (blk_cell BK102.out 5).trans rfl, (blk_cell BK102.out 6).trans rfl, (blk_cell BK102.out 7).trans rfl, (blk_cell BK102.out 8).trans rfl, (blk_cell BK102.out 9).trans rfl, (blk_cell BK102.out 10).trans rfl, (blk_cell BK102.out 11).trans rfl, (blk_cell BK102.out 12).trans rfl, (blk_cell BK102.out 13).trans rfl⟩ (fun hHeld => ?_); refine with_tabW lambrequinlaw12_SubstMatches.tab8 lambrequinlaw12_SubstMatches.bits8 (fun HT_ HW_ => ?_)
      generalize w37.drew = w38 at HO107 HO110 HO114 HO118 HO121 HO125 BK101 BK102 HB hHeld ⊢
      refine pure_ (i := 1) (N := some 67) (v := ?_) (a' := ?_) (bl 9 2) rfl rfl (any_of HT_.out (by kernel_rfl)) (fun _ _ _ h => h) (Or.inl ⟨by rfl, ?_⟩) ?_ ?_
      rotate_left
      ·intro w'
       go_simp
       with_reducible rfl
      rotate_left
      ·simp only [Act.put, sA, sZ, sS, i64_w, i32_w]
       rfl
      refine take_ (i := 0) (N := some 66) (v := ?_) (a' := ?_) (bl 9 3) rfl rfl (take_ofW HT_.out HW_.out (by kernel_rfl)) (fun _ _ _ h => h) (Or.inl ⟨by rfl, ?_⟩) hHeld ?_ ?_
      rotate_left
      ·rintro w' ⟨s0, s1, s2, s3, s4, s5, s6, s7, s8, s9, s10, s11, s12, s13⟩
       go_simp
       with_reducible rfl
      rotate_left
      ·simp only [Act.put, sA, sZ, sS, i64_w, i32_w]
       rfl
      refine one_ (i := 2) (N := some 68) (bl 9 7) rfl rfl (one_of HT_.out (by kernel_rfl)) (by decide) (fun K hK => ?_)
      refine goes_ Try.func11 (by kernel_rfl) rfl #[.slice A3 l3.length c3] (by rfl) rfl rfl (by (try simp only [List.map_toArray, List.map_cons, List.map_nil]); first | done | rfl | (simp only [List.length_drop, List.length_take]; rfl)) ?_
      with_reducible refine (lambrequinlaw12_env.calls kj9 _ _ l3 t127 _ ?side1 ?side2 A22.out).mono ?_
      (case side1 => repeat (first | exact (Kd.C_below HR3.out HB.out) | (with_reducible refine Kd.C_alloc ?_ _) | (with_reducible refine Kd.C_drewN ?_ _) | (with_reducible refine Kd.C_drew ?_)))
      (case side2 => exact HC3.out)
      rintro e w39 ⟨v128, rfl, ho0, hb⟩
      refine ⟨_, rfl, ?_⟩
      replace HO110 := am (Kd.V_elder' (by (with_reducible repeat (first | apply Va | apply Vn | apply Vd)); exact HO110.out) (Kd.R_base ho0) hb)
      replace HO114 := am (Kd.V_elder' (by (with_reducible repeat (first | apply Va | apply Vn | apply Vd)); exact HO114.out) (Kd.R_base ho0) hb)
      replace HO121 := am (Kd.R_below (by (with_reducible repeat (first | apply Ra | apply Rn | apply Rd)); exact HO121.out) hb)
      replace HO125 := am (Kd.R_below (by (with_reducible repeat (first | apply Ra | apply Rn | apply Rd)); exact HO125.out) hb)
      have HO129 := am (Kd.R_lower (Kd.R_new' (Kd.R_new' ho0 (Kd.R_lt (by (with_reducible repeat (first | apply Ra | apply Rn | apply Rd)); exact HO107.out))) (Kd.R_lt (by (with_reducible repeat (first | apply Ra | apply Rn | apply Rd)); exact HO118.out))) (below_size (by repeat (first | (with_reducible first | exact HB.out | apply lA | apply lN | apply lD | refine lS ?_ GE101.out | refine lS ?_ GE102.out) | exact HB.out))))
      replace HO107 := am (Kd.R_elder' (by (with_reducible repeat (first | apply Ra | apply Rn | apply Rd)); exact HO107.out) (Kd.R_base ho0) hb)
      replace HO118 := am (Kd.R_elder' (by (with_reducible repeat (first | apply Ra | apply Rn | apply Rd)); exact HO118.out) (Kd.R_base ho0) hb)
      replace BK101 := am (blk_below (g := gb101) (o := .cells #[.string a0_0, .slice A0_1 l0_1.length c0_1] 46 (0, 0)) (by (with_reducible repeat (first | refine bN ?_ _ | refine bD ?_ | refine bA ?_ _)); exact BK101.out) hb)
      replace BK102 := am (blk_below (g := gb102) (o := .cells #[.int .i64 a2_0, .string a2_1, .slice A2_2 l2_2.length c2_2, .string a2_3, .bool a2_4, .string a2_5, .bool a2_6, .string a2_7, .int .i64 a2_8, .bool a2_9, .string a2_10, .bool a2_11, .string a2_12, .int .i64 a2_13] 58 (0, 0)) (by (with_reducible repeat (first | refine bN ?_ _ | refine bD ?_ | refine bA ?_ _)); exact BK102.out) hb)
      replace HB := am (below_step (by repeat (first | (with_reducible first | exact HB.out | apply lA | apply lN | apply lD | refine lS ?_ GE101.out | refine lS ?_ GE102.out) | exact HB.out)) hb)
      (try clear hb)
      (try clear hb2)
      (try clear hk)
      (try clear hi)
      (try clear ho0)
      obtain ⟨Ao40, co40, eo40⟩ := Kd.R_slice HO129.out
      (first | subst eo40 | (injection eo40 with f1_ f2_ f3_; have f4_ := f1_.symm; have f5_ := f3_.symm; clear f1_ f2_ f3_; subst f4_; subst f5_))
      refine hK.out _ _ ⟨(blk_cell BK102.out 0).trans rfl, (blk_cell BK102.out 1).trans rfl, (blk_cell BK102.out 2).trans rfl, (blk_cell BK102.out 3).trans rfl, (blk_cell BK102.out 4).trans rfl, (blk_cell BK102.out 5).trans rfl, (blk_cell BK102.out 6).trans rfl, (blk_cell BK102.out 7).trans rfl, (blk_cell BK102.out 8).trans rfl, (blk_cell BK102.out 9).trans rfl, (blk_cell BK102.out 10).trans rfl, (blk_cell BK102.out 11).trans rfl, (blk_cell BK102.out 12).trans rfl, (blk_cell BK102.out 13).trans rfl⟩ (fun hHeld => ?_)
      clear hK K
      refine norm_ (a' := ?_) ?_ ?_
      rotate_left
      ·show Act.put _ (some 68) _ = _
       simp only [Act.put, sA, sZ, sS, i64_w, i32_w]
       rfl
      refine one_ (i := 3) (N := some 69) (bl 9 15) rfl rfl (one_of HT_.out (by kernel_rfl)) (by decide) (fun K hK => ?_)
      refine goes_ Try.func26 (by kernel_rfl) rfl #[.agg #[.int .i64 a2_0, .string a2_1, .slice A2_2 l2_2.length c2_2, .string a2_3, .bool a2_4, .string a2_5, .bool a2_6, .string a2_7, .int .i64 a2_8, .bool a2_9, .string a2_10, .bool a2_11, .string a2_12, .int .i64 a2_13], .slice Ao40 t127.length co40] (by rfl) rfl rfl (by (try simp only [List.map_toArray, List.map_cons, List.map_nil]); first | done | rfl | (simp only [List.length_drop, List.length_take]; rfl)) ?_
      with_reducible refine (subst_Holds.calls a2_0 a2_1 _ _ l2_2 a2_3 a2_4 a2_5 a2_6 a2_7 a2_8 a2_9 a2_10 a2_11 a2_12 a2_13 _ _ t127 t130 t131 _ ?side1 ?side2 ?side3 ?side4 A23.out).mono ?_
      (case side1 => repeat (first | exact (Kd.C_below HR2_2.out HB.out) | (with_reducible refine Kd.C_alloc ?_ _) | (with_reducible refine Kd.C_drewN ?_ _) | (with_reducible refine Kd.C_drew ?_)))
      (case side2 => exact HC2_2.out)
      (case side3 => repeat (first | exact (Kd.R_reads' HO129.out).2.2 | (with_reducible refine Kd.C_alloc ?_ _) | (with_reducible refine Kd.C_drewN ?_ _) | (with_reducible refine Kd.C_drew ?_)))
      (case side4 => exact (Kd.R_reads' HO129.out).2.1)
      rintro e w41 ⟨rfl, hb⟩
      refine ⟨_, rfl, ?_⟩
      replace HO107 := am (Kd.R_below (by (with_reducible repeat (first | apply Ra | apply Rn | apply Rd)); exact HO107.out) hb)
      replace HO110 := am (Kd.V_below (by (with_reducible repeat (first | apply Va | apply Vn | apply Vd)); exact HO110.out) hb)
      replace HO114 := am (Kd.V_below (by (with_reducible repeat (first | apply Va | apply Vn | apply Vd)); exact HO114.out) hb)
      replace HO118 := am (Kd.R_below (by (with_reducible repeat (first | apply Ra | apply Rn | apply Rd)); exact HO118.out) hb)
      replace HO121 := am (Kd.R_below (by (with_reducible repeat (first | apply Ra | apply Rn | apply Rd)); exact HO121.out) hb)
      replace HO125 := am (Kd.R_below (by (with_reducible repeat (first | apply Ra | apply Rn | apply Rd)); exact HO125.out) hb)
      replace HO129 := am (Kd.R_below (by (with_reducible repeat (first | apply Ra | apply Rn | apply Rd)); exact HO129.out) hb)
      replace BK101 := am (blk_below (g := gb101) (o := .cells #[.string a0_0, .slice A0_1 l0_1.length c0_1] 46 (0, 0)) (by (with_reducible repeat (first | refine bN ?_ _ | refine bD ?_ | refine bA ?_ _)); exact BK101.out) hb)
      replace BK102 := am (blk_below (g := gb102) (o := .cells #[.int .i64 a2_0, .string a2_1, .slice A2_2 l2_2.length c2_2, .string a2_3, .bool a2_4, .string a2_5, .bool a2_6, .string a2_7, .int .i64 a2_8, .bool a2_9, .string a2_10, .bool a2_11, .string a2_12, .int .i64 a2_13] 58 (0, 0)) (by (with_reducible repeat (first | refine bN ?_ _ | refine bD ?_ | refine bA ?_ _)); exact BK102.out) hb)
      replace HB := am (below_step (by repeat (first | (with_reducible first | exact HB.out | apply lA | apply lN | apply lD | refine lS ?_ GE101.out | refine lS ?_ GE102.out) | exact HB.out)) hb)
      (try clear hb)
      (try clear hb2)
      (try clear hk)
      (try clear hi)
      refine hK.out _ _ ⟨(blk_cell BK102.out 0).trans rfl, (blk_cell BK102.out 1).trans rfl, (blk_cell BK102.out 2).trans rfl, (blk_cell BK102.out 3).trans rfl, (blk_cell BK102.out 4).trans rfl, (blk_cell BK102.out 5).trans rfl, (blk_cell BK102.out 6).trans rfl, (blk_cell BK102.out 7).trans rfl, (blk_cell BK102.out 8).trans rfl, (blk_cell BK102.out 9).trans rfl, (blk_cell BK102.out 10).trans rfl, (blk_cell BK102.out 11).trans rfl, (blk_cell BK102.out 12).trans rfl, (blk_cell BK102.out 13).trans rfl⟩ (fun hHeld => ?_)
      clear hK K
      refine norm_ (a' := ?_) ?_ ?_
      rotate_left
      ·show Act.put _ (some 69) _ = _
       simp only [Act.put, sA, sZ, sS, i64_w, i32_w]
       rfl
      refine pure_ (i := 4) (N := some 65) (v := ?_) (a' := ?_) (bl 9 31) rfl rfl (any_of HT_.out (by kernel_rfl)) (fun _ _ _ h => h) (Or.inl ⟨by rfl, ?_⟩) ?_ ?_
      rotate_left
      ·intro w'
       go_simp
       with_reducible rfl
      rotate_left
      ·simp only [Act.put, sA, sZ, sS, i64_w, i32_w]
       rfl
      refine pure_ (i := 5) (N := some 70) (v := ?_) (a' := ?_) (bl 9 63) rfl rfl (any_of HT_.out (by kernel_rfl)) (fun _ _ _ h => h) (Or.inl ⟨by rfl, ?_⟩) ?_ ?_
      rotate_left
      ·intro w'
       go_simp
       with_reducible rfl
      rotate_left
      ·simp only [Act.put, sA, sZ, sS, i64_w, i32_w]
       rfl
      refine pure_ (i := 6) (N := some 71) (v := ?_) (a' := ?_) (bl 9 127) rfl rfl (any_of HT_.out (by kernel_rfl)) (fun _ _ _ h => h) (Or.inl ⟨by rfl, ?_⟩) ?_ ?_
      rotate_left
      ·intro w'
       go_simp
       with_reducible rfl
      rotate_left
      ·simp only [Act.put, sA, sZ, sS, i64_w, i32_w]
       rfl
      refine pure_ (i := 7) (N := some 18) (v := ?_) (a' := ?_) (bl 9 255) rfl rfl (any_of HT_.out (by kernel_rfl)) (fun _ _ _ h => h) (Or.inl ⟨by rfl, ?_⟩) ?_ ?_
      rotate_left
      ·intro w'
       go_simp
       with_reducible rfl
      rotate_left
      ·simp only [Act.put, sA, sZ, sS, i64_w, i32_w]
       rfl
      refine pure_ (i := 8) (N := some 19) (v := ?_) (a' := ?_) (bl 9 511) rfl rfl (any_of HT_.out (by kernel_rfl)) (fun _ _ _ h => h) (Or.inl ⟨by rfl, ?_⟩) ?_ ?_
      rotate_left
      ·intro w'
       go_simp
       with_reducible rfl
      rotate_left
      ·simp only [Act.put, sA, sZ, sS, i64_w, i32_w]
       rfl
      refine done_ (done_of HT_.out (by kernel_rfl)) ?_
      go_upto_region 9 with (fail)
      go_cut [20, 21] (fun v20 v21 wc => ∃ (kq : Nat) (x20_23 : Bool) (x21_23 : Bool), v20 = .bool x20_23 ∧ v21 = .bool x21_23 ∧ Aside0 (lambrequinlaw12_SubstMatches.j2 kq l3 x9_4 t108 t111 t112 t115 t119 t122 t123 t126 t130 t131 x20_23 x21_23 a2_0 a2_1 l2_2 a2_3 a2_4 a2_5 a2_6 a2_7 a2_8 a2_9 a2_10 a2_11 a2_12 a2_13 = some r) ∧ Aside0 (kq ≤ kj9) ∧ Aside0 (Kd.V k41 41 wc w.heap.size (fun k_ => some k_ ≠ (v120 : Value).ownBlock ∧ some k_ ≠ (v124 : Value).ownBlock ∧ k_ ≠ gb101 ∧ k_ ≠ gb102) v109 t108) ∧ Aside0 (Kd.V k69 69 wc w.heap.size (fun k_ => some k_ ≠ (v120 : Value).ownBlock ∧ some k_ ≠ (v124 : Value).ownBlock ∧ k_ ≠ gb101 ∧ k_ ≠ gb102) v113 t112) ∧ Aside0 (Kd.R k24 24 wc w.heap.size (fun k_ => some k_ ≠ (v124 : Value).ownBlock) v120 t119) ∧ Aside0 (Kd.R k24 24 wc w.heap.size (fun k_ => some k_ ≠ (v120 : Value).ownBlock) v124 t123) ∧ Aside0 (wc.heap[gb101]? = some (.cells #[.string a0_0, (.slice A0_1 l0_1.length c0_1)] 46 (0, 0))) ∧ Aside0 (wc.heap[gb102]? = some (.cells #[.int .i64 a2_0, .string a2_1, (.slice A2_2 l2_2.length c2_2), .string a2_3, .bool a2_4, .string a2_5, .bool a2_6, .string a2_7, .int .i64 a2_8, .bool a2_9, .string a2_10, .bool a2_11, .string a2_12, .int .i64 a2_13] 58 (0, 0))) ∧ Aside0 (Below w.heap.size w wc))
      case first =>
       have H := HC24.out
       clear HC24
       replace H := Option.bind_eq_some_iff.mp H
       obtain ⟨⟨t132, t133⟩, A420, H⟩ := H
       replace H : (lambrequinlaw12_SubstMatches.j2 kj9 l3 x9_4 t108 t111 t112 t115 t119 t122 t123 t126 t130 t131 t132 t133 a2_0 a2_1 l2_2 a2_3 a2_4 a2_5 a2_6 a2_7 a2_8 a2_9 a2_10 a2_11 a2_12 a2_13) = some r := H
       have A42 := am A420
       clear A420
       have H' := am H
       clear H
       have hnb43 := NB102_101.out
       have hnc43 := NB101_102.out
       have hcz44_0 : w41.cell? ⟨gb102, 0, none⟩ = some (.int .i64 a2_0) := (blk_cell BK102.out 0).trans rfl
       have hcz44_1 : w41.cell? ⟨gb102, 1, none⟩ = some (.string a2_1) := (blk_cell BK102.out 1).trans rfl
       have hcz44_2 : w41.cell? ⟨gb102, 2, none⟩ = some (.slice A2_2 l2_2.length c2_2) := (blk_cell BK102.out 2).trans rfl
       have hcz44_3 : w41.cell? ⟨gb102, 3, none⟩ = some (.string a2_3) := (blk_cell BK102.out 3).trans rfl
       have hcz44_4 : w41.cell? ⟨gb102, 4, none⟩ = some (.bool a2_4) := (blk_cell BK102.out 4).trans rfl
       have hcz44_5 : w41.cell? ⟨gb102, 5, none⟩ = some (.string a2_5) := (blk_cell BK102.out 5).trans rfl
       have hcz44_6 : w41.cell? ⟨gb102, 6, none⟩ = some (.bool a2_6) := (blk_cell BK102.out 6).trans rfl
       have hcz44_7 : w41.cell? ⟨gb102, 7, none⟩ = some (.string a2_7) := (blk_cell BK102.out 7).trans rfl
       have hcz44_8 : w41.cell? ⟨gb102, 8, none⟩ = some (.int .i64 a2_8) := (blk_cell BK102.out 8).trans rfl
       have hcz44_9 : w41.cell? ⟨gb102, 9, none⟩ = some (.bool a2_9) := (blk_cell BK102.out 9).trans rfl
       have hcz44_10 : w41.cell? ⟨gb102, 10, none⟩ = some (.string a2_10) := (blk_cell BK102.out 10).trans rfl
       have hcz44_11 : w41.cell? ⟨gb102, 11, none⟩ = some (.bool a2_11) := (blk_cell BK102.out 11).trans rfl
       have hcz44_12 : w41.cell? ⟨gb102, 12, none⟩ = some (.string a2_12) := (blk_cell BK102.out 12).trans rfl
       have hcz44_13 : w41.cell? ⟨gb102, 13, none⟩ = some (.int .i64 a2_13) := (blk_cell BK102.out 13).trans rfl
       have hfz44_0 := blk_frozen BK102.out 0
       have hfz44_1 := blk_frozen BK102.out 1
       have hfz44_2 := blk_frozen BK102.out 2
       have hfz44_3 := blk_frozen BK102.out 3
       have hfz44_4 := blk_frozen BK102.out 4
       have hfz44_5 := blk_frozen BK102.out 5
       have hfz44_6 := blk_frozen BK102.out 6
       have hfz44_7 := blk_frozen BK102.out 7
       have hfz44_8 := blk_frozen BK102.out 8
       have hfz44_9 := blk_frozen BK102.out 9
       have hfz44_10 := blk_frozen BK102.out 10
       have hfz44_11 := blk_frozen BK102.out 11
       have hfz44_12 := blk_frozen BK102.out 12
       have hfz44_13 := blk_frozen BK102.out 13
       go_wp2_with (first | ((with_reducible refine gate_callee (f := 27) rfl ?_); refine goesL_ (some 75) rfl rfl Try.func27 (by kernel_rfl) rfl #[.agg #[.int .i64 a2_0, .string a2_1, .slice A2_2 l2_2.length c2_2, .string a2_3, .bool a2_4, .string a2_5, .bool a2_6, .string a2_7, .int .i64 a2_8, .bool a2_9, .string a2_10, .bool a2_11, .string a2_12, .int .i64 a2_13], .slice A3 l3.length c3] rfl (by (try simp only [List.map_toArray, List.map_cons, List.map_nil]); first | done | rfl | (simp only [List.length_drop, List.length_take]; rfl)) ?_; (with_reducible refine (lambrequinref12_Holds.calls kj9 a2_0 a2_1 _ _ l2_2 a2_3 a2_4 a2_5 a2_6 a2_7 a2_8 a2_9 a2_10 a2_11 a2_12 a2_13 _ _ l3 t132 t133 _ ?side1 ?side2 ?side3 ?side4 A42.out).mono ?_); (case side1 => repeat (first | exact (Kd.C_below HR2_2.out HB.out) | (with_reducible refine Kd.C_alloc ?_ _) | (with_reducible refine Kd.C_drewN ?_ _) | (with_reducible refine Kd.C_drew ?_))); (case side2 => exact HC2_2.out); (case side3 => repeat (first | exact (Kd.C_below HR3.out HB.out) | (with_reducible refine Kd.C_alloc ?_ _) | (with_reducible refine Kd.C_drewN ?_ _) | (with_reducible refine Kd.C_drew ?_))); (case side4 => exact HC3.out); rintro e w45 ⟨rfl, hb⟩; refine ⟨_, rfl, ?_⟩; replace HO107 := am (Kd.R_below (by (with_reducible repeat (first | apply Ra | apply Rn | apply Rd)); exact HO107.out) hb); replace HO110 := am (Kd.V_below (by (with_reducible repeat (first | apply Va | apply Vn | apply Vd)); exact HO110.out) hb); replace HO114 := am (Kd.V_below (by (with_reducible repeat (first | apply Va | apply Vn | apply Vd)); exact HO114.out) hb); replace HO118 := am (Kd.R_below (by (with_reducible repeat (first | apply Ra | apply Rn | apply Rd)); exact HO118.out) hb); replace HO121 := am (Kd.R_below (by (with_reducible repeat (first | apply Ra | apply Rn | apply Rd)); exact HO121.out) hb); replace HO125 := am (Kd.R_below (by (with_reducible repeat (first | apply Ra | apply Rn | apply Rd)); exact HO125.out) hb); replace HO129 := am (Kd.R_below (by (with_reducible repeat (first | apply Ra | apply Rn | apply Rd)); exact HO129.out) hb); replace BK101 := am (blk_below (g := gb101) (o := .cells #[.string a0_0, .slice A0_1 l0_1.length c0_1] 46 (0, 0)) (by (with_reducible repeat (first | refine bN ?_ _ | refine bD ?_ | refine bA ?_ _)); exact BK101.out) hb); replace BK102 := am (blk_below (g := gb102) (o := .cells #[.int .i64 a2_0, .string a2_1, .slice A2_2 l2_2.length c2_2, .string a2_3, .bool a2_4, .string a2_5, .bool a2_6, .string a2_7, .int .i64 a2_8, .bool a2_9, .string a2_10, .bool a2_11, .string a2_12, .int .i64 a2_13] 58 (0, 0)) (by (with_reducible repeat (first | refine bN ?_ _ | refine bD ?_ | refine bA ?_ _)); exact BK102.out) hb); replace HB := am (below_step (by repeat (first | (with_reducible first | exact HB.out | apply lA | apply lN | apply lD | refine lS ?_ GE101.out | refine lS ?_ GE102.out) | exact HB.out)) hb); (try clear hb); (try clear hb2); (try clear hk); (try clear hi)))
       go_meet
       case rel => exact ⟨_, (t132), (t133), (by first | rfl | (simp; done) | (simp [*]; done)), (by first | rfl | (simp; done) | (simp [*]; done)), H', ⟨by have := HJ4.out; have := HJ9.out; first | omega | exact Nat.le_refl _⟩, ⟨by (with_reducible repeat (first | apply Va | apply Vn | apply Vd)); exact Kd.V_mono HO110.out (fun _ hk => ⟨hk.1.1.2, ⟨hk.1.2, ⟨hk.1.1.1.1.1, hk.1.1.1.1.2⟩⟩⟩)⟩, ⟨by (with_reducible repeat (first | apply Va | apply Vn | apply Vd)); exact Kd.V_mono HO114.out (fun _ hk => ⟨hk.1.1.2, ⟨hk.1.2, ⟨hk.1.1.1.1.2.1, hk.1.1.1.1.2.2⟩⟩⟩)⟩, ⟨by (with_reducible repeat (first | apply Ra | apply Rn | apply Rd)); exact Kd.R_mono HO121.out (fun _ hk => hk.2)⟩, ⟨by (with_reducible repeat (first | apply Ra | apply Rn | apply Rd)); exact Kd.R_mono HO125.out (fun _ hk => hk.2)⟩, ⟨by (with_reducible repeat (first | refine bN ?_ _ | refine bD ?_ | refine bA ?_ _)); exact BK101.out⟩, ⟨by (with_reducible repeat (first | refine bN ?_ _ | refine bD ?_ | refine bA ?_ _)); exact BK102.out⟩, ⟨by repeat (first | (with_reducible first | exact HB.out | apply lA | apply lN | apply lD | refine lS ?_ GE101.out | refine lS ?_ GE102.out) | exact HB.out)⟩⟩
      case rest =>
       clear HC24
       try clear c1
       try clear c2
       try clear p2
       try clear c3
       try clear c4
       try clear c11
       try clear c21
       try clear c22
       try clear c24
       try clear c25
       try clear c26
       try clear c27
       try clear c29
       try clear c43
       try clear hcz30_0
       try clear hcz30_1
       try clear hcz36_0
       try clear hcz36_1
       try clear hcz44_0
       try clear hcz44_1
       try clear hcz44_10
       try clear hcz44_11
       try clear hcz44_12
       try clear hcz44_13
       try clear hcz44_2
       try clear hcz44_3
       try clear hcz44_4
       try clear hcz44_5
       try clear hcz44_6
       try clear hcz44_7
       try clear hcz44_8
       try clear hcz44_9
       try clear hfz30_0
       try clear hfz30_1
       try clear hfz36_0
       try clear hfz36_1
       try clear hfz44_0
       try clear hfz44_1
       try clear hfz44_10
       try clear hfz44_11
       try clear hfz44_12
       try clear hfz44_13
       try clear hfz44_2
       try clear hfz44_3
       try clear hfz44_4
       try clear hfz44_5
       try clear hfz44_6
       try clear hfz44_7
       try clear hfz44_8
       try clear hfz44_9
       obtain ⟨kq, x20_23, x21_23, rfl, rfl, HA, HJ23, HO_10, HO_12, HO_14, HO_16, BK101, BK102, HB⟩ := hcut
       cases kq with
       | zero => exact absurd HA.out (by simp [lambrequinlaw12_SubstMatches.j2])
       | succ kj23 =>
        have H := HA.out
        clear HA
        simp only [lambrequinlaw12_SubstMatches.j2] at H
        replace H := Option.bind_eq_some_iff.mp H
        obtain ⟨t134, A460, H⟩ := H
        replace H : ((subst_Value.f a2_4 a2_5 a2_6 a2_7 a2_8 t134).bind fun bt137 => ((lambrequinref12_Value.f kj23 a2_4 a2_5 a2_6 a2_7 a2_8 l3).bind fun bt142 => (if x9_4 = true then ((lambrequinlaw12_back.f kj23 t108).bind fun t147 => ((lambrequinref12_Same.f kj23 t147 t112).bind fun t150 => (if t150 = true then (if (t111 == t115) = true then ((lambrequinref03_Same.f kj23 t119 t123).bind fun t151 => (if t151 = true then (if (t122 == t126) = true then (if (t130 == x20_23) = true then (if (t131 == x21_23) = true then (if (bt137.1 == bt142.1 && (bt137.2.1.toList == bt142.2.1.toList && (bt137.2.2.1 == bt142.2.2.1))) = true then (some (bt137.2.2.2 == bt142.2.2.2)) else (some false)) else (some false)) else (some false)) else (some false)) else (some false))) else (some false)) else (some false)))) else (some false)))) = some r := H
        have A46 := am A460
        clear A460
        replace H := Option.bind_eq_some_iff.mp H
        obtain ⟨⟨t137, t138, t139, t140⟩, A470, H⟩ := H
        replace H : ((lambrequinref12_Value.f kj23 a2_4 a2_5 a2_6 a2_7 a2_8 l3).bind fun bt142 => (if x9_4 = true then ((lambrequinlaw12_back.f kj23 t108).bind fun t147 => ((lambrequinref12_Same.f kj23 t147 t112).bind fun t150 => (if t150 = true then (if (t111 == t115) = true then ((lambrequinref03_Same.f kj23 t119 t123).bind fun t151 => (if t151 = true then (if (t122 == t126) = true then (if (t130 == x20_23) = true then (if (t131 == x21_23) = true then (if (t137 == bt142.1 && (t138.toList == bt142.2.1.toList && (t139 == bt142.2.2.1))) = true then (some (t140 == bt142.2.2.2)) else (some false)) else (some false)) else (some false)) else (some false)) else (some false))) else (some false)) else (some false)))) else (some false))) = some r := H
        have A47 := am A470
        clear A470
        replace H := Option.bind_eq_some_iff.mp H
        obtain ⟨⟨t142, t143, t144, t145⟩, A480, H⟩ := H
        replace H : (if x9_4 = true then ((lambrequinlaw12_back.f kj23 t108).bind fun t147 => ((lambrequinref12_Same.f kj23 t147 t112).bind fun t150 => (if t150 = true then (if (t111 == t115) = true then ((lambrequinref03_Same.f kj23 t119 t123).bind fun t151 => (if t151 = true then (if (t122 == t126) = true then (if (t130 == x20_23) = true then (if (t131 == x21_23) = true then (if (t137 == t142 && (t138.toList == t143.toList && (t139 == t144))) = true then (some (t140 == t145)) else (some false)) else (some false)) else (some false)) else (some false)) else (some false))) else (some false)) else (some false)))) else (some false)) = some r := H
        have A48 := am A480
        clear A480
        try go_wp2
        replace HO_10 := am (Kd.V_drew HO_10.out)
        replace HO_12 := am (Kd.V_drew HO_12.out)
        replace HO_14 := am (Kd.R_drew HO_14.out)
        replace HO_16 := am (Kd.R_drew HO_16.out)
        replace BK101 := am (blk_drew BK101.out)
        replace BK102 := am (blk_drew BK102.out)
        replace HB := am (below_drew1 HB.out)
        refine start_ (n := 11) (S := fun w' => w'.cell? ⟨gb102, 0, none⟩ = some (.int .i64 a2_0) ∧ w'.cell? ⟨gb102, 1, none⟩ = some (.string a2_1) ∧ w'.cell? ⟨gb102, 2, none⟩ = some (.slice A2_2 l2_2.length c2_2) ∧ w'.cell? ⟨gb102, 3, none⟩ = some (.string a2_3) ∧ w'.cell? ⟨gb102, 4, none⟩ = some (.bool a2_4) ∧ w'.cell? ⟨gb102, 5, none⟩ = some (.string a2_5) ∧ w'.cell? ⟨gb102, 6, none⟩ = some (.bool a2_6) ∧ w'.cell? ⟨gb102, 7, none⟩ = some (.string a2_7) ∧ w'.cell? ⟨gb102, 8, none⟩ = some (.int .i64 a2_8) ∧ w'.cell? ⟨gb102, 9, none⟩ = some (.bool a2_9) ∧ w'.cell? ⟨gb102, 10, none⟩ = some (.string a2_10) ∧ w'.cell? ⟨gb102, 11, none⟩ = some (.bool a2_11) ∧ w'.cell? ⟨gb102, 12, none⟩ = some (.string a2_12) ∧ w'.cell? ⟨gb102, 13, none⟩ = some (.int .i64 a2_13)) (ds := []) (bl 11 0) (by kernel_rfl) rfl rfl ⟨(blk_cell BK102.out 0).trans rfl, (blk_cell BK102.out 1).trans rfl, (blk_cell BK102.out 2).trans rfl, (blk_cell BK102.out 3).trans rfl, (blk_cell BK102.out 4).trans rfl, (blk_cell BK102.out 5).trans rfl, (blk_cell BK102.out 6).trans rfl, (blk_cell BK102.out 7).trans rfl, (blk_cell BK102.out 8).trans rfl, (blk_cell BK102.out 9).trans rfl, (blk_cell BK102.out 10).trans rfl, (blk_cell BK102.out 11).trans rfl, (blk_cell BK102.out 12).trans rfl, (blk_cell BK102.out 13).trans rfl⟩ (fun hHeld => ?_); refine with_tabW lambrequinlaw12_SubstMatches.tab10 lambrequinlaw12_SubstMatches.bits10 (fun HT_ HW_ => ?_)
        generalize wc.drew = w60 at HO_10 HO_12 HO_14 HO_16 BK101 BK102 HB hHeld ⊢
        refine pure_ (i := 0) (N := some 79) (v := ?_) (a' := ?_) (bl 11 1) rfl rfl (any_of HT_.out (by kernel_rfl)) (fun _ _ _ h => h) (Or.inl ⟨by rfl, ?_⟩) ?_ ?_
        rotate_left
        ·intro w'
         go_simp
         with_reducible rfl
        rotate_left
        ·simp only [Act.put, sA, sZ, sS, i64_w, i32_w]
         rfl
        refine pure_ (i := 2) (N := some 81) (v := ?_) (a' := ?_) (bl 11 5) rfl rfl (any_of HT_.out (by kernel_rfl)) (fun _ _ _ h => h) (Or.inl ⟨by rfl, ?_⟩) ?_ ?_
        rotate_left
        ·intro w'
         go_simp
         with_reducible rfl
        rotate_left
        ·simp only [Act.put, sA, sZ, sS, i64_w, i32_w]
         rfl
        refine take_ (i := 1) (N := some 80) (v := ?_) (a' := ?_) (bl 11 7) rfl rfl (take_ofW HT_.out HW_.out (by kernel_rfl)) (fun _ _ _ h => h) (Or.inl ⟨by rfl, ?_⟩) hHeld ?_ ?_
        rotate_left
        ·rintro w' ⟨s0, s1, s2, s3, s4, s5, s6, s7, s8, s9, s10, s11, s12, s13⟩
         go_simp
         with_reducible rfl
        rotate_left
        ·simp only [Act.put, sA, sZ, sS, i64_w, i32_w]
         rfl
        refine join_ (σ := Value × Nat) 2 (bl 11 511) (fun s_ => [(82, s_.1), (83, .tuple #[.agg #[.bool t137, .string t138, .int .i64 t139], .bool t140]), (22, .pointer (some ⟨s_.2, 0, none⟩)), (78, .tuple #[.agg #[.bool t137, .string t138, .int .i64 t139], .bool t140]), (84, .agg #[.bool t137, .string t138, .int .i64 t139]), (85, .bool t140)]) (fun s_ w' => (w'.cell? ⟨gb102, 0, none⟩ = some (.int .i64 a2_0) ∧ w'.cell? ⟨gb102, 1, none⟩ = some (.string a2_1) ∧ w'.cell? ⟨gb102, 2, none⟩ = some (.slice A2_2 l2_2.length c2_2) ∧ w'.cell? ⟨gb102, 3, none⟩ = some (.string a2_3) ∧ w'.cell? ⟨gb102, 4, none⟩ = some (.bool a2_4) ∧ w'.cell? ⟨gb102, 5, none⟩ = some (.string a2_5) ∧ w'.cell? ⟨gb102, 6, none⟩ = some (.bool a2_6) ∧ w'.cell? ⟨gb102, 7, none⟩ = some (.string a2_7) ∧ w'.cell? ⟨gb102, 8, none⟩ = some (.int .i64 a2_8) ∧ w'.cell? ⟨gb102, 9, none⟩ = some (.bool a2_9) ∧ w'.cell? ⟨gb102, 10, none⟩ = some (.string a2_10) ∧ w'.cell? ⟨gb102, 11, none⟩ = some (.bool a2_11) ∧ w'.cell? ⟨gb102, 12, none⟩ = some (.string a2_12) ∧ w'.cell? ⟨gb102, 13, none⟩ = some (.int .i64 a2_13)) ∧ (Kd.R k41 41 w' w.heap.size (fun _ => True) s_.1 t134) ∧ (Kd.V k41 41 w' w.heap.size (fun k_ => some k_ ≠ (s_.1 : Value).ownBlock ∧ some k_ ≠ (v120 : Value).ownBlock ∧ some k_ ≠ (v124 : Value).ownBlock ∧ k_ ≠ gb101 ∧ k_ ≠ gb102 ∧ k_ ≠ s_.2) v109 t108) ∧ (Kd.V k69 69 w' w.heap.size (fun k_ => some k_ ≠ (s_.1 : Value).ownBlock ∧ some k_ ≠ (v120 : Value).ownBlock ∧ some k_ ≠ (v124 : Value).ownBlock ∧ k_ ≠ gb101 ∧ k_ ≠ gb102 ∧ k_ ≠ s_.2) v113 t112) ∧ (Kd.R k24 24 w' w.heap.size (fun k_ => some k_ ≠ (v124 : Value).ownBlock ∧ k_ ≠ s_.2) v120 t119) ∧ (Kd.R k24 24 w' w.heap.size (fun k_ => some k_ ≠ (v120 : Value).ownBlock ∧ k_ ≠ s_.2) v124 t123) ∧ (w'.heap[gb101]? = some (.cells #[.string a0_0, .slice A0_1 l0_1.length c0_1] 46 (0, 0))) ∧ (w'.heap[gb102]? = some (.cells #[.int .i64 a2_0, .string a2_1, .slice A2_2 l2_2.length c2_2, .string a2_3, .bool a2_4, .string a2_5, .bool a2_6, .string a2_7, .int .i64 a2_8, .bool a2_9, .string a2_10, .bool a2_11, .string a2_12, .int .i64 a2_13] 58 (0, 0))) ∧ (w'.heap[s_.2]? = some (.cells #[.bool false, .string (⟨#[]⟩ : ByteArray), .int .i64 0] 24 (0, 0))) ∧ (w.heap.size ≤ s_.2) ∧ (w.heap.size ≤ s_.2) ∧ (gb101 ≠ s_.2) ∧ (s_.2 ≠ gb101) ∧ (gb102 ≠ s_.2) ∧ (s_.2 ≠ gb102) ∧ (Below w.heap.size w w')) ?_ ?_
        rotate_left
        ·intro hCont
         refine two_ (i := 3) (j := 8) (Ni := some 82) (Nj := some 22) (bl 11 15) (bl 11 263) rfl rfl rfl rfl (two_of HT_.out (by kernel_rfl)) (by decide) (by decide) (fun K hK => ?_) (fun K hK => ?_)
         ·skip
          refine goes_ Try.func11 (by kernel_rfl) rfl #[.slice A3 l3.length c3] (by rfl) rfl rfl (by (try simp only [List.map_toArray, List.map_cons, List.map_nil]); first | done | rfl | (simp only [List.length_drop, List.length_take]; rfl)) ?_
          with_reducible refine (lambrequinlaw12_env.calls kj23 _ _ l3 t134 _ ?side1 ?side2 A46.out).mono ?_
          (case side1 => repeat (first | exact (Kd.C_below HR3.out HB.out) | (with_reducible refine Kd.C_alloc ?_ _) | (with_reducible refine Kd.C_drewN ?_ _) | (with_reducible refine Kd.C_drew ?_)))
          (case side2 => exact HC3.out)
          rintro e w61 ⟨v135, rfl, ho0, hb⟩
          refine ⟨_, rfl, ?_⟩
          replace HO_10 := am (Kd.V_elder' (by (with_reducible repeat (first | apply Va | apply Vn | apply Vd)); exact HO_10.out) (Kd.R_base ho0) hb)
          replace HO_12 := am (Kd.V_elder' (by (with_reducible repeat (first | apply Va | apply Vn | apply Vd)); exact HO_12.out) (Kd.R_base ho0) hb)
          replace HO_14 := am (Kd.R_below (by (with_reducible repeat (first | apply Ra | apply Rn | apply Rd)); exact HO_14.out) hb)
          replace HO_16 := am (Kd.R_below (by (with_reducible repeat (first | apply Ra | apply Rn | apply Rd)); exact HO_16.out) hb)
          have HO136 := am (Kd.R_lower ho0 (below_size (by repeat (first | (with_reducible first | exact HB.out | apply lA | apply lN | apply lD | refine lS ?_ GE101.out | refine lS ?_ GE102.out) | exact HB.out))))
          replace BK101 := am (blk_below (g := gb101) (o := .cells #[.string a0_0, .slice A0_1 l0_1.length c0_1] 46 (0, 0)) (by (with_reducible repeat (first | refine bN ?_ _ | refine bD ?_ | refine bA ?_ _)); exact BK101.out) hb)
          replace BK102 := am (blk_below (g := gb102) (o := .cells #[.int .i64 a2_0, .string a2_1, .slice A2_2 l2_2.length c2_2, .string a2_3, .bool a2_4, .string a2_5, .bool a2_6, .string a2_7, .int .i64 a2_8, .bool a2_9, .string a2_10, .bool a2_11, .string a2_12, .int .i64 a2_13] 58 (0, 0)) (by (with_reducible repeat (first | refine bN ?_ _ | refine bD ?_ | refine bA ?_ _)); exact BK102.out) hb)
          replace HB := am (below_step (by repeat (first | (with_reducible first | exact HB.out | apply lA | apply lN | apply lD | refine lS ?_ GE101.out | refine lS ?_ GE102.out) | exact HB.out)) hb)
          (try clear hb)
          (try clear hb2)
          (try clear hk)
          (try clear hi)
          (try clear ho0)
          obtain ⟨Ao62, co62, eo62⟩ := Kd.R_slice HO136.out
          (first | subst eo62 | (injection eo62 with f1_ f2_ f3_; have f4_ := f1_.symm; have f5_ := f3_.symm; clear f1_ f2_ f3_; subst f4_; subst f5_))
          refine hK.out _ _ ⟨(blk_cell BK102.out 0).trans rfl, (blk_cell BK102.out 1).trans rfl, (blk_cell BK102.out 2).trans rfl, (blk_cell BK102.out 3).trans rfl, (blk_cell BK102.out 4).trans rfl, (blk_cell BK102.out 5).trans rfl, (blk_cell BK102.out 6).trans rfl, (blk_cell BK102.out 7).trans rfl, (blk_cell BK102.out 8).trans rfl, (blk_cell BK102.out 9).trans rfl, (blk_cell BK102.out 10).trans rfl, (blk_cell BK102.out 11).trans rfl, (blk_cell BK102.out 12).trans rfl, (blk_cell BK102.out 13).trans rfl⟩ (fun hHeld => ?_)
          clear hK K
          refine norm_ (a' := ?_) ?_ ?_
          rotate_left
          ·show Act.put _ (some 82) _ = _
           simp only [Act.put, sA, sZ, sS, i64_w, i32_w]
           rfl
          refine two_ (i := 4) (j := 8) (Ni := some 83) (Nj := some 22) (bl 11 31) (bl 11 271) rfl rfl rfl rfl (two_of HT_.out (by kernel_rfl)) (by decide) (by decide) (fun K hK => ?_) (fun K hK => ?_)
          ·skip
           refine goes_ Try.func28 (by kernel_rfl) rfl #[.agg #[.bool a2_4, .string a2_5, .bool a2_6, .string a2_7, .int .i64 a2_8], .slice Ao62 t134.length co62] (by rfl) rfl rfl (by (try simp only [List.map_toArray, List.map_cons, List.map_nil]); first | done | rfl | (simp only [List.length_drop, List.length_take]; rfl)) ?_
           with_reducible refine (subst_Value.calls a2_4 a2_5 a2_6 a2_7 a2_8 _ _ t134 t137 t138 t139 t140 _ ?side1 ?side2 A47.out).mono ?_
           (case side1 => repeat (first | exact (Kd.R_reads' HO136.out).2.2 | (with_reducible refine Kd.C_alloc ?_ _) | (with_reducible refine Kd.C_drewN ?_ _) | (with_reducible refine Kd.C_drew ?_)))
           (case side2 => exact (Kd.R_reads' HO136.out).2.1)
           rintro e w63 ⟨rfl, hb⟩
           refine ⟨_, rfl, ?_⟩
           replace HO_10 := am (Kd.V_below (by (with_reducible repeat (first | apply Va | apply Vn | apply Vd)); exact HO_10.out) hb)
           replace HO_12 := am (Kd.V_below (by (with_reducible repeat (first | apply Va | apply Vn | apply Vd)); exact HO_12.out) hb)
           replace HO_14 := am (Kd.R_below (by (with_reducible repeat (first | apply Ra | apply Rn | apply Rd)); exact HO_14.out) hb)
           replace HO_16 := am (Kd.R_below (by (with_reducible repeat (first | apply Ra | apply Rn | apply Rd)); exact HO_16.out) hb)
           replace HO136 := am (Kd.R_below (by (with_reducible repeat (first | apply Ra | apply Rn | apply Rd)); exact HO136.out) hb)
           replace BK101 := am (blk_below (g := gb101) (o := .cells #[.string a0_0, .slice A0_1 l0_1.length c0_1] 46 (0, 0)) (by (with_reducible repeat (first | refine bN ?_ _ | refine bD ?_ | refine bA ?_ _)); exact BK101.out) hb)
           replace BK102 := am (blk_below (g := gb102) (o := .cells #[.int .i64 a2_0, .string a2_1, .slice A2_2 l2_2.length c2_2, .string a2_3, .bool a2_4, .string a2_5, .bool a2_6, .string a2_7, .int .i64 a2_8, .bool a2_9, .string a2_10, .bool a2_11, .string a2_12, .int .i64 a2_13] 58 (0, 0)) (by (with_reducible repeat (first | refine bN ?_ _ | refine bD ?_ | refine bA ?_ _)); exact BK102.out) hb)
           replace HB := am (below_step (by repeat (first | (with_reducible first | exact HB.out | apply lA | apply lN | apply lD | refine lS ?_ GE101.out | refine lS ?_ GE102.out) | exact HB.out)) hb)
           (try clear hb)
           (try clear hb2)
           (try clear hk)
           (try clear hi)
           refine hK.out _ _ ⟨(blk_cell BK102.out 0).trans rfl, (blk_cell BK102.out 1).trans rfl, (blk_cell BK102.out 2).trans rfl, (blk_cell BK102.out 3).trans rfl, (blk_cell BK102.out 4).trans rfl, (blk_cell BK102.out 5).trans rfl, (blk_cell BK102.out 6).trans rfl, (blk_cell BK102.out 7).trans rfl, (blk_cell BK102.out 8).trans rfl, (blk_cell BK102.out 9).trans rfl, (blk_cell BK102.out 10).trans rfl, (blk_cell BK102.out 11).trans rfl, (blk_cell BK102.out 12).trans rfl, (blk_cell BK102.out 13).trans rfl⟩ (fun hHeld => ?_)
           clear hK K
           refine norm_ (a' := ?_) ?_ ?_
           rotate_left
           ·show Act.put _ (some 83) _ = _
            simp only [Act.put, sA, sZ, sS, i64_w, i32_w]
            rfl
           refine pure_ (i := 5) (N := some 78) (v := ?_) (a' := ?_) (bl 11 63) rfl rfl (any_of HT_.out (by kernel_rfl)) (fun _ _ _ h => h) (Or.inl ⟨by rfl, ?_⟩) ?_ ?_
           rotate_left
           ·intro w'
            go_simp
            with_reducible rfl
           rotate_left
           ·simp only [Act.put, sA, sZ, sS, i64_w, i32_w]
            rfl
           refine pure_ (i := 6) (N := some 84) (v := ?_) (a' := ?_) (bl 11 127) rfl rfl (any_of HT_.out (by kernel_rfl)) (fun _ _ _ h => h) (Or.inl ⟨by rfl, ?_⟩) ?_ ?_
           rotate_left
           ·intro w'
            go_simp
            with_reducible rfl
           rotate_left
           ·simp only [Act.put, sA, sZ, sS, i64_w, i32_w]
            rfl
           refine pure_ (i := 7) (N := some 85) (v := ?_) (a' := ?_) (bl 11 255) rfl rfl (any_of HT_.out (by kernel_rfl)) (fun _ _ _ h => h) (Or.inl ⟨by rfl, ?_⟩) ?_ ?_
           rotate_left
           ·intro w'
            go_simp
            with_reducible rfl
           rotate_left
           ·simp only [Act.put, sA, sZ, sS, i64_w, i32_w]
            rfl
           refine one_ (i := 8) (N := some 22) (bl 11 511) rfl rfl (one_of HT_.out (by kernel_rfl)) (by decide) (fun K hK => ?_)
           refine box_step ?hg (N := 22) ?hd (cs := #[.bool false, .string (⟨#[]⟩ : ByteArray), .int .i64 0]) (t := 24) ?hr ?_; (case hd => rfl); (case hg => rfl); (case hr => first | (go_simp; done) | (go_simp; rfl))
           intro gb141 hg w64 hbox hb
           replace HO_10 := am (Kd.V_below (Kd.V_elderB (by (with_reducible repeat (first | apply Va | apply Vn | apply Vd)); exact HO_10.out) gb141 (Nat.le_of_eq hg.symm)) hb)
           replace HO_12 := am (Kd.V_below (Kd.V_elderB (by (with_reducible repeat (first | apply Va | apply Vn | apply Vd)); exact HO_12.out) gb141 (Nat.le_of_eq hg.symm)) hb)
           replace HO_14 := am (Kd.R_below (Kd.R_elderB (by (with_reducible repeat (first | apply Ra | apply Rn | apply Rd)); exact HO_14.out) gb141 (Nat.le_of_eq hg.symm)) hb)
           replace HO_16 := am (Kd.R_below (Kd.R_elderB (by (with_reducible repeat (first | apply Ra | apply Rn | apply Rd)); exact HO_16.out) gb141 (Nat.le_of_eq hg.symm)) hb)
           replace HO136 := am (Kd.R_below (by (with_reducible repeat (first | apply Ra | apply Rn | apply Rd)); exact HO136.out) hb)
           have BK141 := am (hbox)
           have GW141 := am ((by rw [hg]; exact (below_size (by repeat (first | (with_reducible first | exact HB.out | apply lA | apply lN | apply lD | refine lS ?_ GE101.out | refine lS ?_ GE102.out) | exact HB.out))) : w.heap.size ≤ gb141))
           have GE141 := am ((by rw [hg]; exact (below_size (by repeat (first | (with_reducible first | exact HB.out | apply lA | apply lN | apply lD | refine lS ?_ GE101.out | refine lS ?_ GE102.out) | exact HB.out))) : w.heap.size ≤ gb141))
           replace HB := am (below_step (by repeat (first | (with_reducible first | exact HB.out | apply lA | apply lN | apply lD | refine lS ?_ GE101.out | refine lS ?_ GE102.out) | exact HB.out)) hb)
           have NB101_141 := am ((by rw [hg]; exact Nat.ne_of_lt (blk_lt (g := gb101) (o := .cells #[.string a0_0, .slice A0_1 l0_1.length c0_1] 46 (0, 0)) (by (with_reducible repeat (first | refine bN ?_ _ | refine bD ?_ | refine bA ?_ _)); exact BK101.out)) : gb101 ≠ gb141))
           have NB141_101 := am ((by rw [hg]; exact Nat.ne_of_gt (blk_lt (g := gb101) (o := .cells #[.string a0_0, .slice A0_1 l0_1.length c0_1] 46 (0, 0)) (by (with_reducible repeat (first | refine bN ?_ _ | refine bD ?_ | refine bA ?_ _)); exact BK101.out)) : gb141 ≠ gb101))
           replace BK101 := am (blk_below (g := gb101) (o := .cells #[.string a0_0, .slice A0_1 l0_1.length c0_1] 46 (0, 0)) (by (with_reducible repeat (first | refine bN ?_ _ | refine bD ?_ | refine bA ?_ _)); exact BK101.out) hb)
           have NB102_141 := am ((by rw [hg]; exact Nat.ne_of_lt (blk_lt (g := gb102) (o := .cells #[.int .i64 a2_0, .string a2_1, .slice A2_2 l2_2.length c2_2, .string a2_3, .bool a2_4, .string a2_5, .bool a2_6, .string a2_7, .int .i64 a2_8, .bool a2_9, .string a2_10, .bool a2_11, .string a2_12, .int .i64 a2_13] 58 (0, 0)) (by (with_reducible repeat (first | refine bN ?_ _ | refine bD ?_ | refine bA ?_ _)); exact BK102.out)) : gb102 ≠ gb141))
           have NB141_102 := am ((by rw [hg]; exact Nat.ne_of_gt (blk_lt (g := gb102) (o := .cells #[.int .i64 a2_0, .string a2_1, .slice A2_2 l2_2.length c2_2, .string a2_3, .bool a2_4, .string a2_5, .bool a2_6, .string a2_7, .int .i64 a2_8, .bool a2_9, .string a2_10, .bool a2_11, .string a2_12, .int .i64 a2_13] 58 (0, 0)) (by (with_reducible repeat (first | refine bN ?_ _ | refine bD ?_ | refine bA ?_ _)); exact BK102.out)) : gb141 ≠ gb102))
           replace BK102 := am (blk_below (g := gb102) (o := .cells #[.int .i64 a2_0, .string a2_1, .slice A2_2 l2_2.length c2_2, .string a2_3, .bool a2_4, .string a2_5, .bool a2_6, .string a2_7, .int .i64 a2_8, .bool a2_9, .string a2_10, .bool a2_11, .string a2_12, .int .i64 a2_13] 58 (0, 0)) (by (with_reducible repeat (first | refine bN ?_ _ | refine bD ?_ | refine bA ?_ _)); exact BK102.out) hb)
           clear hb hbox hg
           refine hK.out _ _ ⟨(blk_cell BK102.out 0).trans rfl, (blk_cell BK102.out 1).trans rfl, (blk_cell BK102.out 2).trans rfl, (blk_cell BK102.out 3).trans rfl, (blk_cell BK102.out 4).trans rfl, (blk_cell BK102.out 5).trans rfl, (blk_cell BK102.out 6).trans rfl, (blk_cell BK102.out 7).trans rfl, (blk_cell BK102.out 8).trans rfl, (blk_cell BK102.out 9).trans rfl, (blk_cell BK102.out 10).trans rfl, (blk_cell BK102.out 11).trans rfl, (blk_cell BK102.out 12).trans rfl, (blk_cell BK102.out 13).trans rfl⟩ (fun hHeld => ?_)
           clear hK K
           refine norm_ (a' := ?_) ?_ ?_
           rotate_left
           ·show Act.put _ (some 22) _ = _
            simp only [Act.put, sA, sZ, sS, i64_w, i32_w]
            rfl
           exact norm_ (by simp only [putAll, Act.put, List.setIfInBounds_toArray, List.set_cons_zero, List.set_cons_succ]) (hCont (.slice Ao62 t134.length co62, gb141) _ ⟨hHeld, (by (with_reducible repeat (first | apply Ra | apply Rn | apply Rd)); exact HO136.out), (by (with_reducible repeat (first | apply Va | apply Vn | apply Vd)); exact Kd.V_mono HO_10.out (fun _ hk => ⟨hk.1.2, ⟨hk.1.1.1, ⟨hk.1.1.2.1, ⟨hk.1.1.2.2.1, ⟨hk.1.1.2.2.2, hk.2⟩⟩⟩⟩⟩)), (by (with_reducible repeat (first | apply Va | apply Vn | apply Vd)); exact Kd.V_mono HO_12.out (fun _ hk => ⟨hk.1.2, ⟨hk.1.1.1, ⟨hk.1.1.2.1, ⟨hk.1.1.2.2.1, ⟨hk.1.1.2.2.2, hk.2⟩⟩⟩⟩⟩)), (by (with_reducible repeat (first | apply Ra | apply Rn | apply Rd)); exact HO_14.out), (by (with_reducible repeat (first | apply Ra | apply Rn | apply Rd)); exact HO_16.out), (by (with_reducible repeat (first | refine bN ?_ _ | refine bD ?_ | refine bA ?_ _)); exact BK101.out), (by (with_reducible repeat (first | refine bN ?_ _ | refine bD ?_ | refine bA ?_ _)); exact BK102.out), (by (with_reducible repeat (first | refine bN ?_ _ | refine bD ?_ | refine bA ?_ _)); exact BK141.out), GW141.out, GE141.out, NB101_141.out, NB141_101.out, NB102_141.out, NB141_102.out, (by repeat (first | (with_reducible first | exact HB.out | apply lA | apply lN | apply lD | refine lS ?_ GE101.out | refine lS ?_ GE102.out | refine lS ?_ GE141.out) | exact HB.out))⟩)
          ·skip
           refine box_step ?hg (N := 22) ?hd (cs := #[.bool false, .string (⟨#[]⟩ : ByteArray), .int .i64 0]) (t := 24) ?hr ?_; (case hd => rfl); (case hg => rfl); (case hr => first | (go_simp; done) | (go_simp; rfl))
           intro gb141 hg w62 hbox hb
           replace HO_10 := am (Kd.V_below (Kd.V_elderB (by (with_reducible repeat (first | apply Va | apply Vn | apply Vd)); exact HO_10.out) gb141 (Nat.le_of_eq hg.symm)) hb)
           replace HO_12 := am (Kd.V_below (Kd.V_elderB (by (with_reducible repeat (first | apply Va | apply Vn | apply Vd)); exact HO_12.out) gb141 (Nat.le_of_eq hg.symm)) hb)
           replace HO_14 := am (Kd.R_below (Kd.R_elderB (by (with_reducible repeat (first | apply Ra | apply Rn | apply Rd)); exact HO_14.out) gb141 (Nat.le_of_eq hg.symm)) hb)
           replace HO_16 := am (Kd.R_below (Kd.R_elderB (by (with_reducible repeat (first | apply Ra | apply Rn | apply Rd)); exact HO_16.out) gb141 (Nat.le_of_eq hg.symm)) hb)
           replace HO136 := am (Kd.R_below (by (with_reducible repeat (first | apply Ra | apply Rn | apply Rd)); exact HO136.out) hb)
           have BK141 := am (hbox)
           have GW141 := am ((by rw [hg]; exact (below_size (by repeat (first | (with_reducible first | exact HB.out | apply lA | apply lN | apply lD | refine lS ?_ GE101.out | refine lS ?_ GE102.out) | exact HB.out))) : w.heap.size ≤ gb141))
           have GE141 := am ((by rw [hg]; exact (below_size (by repeat (first | (with_reducible first | exact HB.out | apply lA | apply lN | apply lD | refine lS ?_ GE101.out | refine lS ?_ GE102.out) | exact HB.out))) : w.heap.size ≤ gb141))
           replace HB := am (below_step (by repeat (first | (with_reducible first | exact HB.out | apply lA | apply lN | apply lD | refine lS ?_ GE101.out | refine lS ?_ GE102.out) | exact HB.out)) hb)
           have NB101_141 := am ((by rw [hg]; exact Nat.ne_of_lt (blk_lt (g := gb101) (o := .cells #[.string a0_0, .slice A0_1 l0_1.length c0_1] 46 (0, 0)) (by (with_reducible repeat (first | refine bN ?_ _ | refine bD ?_ | refine bA ?_ _)); exact BK101.out)) : gb101 ≠ gb141))
           have NB141_101 := am ((by rw [hg]; exact Nat.ne_of_gt (blk_lt (g := gb101) (o := .cells #[.string a0_0, .slice A0_1 l0_1.length c0_1] 46 (0, 0)) (by (with_reducible repeat (first | refine bN ?_ _ | refine bD ?_ | refine bA ?_ _)); exact BK101.out)) : gb141 ≠ gb101))
           replace BK101 := am (blk_below (g := gb101) (o := .cells #[.string a0_0, .slice A0_1 l0_1.length c0_1] 46 (0, 0)) (by (with_reducible repeat (first | refine bN ?_ _ | refine bD ?_ | refine bA ?_ _)); exact BK101.out) hb)
           have NB102_141 := am ((by rw [hg]; exact Nat.ne_of_lt (blk_lt (g := gb102) (o := .cells #[.int .i64 a2_0, .string a2_1, .slice A2_2 l2_2.length c2_2, .string a2_3, .bool a2_4, .string a2_5, .bool a2_6, .string a2_7, .int .i64 a2_8, .bool a2_9, .string a2_10, .bool a2_11, .string a2_12, .int .i64 a2_13] 58 (0, 0)) (by (with_reducible repeat (first | refine bN ?_ _ | refine bD ?_ | refine bA ?_ _)); exact BK102.out)) : gb102 ≠ gb141))
           have NB141_102 := am ((by rw [hg]; exact Nat.ne_of_gt (blk_lt (g := gb102) (o := .cells #[.int .i64 a2_0, .string a2_1, .slice A2_2 l2_2.length c2_2, .string a2_3, .bool a2_4, .string a2_5, .bool a2_6, .string a2_7, .int .i64 a2_8, .bool a2_9, .string a2_10, .bool a2_11, .string a2_12, .int .i64 a2_13] 58 (0, 0)) (by (with_reducible repeat (first | refine bN ?_ _ | refine bD ?_ | refine bA ?_ _)); exact BK102.out)) : gb141 ≠ gb102))
           replace BK102 := am (blk_below (g := gb102) (o := .cells #[.int .i64 a2_0, .string a2_1, .slice A2_2 l2_2.length c2_2, .string a2_3, .bool a2_4, .string a2_5, .bool a2_6, .string a2_7, .int .i64 a2_8, .bool a2_9, .string a2_10, .bool a2_11, .string a2_12, .int .i64 a2_13] 58 (0, 0)) (by (with_reducible repeat (first | refine bN ?_ _ | refine bD ?_ | refine bA ?_ _)); exact BK102.out) hb)
           clear hb hbox hg
           obtain ⟨Ao63, co63, eo63⟩ := Kd.R_slice HO136.out
           (first | subst eo63 | (injection eo63 with f1_ f2_ f3_; have f4_ := f1_.symm; have f5_ := f3_.symm; clear f1_ f2_ f3_; subst f4_; subst f5_))
           refine hK.out _ _ ⟨(blk_cell BK102.out 0).trans rfl, (blk_cell BK102.out 1).trans rfl, (blk_cell BK102.out 2).trans rfl, (blk_cell BK102.out 3).trans rfl, (blk_cell BK102.out 4).trans rfl, (blk_cell BK102.out 5).trans rfl, (blk_cell BK102.out 6).trans rfl, (blk_cell BK102.out 7).trans rfl, (blk_cell BK102.out 8).trans rfl, (blk_cell BK102.out 9).trans rfl, (blk_cell BK102.out 10).trans rfl, (blk_cell BK102.out 11).trans rfl, (blk_cell BK102.out 12).trans rfl, (blk_cell BK102.out 13).trans rfl⟩ (fun hHeld => ?_)
           clear hK K
           refine norm_ (a' := ?_) ?_ ?_
           rotate_left
           ·show Act.put _ (some 22) _ = _
            simp only [Act.put, sA, sZ, sS, i64_w, i32_w]
            rfl
           refine one_ (i := 4) (N := some 83) (bl 11 287) rfl rfl (one_of HT_.out (by kernel_rfl)) (by decide) (fun K hK => ?_)
           refine goes_ Try.func28 (by kernel_rfl) rfl #[.agg #[.bool a2_4, .string a2_5, .bool a2_6, .string a2_7, .int .i64 a2_8], .slice Ao63 t134.length co63] (by rfl) rfl rfl (by (try simp only [List.map_toArray, List.map_cons, List.map_nil]); first | done | rfl | (simp only [List.length_drop, List.length_take]; rfl)) ?_
           with_reducible refine (subst_Value.calls a2_4 a2_5 a2_6 a2_7 a2_8 _ _ t134 t137 t138 t139 t140 _ ?side1 ?side2 A47.out).mono ?_
           (case side1 => repeat (first | exact (Kd.R_reads' HO136.out).2.2 | (with_reducible refine Kd.C_alloc ?_ _) | (with_reducible refine Kd.C_drewN ?_ _) | (with_reducible refine Kd.C_drew ?_)))
           (case side2 => exact (Kd.R_reads' HO136.out).2.1)
           rintro e w64 ⟨rfl, hb⟩
           refine ⟨_, rfl, ?_⟩
           replace HO_10 := am (Kd.V_below (by (with_reducible repeat (first | apply Va | apply Vn | apply Vd)); exact HO_10.out) hb)
           replace HO_12 := am (Kd.V_below (by (with_reducible repeat (first | apply Va | apply Vn | apply Vd)); exact HO_12.out) hb)
           replace HO_14 := am (Kd.R_below (by (with_reducible repeat (first | apply Ra | apply Rn | apply Rd)); exact HO_14.out) hb)
           replace HO_16 := am (Kd.R_below (by (with_reducible repeat (first | apply Ra | apply Rn | apply Rd)); exact HO_16.out) hb)
           replace HO136 := am (Kd.R_below (by (with_reducible repeat (first | apply Ra | apply Rn | apply Rd)); exact HO136.out) hb)
           replace BK101 := am (blk_below (g := gb101) (o := .cells #[.string a0_0, .slice A0_1 l0_1.length c0_1] 46 (0, 0)) (by (with_reducible repeat (first | refine bN ?_ _ | refine bD ?_ | refine bA ?_ _)); exact BK101.out) hb)
           replace BK102 := am (blk_below (g := gb102) (o := .cells #[.int .i64 a2_0, .string a2_1, .slice A2_2 l2_2.length c2_2, .string a2_3, .bool a2_4, .string a2_5, .bool a2_6, .string a2_7, .int .i64 a2_8, .bool a2_9, .string a2_10, .bool a2_11, .string a2_12, .int .i64 a2_13] 58 (0, 0)) (by (with_reducible repeat (first | refine bN ?_ _ | refine bD ?_ | refine bA ?_ _)); exact BK102.out) hb)
           replace BK141 := am (blk_below (g := gb141) (o := .cells #[.bool false, .string (⟨#[]⟩ : ByteArray), .int .i64 0] 24 (0, 0)) (by (with_reducible repeat (first | refine bN ?_ _ | refine bD ?_ | refine bA ?_ _)); exact BK141.out) hb)
           replace HB := am (below_step (by repeat (first | (with_reducible first | exact HB.out | apply lA | apply lN | apply lD | refine lS ?_ GE101.out | refine lS ?_ GE102.out | refine lS ?_ GE141.out) | exact HB.out)) hb)
           (try clear hb)
           (try clear hb2)
           (try clear hk)
           (try clear hi)
           refine hK.out _ _ ⟨(blk_cell BK102.out 0).trans rfl, (blk_cell BK102.out 1).trans rfl, (blk_cell BK102.out 2).trans rfl, (blk_cell BK102.out 3).trans rfl, (blk_cell BK102.out 4).trans rfl, (blk_cell BK102.out 5).trans rfl, (blk_cell BK102.out 6).trans rfl, (blk_cell BK102.out 7).trans rfl, (blk_cell BK102.out 8).trans rfl, (blk_cell BK102.out 9).trans rfl, (blk_cell BK102.out 10).trans rfl, (blk_cell BK102.out 11).trans rfl, (blk_cell BK102.out 12).trans rfl, (blk_cell BK102.out 13).trans rfl⟩ (fun hHeld => ?_)
           clear hK K
           refine norm_ (a' := ?_) ?_ ?_
           rotate_left
           ·show Act.put _ (some 83) _ = _
            simp only [Act.put, sA, sZ, sS, i64_w, i32_w]
            rfl
           refine pure_ (i := 5) (N := some 78) (v := ?_) (a' := ?_) (bl 11 319) rfl rfl (any_of HT_.out (by kernel_rfl)) (fun _ _ _ h => h) (Or.inl ⟨by rfl, ?_⟩) ?_ ?_
           rotate_left
           ·intro w'
            go_simp
            with_reducible rfl
           rotate_left
           ·simp only [Act.put, sA, sZ, sS, i64_w, i32_w]
            rfl
           refine pure_ (i := 6) (N := some 84) (v := ?_) (a' := ?_) (bl 11 383) rfl rfl (any_of HT_.out (by kernel_rfl)) (fun _ _ _ h => h) (Or.inl ⟨by rfl, ?_⟩) ?_ ?_
           rotate_left
           ·intro w'
            go_simp
            with_reducible rfl
           rotate_left
           ·simp only [Act.put, sA, sZ, sS, i64_w, i32_w]
            rfl
           refine pure_ (i := 7) (N := some 85) (v := ?_) (a' := ?_) (bl 11 511) rfl rfl (any_of HT_.out (by kernel_rfl)) (fun _ _ _ h => h) (Or.inl ⟨by rfl, ?_⟩) ?_ ?_
           rotate_left
           ·intro w'
            go_simp
            with_reducible rfl
           rotate_left
           ·simp only [Act.put, sA, sZ, sS, i64_w, i32_w]
            rfl
           exact norm_ (by simp only [putAll, Act.put, List.setIfInBounds_toArray, List.set_cons_zero, List.set_cons_succ]) (hCont (.slice Ao63 t134.length co63, gb141) _ ⟨hHeld, (by (with_reducible repeat (first | apply Ra | apply Rn | apply Rd)); exact HO136.out), (by (with_reducible repeat (first | apply Va | apply Vn | apply Vd)); exact Kd.V_mono HO_10.out (fun _ hk => ⟨hk.1.2, ⟨hk.1.1.1, ⟨hk.1.1.2.1, ⟨hk.1.1.2.2.1, ⟨hk.1.1.2.2.2, hk.2⟩⟩⟩⟩⟩)), (by (with_reducible repeat (first | apply Va | apply Vn | apply Vd)); exact Kd.V_mono HO_12.out (fun _ hk => ⟨hk.1.2, ⟨hk.1.1.1, ⟨hk.1.1.2.1, ⟨hk.1.1.2.2.1, ⟨hk.1.1.2.2.2, hk.2⟩⟩⟩⟩⟩)), (by (with_reducible repeat (first | apply Ra | apply Rn | apply Rd)); exact HO_14.out), (by (with_reducible repeat (first | apply Ra | apply Rn | apply Rd)); exact HO_16.out), (by (with_reducible repeat (first | refine bN ?_ _ | refine bD ?_ | refine bA ?_ _)); exact BK101.out), (by (with_reducible repeat (first | refine bN ?_ _ | refine bD ?_ | refine bA ?_ _)); exact BK102.out), (by (with_reducible repeat (first | refine bN ?_ _ | refine bD ?_ | refine bA ?_ _)); exact BK141.out), GW141.out, GE141.out, NB101_141.out, NB141_101.out, NB102_141.out, NB141_102.out, (by repeat (first | (with_reducible first | exact HB.out | apply lA | apply lN | apply lD | refine lS ?_ GE101.out | refine lS ?_ GE102.out | refine lS ?_ GE141.out) | exact HB.out))⟩)
         ·skip
          refine box_step ?hg (N := 22) ?hd (cs := #[.bool false, .string (⟨#[]⟩ : ByteArray), .int .i64 0]) (t := 24) ?hr ?_; (case hd => rfl); (case hg => rfl); (case hr => first | (go_simp; done) | (go_simp; rfl))
          intro gb141 hg w61 hbox hb
          replace HO_10 := am (Kd.V_below (Kd.V_elderB (by (with_reducible repeat (first | apply Va | apply Vn | apply Vd)); exact HO_10.out) gb141 (Nat.le_of_eq hg.symm)) hb)
          replace HO_12 := am (Kd.V_below (Kd.V_elderB (by (with_reducible repeat (first | apply Va | apply Vn | apply Vd)); exact HO_12.out) gb141 (Nat.le_of_eq hg.symm)) hb)
          replace HO_14 := am (Kd.R_below (Kd.R_elderB (by (with_reducible repeat (first | apply Ra | apply Rn | apply Rd)); exact HO_14.out) gb141 (Nat.le_of_eq hg.symm)) hb)
          replace HO_16 := am (Kd.R_below (Kd.R_elderB (by (with_reducible repeat (first | apply Ra | apply Rn | apply Rd)); exact HO_16.out) gb141 (Nat.le_of_eq hg.symm)) hb)
          have BK141 := am (hbox)
          have GW141 := am ((by rw [hg]; exact (below_size (by repeat (first | (with_reducible first | exact HB.out | apply lA | apply lN | apply lD | refine lS ?_ GE101.out | refine lS ?_ GE102.out) | exact HB.out))) : w.heap.size ≤ gb141))
          have GE141 := am ((by rw [hg]; exact (below_size (by repeat (first | (with_reducible first | exact HB.out | apply lA | apply lN | apply lD | refine lS ?_ GE101.out | refine lS ?_ GE102.out) | exact HB.out))) : w.heap.size ≤ gb141))
          replace HB := am (below_step (by repeat (first | (with_reducible first | exact HB.out | apply lA | apply lN | apply lD | refine lS ?_ GE101.out | refine lS ?_ GE102.out) | exact HB.out)) hb)
          have NB101_141 := am ((by rw [hg]; exact Nat.ne_of_lt (blk_lt (g := gb101) (o := .cells #[.string a0_0, .slice A0_1 l0_1.length c0_1] 46 (0, 0)) (by (with_reducible repeat (first | refine bN ?_ _ | refine bD ?_ | refine bA ?_ _)); exact BK101.out)) : gb101 ≠ gb141))
          have NB141_101 := am ((by rw [hg]; exact Nat.ne_of_gt (blk_lt (g := gb101) (o := .cells #[.string a0_0, .slice A0_1 l0_1.length c0_1] 46 (0, 0)) (by (with_reducible repeat (first | refine bN ?_ _ | refine bD ?_ | refine bA ?_ _)); exact BK101.out)) : gb141 ≠ gb101))
          replace BK101 := am (blk_below (g := gb101) (o := .cells #[.string a0_0, .slice A0_1 l0_1.length c0_1] 46 (0, 0)) (by (with_reducible repeat (first | refine bN ?_ _ | refine bD ?_ | refine bA ?_ _)); exact BK101.out) hb)
          have NB102_141 := am ((by rw [hg]; exact Nat.ne_of_lt (blk_lt (g := gb102) (o := .cells #[.int .i64 a2_0, .string a2_1, .slice A2_2 l2_2.length c2_2, .string a2_3, .bool a2_4, .string a2_5, .bool a2_6, .string a2_7, .int .i64 a2_8, .bool a2_9, .string a2_10, .bool a2_11, .string a2_12, .int .i64 a2_13] 58 (0, 0)) (by (with_reducible repeat (first | refine bN ?_ _ | refine bD ?_ | refine bA ?_ _)); exact BK102.out)) : gb102 ≠ gb141))
          have NB141_102 := am ((by rw [hg]; exact Nat.ne_of_gt (blk_lt (g := gb102) (o := .cells #[.int .i64 a2_0, .string a2_1, .slice A2_2 l2_2.length c2_2, .string a2_3, .bool a2_4, .string a2_5, .bool a2_6, .string a2_7, .int .i64 a2_8, .bool a2_9, .string a2_10, .bool a2_11, .string a2_12, .int .i64 a2_13] 58 (0, 0)) (by (with_reducible repeat (first | refine bN ?_ _ | refine bD ?_ | refine bA ?_ _)); exact BK102.out)) : gb141 ≠ gb102))
          replace BK102 := am (blk_below (g := gb102) (o := .cells #[.int .i64 a2_0, .string a2_1, .slice A2_2 l2_2.length c2_2, .string a2_3, .bool a2_4, .string a2_5, .bool a2_6, .string a2_7, .int .i64 a2_8, .bool a2_9, .string a2_10, .bool a2_11, .string a2_12, .int .i64 a2_13] 58 (0, 0)) (by (with_reducible repeat (first | refine bN ?_ _ | refine bD ?_ | refine bA ?_ _)); exact BK102.out) hb)
          clear hb hbox hg
          refine hK.out _ _ ⟨(blk_cell BK102.out 0).trans rfl, (blk_cell BK102.out 1).trans rfl, (blk_cell BK102.out 2).trans rfl, (blk_cell BK102.out 3).trans rfl, (blk_cell BK102.out 4).trans rfl, (blk_cell BK102.out 5).trans rfl, (blk_cell BK102.out 6).trans rfl, (blk_cell BK102.out 7).trans rfl, (blk_cell BK102.out 8).trans rfl, (blk_cell BK102.out 9).trans rfl, (blk_cell BK102.out 10).trans rfl, (blk_cell BK102.out 11).trans rfl, (blk_cell BK102.out 12).trans rfl, (blk_cell BK102.out 13).trans rfl⟩ (fun hHeld => ?_)
          clear hK K
          refine norm_ (a' := ?_) ?_ ?_
          rotate_left
          ·show Act.put _ (some 22) _ = _
           simp only [Act.put, sA, sZ, sS, i64_w, i32_w]
           rfl
          refine one_ (i := 3) (N := some 82) (bl 11 271) rfl rfl (one_of HT_.out (by kernel_rfl)) (by decide) (fun K hK => ?_)
          refine goes_ Try.func11 (by kernel_rfl) rfl #[.slice A3 l3.length c3] (by rfl) rfl rfl (by (try simp only [List.map_toArray, List.map_cons, List.map_nil]); first | done | rfl | (simp only [List.length_drop, List.length_take]; rfl)) ?_
          with_reducible refine (lambrequinlaw12_env.calls kj23 _ _ l3 t134 _ ?side1 ?side2 A46.out).mono ?_
          (case side1 => repeat (first | exact (Kd.C_below HR3.out HB.out) | (with_reducible refine Kd.C_alloc ?_ _) | (with_reducible refine Kd.C_drewN ?_ _) | (with_reducible refine Kd.C_drew ?_)))
          (case side2 => exact HC3.out)
          rintro e w62 ⟨v135, rfl, ho0, hb⟩
          refine ⟨_, rfl, ?_⟩
          replace HO_10 := am (Kd.V_elder' (by (with_reducible repeat (first | apply Va | apply Vn | apply Vd)); exact HO_10.out) (Kd.R_base ho0) hb)
          replace HO_12 := am (Kd.V_elder' (by (with_reducible repeat (first | apply Va | apply Vn | apply Vd)); exact HO_12.out) (Kd.R_base ho0) hb)
          replace HO_14 := am (Kd.R_below (by (with_reducible repeat (first | apply Ra | apply Rn | apply Rd)); exact HO_14.out) hb)
          replace HO_16 := am (Kd.R_below (by (with_reducible repeat (first | apply Ra | apply Rn | apply Rd)); exact HO_16.out) hb)
          have HO136 := am (Kd.R_lower ho0 (below_size (by repeat (first | (with_reducible first | exact HB.out | apply lA | apply lN | apply lD | refine lS ?_ GE101.out | refine lS ?_ GE102.out | refine lS ?_ GE141.out) | exact HB.out))))
          replace BK101 := am (blk_below (g := gb101) (o := .cells #[.string a0_0, .slice A0_1 l0_1.length c0_1] 46 (0, 0)) (by (with_reducible repeat (first | refine bN ?_ _ | refine bD ?_ | refine bA ?_ _)); exact BK101.out) hb)
          replace BK102 := am (blk_below (g := gb102) (o := .cells #[.int .i64 a2_0, .string a2_1, .slice A2_2 l2_2.length c2_2, .string a2_3, .bool a2_4, .string a2_5, .bool a2_6, .string a2_7, .int .i64 a2_8, .bool a2_9, .string a2_10, .bool a2_11, .string a2_12, .int .i64 a2_13] 58 (0, 0)) (by (with_reducible repeat (first | refine bN ?_ _ | refine bD ?_ | refine bA ?_ _)); exact BK102.out) hb)
          replace BK141 := am (blk_below (g := gb141) (o := .cells #[.bool false, .string (⟨#[]⟩ : ByteArray), .int .i64 0] 24 (0, 0)) (by (with_reducible repeat (first | refine bN ?_ _ | refine bD ?_ | refine bA ?_ _)); exact BK141.out) hb)
          replace HB := am (below_step (by repeat (first | (with_reducible first | exact HB.out | apply lA | apply lN | apply lD | refine lS ?_ GE101.out | refine lS ?_ GE102.out | refine lS ?_ GE141.out) | exact HB.out)) hb)
          (try clear hb)
          (try clear hb2)
          (try clear hk)
          (try clear hi)
          (try clear ho0)
          obtain ⟨Ao63, co63, eo63⟩ := Kd.R_slice HO136.out
          (first | subst eo63 | (injection eo63 with f1_ f2_ f3_; have f4_ := f1_.symm; have f5_ := f3_.symm; clear f1_ f2_ f3_; subst f4_; subst f5_))
          refine hK.out _ _ ⟨(blk_cell BK102.out 0).trans rfl, (blk_cell BK102.out 1).trans rfl, (blk_cell BK102.out 2).trans rfl, (blk_cell BK102.out 3).trans rfl, (blk_cell BK102.out 4).trans rfl, (blk_cell BK102.out 5).trans rfl, (blk_cell BK102.out 6).trans rfl, (blk_cell BK102.out 7).trans rfl, (blk_cell BK102.out 8).trans rfl, (blk_cell BK102.out 9).trans rfl, (blk_cell BK102.out 10).trans rfl, (blk_cell BK102.out 11).trans rfl, (blk_cell BK102.out 12).trans rfl, (blk_cell BK102.out 13).trans rfl⟩ (fun hHeld => ?_)
          clear hK K
          refine norm_ (a' := ?_) ?_ ?_
          rotate_left
          ·show Act.put _ (some 82) _ = _
           simp only [Act.put, sA, sZ, sS, i64_w, i32_w]
           rfl
          refine one_ (i := 4) (N := some 83) (bl 11 287) rfl rfl (one_of HT_.out (by kernel_rfl)) (by decide) (fun K hK => ?_)
          refine goes_ Try.func28 (by kernel_rfl) rfl #[.agg #[.bool a2_4, .string a2_5, .bool a2_6, .string a2_7, .int .i64 a2_8], .slice Ao63 t134.length co63] (by rfl) rfl rfl (by (try simp only [List.map_toArray, List.map_cons, List.map_nil]); first | done | rfl | (simp only [List.length_drop, List.length_take]; rfl)) ?_
          with_reducible refine (subst_Value.calls a2_4 a2_5 a2_6 a2_7 a2_8 _ _ t134 t137 t138 t139 t140 _ ?side1 ?side2 A47.out).mono ?_
          (case side1 => repeat (first | exact (Kd.R_reads' HO136.out).2.2 | (with_reducible refine Kd.C_alloc ?_ _) | (with_reducible refine Kd.C_drewN ?_ _) | (with_reducible refine Kd.C_drew ?_)))
          (case side2 => exact (Kd.R_reads' HO136.out).2.1)
          rintro e w64 ⟨rfl, hb⟩
          refine ⟨_, rfl, ?_⟩
          replace HO_10 := am (Kd.V_below (by (with_reducible repeat (first | apply Va | apply Vn | apply Vd)); exact HO_10.out) hb)
          replace HO_12 := am (Kd.V_below (by (with_reducible repeat (first | apply Va | apply Vn | apply Vd)); exact HO_12.out) hb)
          replace HO_14 := am (Kd.R_below (by (with_reducible repeat (first | apply Ra | apply Rn | apply Rd)); exact HO_14.out) hb)
          replace HO_16 := am (Kd.R_below (by (with_reducible repeat (first | apply Ra | apply Rn | apply Rd)); exact HO_16.out) hb)
          replace HO136 := am (Kd.R_below (by (with_reducible repeat (first | apply Ra | apply Rn | apply Rd)); exact HO136.out) hb)
          replace BK101 := am (blk_below (g := gb101) (o := .cells #[.string a0_0, .slice A0_1 l0_1.length c0_1] 46 (0, 0)) (by (with_reducible repeat (first | refine bN ?_ _ | refine bD ?_ | refine bA ?_ _)); exact BK101.out) hb)
          replace BK102 := am (blk_below (g := gb102) (o := .cells #[.int .i64 a2_0, .string a2_1, .slice A2_2 l2_2.length c2_2, .string a2_3, .bool a2_4, .string a2_5, .bool a2_6, .string a2_7, .int .i64 a2_8, .bool a2_9, .string a2_10, .bool a2_11, .string a2_12, .int .i64 a2_13] 58 (0, 0)) (by (with_reducible repeat (first | refine bN ?_ _ | refine bD ?_ | refine bA ?_ _)); exact BK102.out) hb)
          replace BK141 := am (blk_below (g := gb141) (o := .cells #[.bool false, .string (⟨#[]⟩ : ByteArray), .int .i64 0] 24 (0, 0)) (by (with_reducible repeat (first | refine bN ?_ _ | refine bD ?_ | refine bA ?_ _)); exact BK141.out) hb)
          replace HB := am (below_step (by repeat (first | (with_reducible first | exact HB.out | apply lA | apply lN | apply lD | refine lS ?_ GE101.out | refine lS ?_ GE102.out | refine lS ?_ GE141.out) | exact HB.out)) hb)
          (try clear hb)
          (try clear hb2)
          (try clear hk)
          (try clear hi)
          refine hK.out _ _ ⟨(blk_cell BK102.out 0).trans rfl, (blk_cell BK102.out 1).trans rfl, (blk_cell BK102.out 2).trans rfl, (blk_cell BK102.out 3).trans rfl, (blk_cell BK102.out 4).trans rfl, (blk_cell BK102.out 5).trans rfl, (blk_cell BK102.out 6).trans rfl, (blk_cell BK102.out 7).trans rfl, (blk_cell BK102.out 8).trans rfl, (blk_cell BK102.out 9).trans rfl, (blk_cell BK102.out 10).trans rfl, (blk_cell BK102.out 11).trans rfl, (blk_cell BK102.out 12).trans rfl, (blk_cell BK102.out 13).trans rfl⟩ (fun hHeld => ?_)
          clear hK K
          refine norm_ (a' := ?_) ?_ ?_
          rotate_left
          ·show Act.put _ (some 83) _ = _
           simp only [Act.put, sA, sZ, sS, i64_w, i32_w]
           rfl
          refine pure_ (i := 5) (N := some 78) (v := ?_) (a' := ?_) (bl 11 319) rfl rfl (any_of HT_.out (by kernel_rfl)) (fun _ _ _ h => h) (Or.inl ⟨by rfl, ?_⟩) ?_ ?_
          rotate_left
          ·intro w'
           go_simp
           with_reducible rfl
          rotate_left
          ·simp only [Act.put, sA, sZ, sS, i64_w, i32_w]
           rfl
          refine pure_ (i := 6) (N := some 84) (v := ?_) (a' := ?_) (bl 11 383) rfl rfl (any_of HT_.out (by kernel_rfl)) (fun _ _ _ h => h) (Or.inl ⟨by rfl, ?_⟩) ?_ ?_
          rotate_left
          ·intro w'
           go_simp
           with_reducible rfl
          rotate_left
          ·simp only [Act.put, sA, sZ, sS, i64_w, i32_w]
           rfl
          refine pure_ (i := 7) (N := some 85) (v := ?_) (a' := ?_) (bl 11 511) rfl rfl (any_of HT_.out (by kernel_rfl)) (fun _ _ _ h => h) (Or.inl ⟨by rfl, ?_⟩) ?_ ?_
          rotate_left
          ·intro w'
           go_simp
           with_reducible rfl
          rotate_left
          ·simp only [Act.put, sA, sZ, sS, i64_w, i32_w]
           rfl
          exact norm_ (by simp only [putAll, Act.put, List.setIfInBounds_toArray, List.set_cons_zero, List.set_cons_succ]) (hCont (.slice Ao63 t134.length co63, gb141) _ ⟨hHeld, (by (with_reducible repeat (first | apply Ra | apply Rn | apply Rd)); exact HO136.out), (by (with_reducible repeat (first | apply Va | apply Vn | apply Vd)); exact Kd.V_mono HO_10.out (fun _ hk => ⟨hk.2, ⟨hk.1.1.1, ⟨hk.1.1.2.1, ⟨hk.1.1.2.2.1, ⟨hk.1.1.2.2.2, hk.1.2⟩⟩⟩⟩⟩)), (by (with_reducible repeat (first | apply Va | apply Vn | apply Vd)); exact Kd.V_mono HO_12.out (fun _ hk => ⟨hk.2, ⟨hk.1.1.1, ⟨hk.1.1.2.1, ⟨hk.1.1.2.2.1, ⟨hk.1.1.2.2.2, hk.1.2⟩⟩⟩⟩⟩)), (by (with_reducible repeat (first | apply Ra | apply Rn | apply Rd)); exact HO_14.out), (by (with_reducible repeat (first | apply Ra | apply Rn | apply Rd)); exact HO_16.out), (by (with_reducible repeat (first | refine bN ?_ _ | refine bD ?_ | refine bA ?_ _)); exact BK101.out), (by (with_reducible repeat (first | refine bN ?_ _ | refine bD ?_ | refine bA ?_ _)); exact BK102.out), (by (with_reducible repeat (first | refine bN ?_ _ | refine bD ?_ | refine bA ?_ _)); exact BK141.out), GW141.out, GE141.out, NB101_141.out, NB141_101.out, NB102_141.out, NB141_102.out, (by repeat (first | (with_reducible first | exact HB.out | apply lA | apply lN | apply lD | refine lS ?_ GE101.out | refine lS ?_ GE102.out | refine lS ?_ GE141.out) | exact HB.out))⟩)
        rintro ⟨v135, gb141⟩ w65 ⟨hS_, h0_, h1_, h2_, h3_, h4_, h5_, h6_, h7_, h8_, h9_, h10_, h11_, h12_, h13_, h14_⟩
        have HO136 : Aside0 (Kd.R k41 41 w65 w.heap.size (fun _ => True) v135 t134) := ⟨h0_⟩
        replace HO_10 : Aside0 (Kd.V k41 41 w65 w.heap.size (fun k_ => some k_ ≠ (v135 : Value).ownBlock ∧ some k_ ≠ (v120 : Value).ownBlock ∧ some k_ ≠ (v124 : Value).ownBlock ∧ k_ ≠ gb101 ∧ k_ ≠ gb102 ∧ k_ ≠ gb141) v109 t108) := ⟨h1_⟩
        replace HO_12 : Aside0 (Kd.V k69 69 w65 w.heap.size (fun k_ => some k_ ≠ (v135 : Value).ownBlock ∧ some k_ ≠ (v120 : Value).ownBlock ∧ some k_ ≠ (v124 : Value).ownBlock ∧ k_ ≠ gb101 ∧ k_ ≠ gb102 ∧ k_ ≠ gb141) v113 t112) := ⟨h2_⟩
        replace HO_14 : Aside0 (Kd.R k24 24 w65 w.heap.size (fun k_ => some k_ ≠ (v124 : Value).ownBlock ∧ k_ ≠ gb141) v120 t119) := ⟨h3_⟩
        replace HO_16 : Aside0 (Kd.R k24 24 w65 w.heap.size (fun k_ => some k_ ≠ (v120 : Value).ownBlock ∧ k_ ≠ gb141) v124 t123) := ⟨h4_⟩
        replace BK101 : Aside0 (w65.heap[gb101]? = some (.cells #[.string a0_0, .slice A0_1 l0_1.length c0_1] 46 (0, 0))) := ⟨h5_⟩
        replace BK102 : Aside0 (w65.heap[gb102]? = some (.cells #[.int .i64 a2_0, .string a2_1, .slice A2_2 l2_2.length c2_2, .string a2_3, .bool a2_4, .string a2_5, .bool a2_6, .string a2_7, .int .i64 a2_8, .bool a2_9, .string a2_10, .bool a2_11, .string a2_12, .int .i64 a2_13] 58 (0, 0))) := ⟨h6_⟩
        have BK141 : Aside0 (w65.heap[gb141]? = some (.cells #[.bool false, .string (⟨#[]⟩ : ByteArray), .int .i64 0] 24 (0, 0))) := ⟨h7_⟩
        have GW141 : Aside0 (w.heap.size ≤ gb141) := ⟨h8_⟩
        have GE141 : Aside0 (w.heap.size ≤ gb141) := ⟨h9_⟩
        have NB101_141 : Aside0 (gb101 ≠ gb141) := ⟨h10_⟩
        have NB141_101 : Aside0 (gb141 ≠ gb101) := ⟨h11_⟩
        have NB102_141 : Aside0 (gb102 ≠ gb141) := ⟨h12_⟩
        have NB141_102 : Aside0 (gb141 ≠ gb102) := ⟨h13_⟩
        replace HB : Aside0 (Below w.heap.size w w65) := ⟨h14_⟩
        clear h0_ h1_ h2_ h3_ h4_ h5_ h6_ h7_ h8_ h9_ h10_ h11_ h12_ h13_ h14_
        have hHeld : w65.cell? ⟨gb102, 0, none⟩ = some (.int .i64 a2_0) ∧ w65.cell? ⟨gb102, 1, none⟩ = some (.string a2_1) ∧ w65.cell? ⟨gb102, 2, none⟩ = some (.slice A2_2 l2_2.length c2_2) ∧ w65.cell? ⟨gb102, 3, none⟩ = some (.string a2_3) ∧ w65.cell? ⟨gb102, 4, none⟩ = some (.bool a2_4) ∧ w65.cell? ⟨gb102, 5, none⟩ = some (.string a2_5) ∧ w65.cell? ⟨gb102, 6, none⟩ = some (.bool a2_6) ∧ w65.cell? ⟨gb102, 7, none⟩ = some (.string a2_7) ∧ w65.cell? ⟨gb102, 8, none⟩ = some (.int .i64 a2_8) ∧ w65.cell? ⟨gb102, 9, none⟩ = some (.bool a2_9) ∧ w65.cell? ⟨gb102, 10, none⟩ = some (.string a2_10) ∧ w65.cell? ⟨gb102, 11, none⟩ = some (.bool a2_11) ∧ w65.cell? ⟨gb102, 12, none⟩ = some (.string a2_12) ∧ w65.cell? ⟨gb102, 13, none⟩ = some (.int .i64 a2_13) := hS_
        refine norm_ (a' := ?_) ?_ ?_
        rotate_left
        ·simp only [putAll, Act.put, List.setIfInBounds_toArray, List.set_cons_zero, List.set_cons_succ]
         rfl
        refine one_ (i := 9) (N := none) (bl 11 1023) rfl rfl (one_of HT_.out (by kernel_rfl)) (by decide) (fun K hK => ?_)
        have hs66 : w65.cell? ⟨gb141, 0, none⟩ = some (.bool false) := (blk_cell BK141.out 0).trans rfl
        have hfs66 := blk_frozen BK141.out 0
        have hns66_0 := NB101_141.out
        have hns66_1 := NB102_141.out
        have hms66_0 := NB141_101.out
        have hms66_1 := NB141_102.out
        have hs67 : w65.cell? ⟨gb141, 1, none⟩ = some (.string (⟨#[]⟩ : ByteArray)) := (blk_cell BK141.out 1).trans rfl
        have hfs67 := blk_frozen BK141.out 1
        have hns67_0 := NB101_141.out
        have hns67_1 := NB102_141.out
        have hms67_0 := NB141_101.out
        have hms67_1 := NB141_102.out
        have hs68 : w65.cell? ⟨gb141, 2, none⟩ = some (.int .i64 0) := (blk_cell BK141.out 2).trans rfl
        have hfs68 := blk_frozen BK141.out 2
        have hns68_0 := NB101_141.out
        have hns68_1 := NB102_141.out
        have hms68_0 := NB141_101.out
        have hms68_1 := NB141_102.out
        refine skip_ (w1 := ?_) (by rfl) rfl ?_ ?_
        rotate_left
        ·go_simp
         rfl
        refine hK.out _ _ ⟨(by repeat (first | (with_reducible exact (hHeld.1)) | refine (cell_far (p := ⟨gb141, _, none⟩) NB102_141.out _).trans ?_ | exact (hHeld.1))), (by repeat (first | (with_reducible exact (hHeld.2.1)) | refine (cell_far (p := ⟨gb141, _, none⟩) NB102_141.out _).trans ?_ | exact (hHeld.2.1))), (by repeat (first | (with_reducible exact (hHeld.2.2.1)) | refine (cell_far (p := ⟨gb141, _, none⟩) NB102_141.out _).trans ?_ | exact (hHeld.2.2.1))), (by repeat (first | (with_reducible exact (hHeld.2.2.2.1)) | refine (cell_far (p := ⟨gb141, _, none⟩) NB102_141.out _).trans ?_ | exact (hHeld.2.2.2.1))), (by repeat (first | (with_reducible exact (hHeld.2.2.2.2.1)) | refine (cell_far (p := ⟨gb141, _, none⟩) NB102_141.out _).trans ?_ | exact (hHeld.2.2.2.2.1))), (by repeat (first | (with_reducible exact (hHeld.2.2.2.2.2.1)) | refine (cell_far (p := ⟨gb141, _, none⟩) NB102_141.out _).trans ?_ | exact (hHeld.2.2.2.2.2.1))), (by repeat (first | (with_reducible exact (hHeld.2.2.2.2.2.2.1)) | refine (cell_far (p := ⟨gb141, _, none⟩) NB102_141.out _).trans ?_ | exact (hHeld.2.2.2.2.2.2.1))), (by repeat (first | (with_reducible exact (hHeld.2.2.2.2.2.2.2.1)) | refine (cell_far (p := ⟨gb141, _, none⟩) NB102_141.out _).trans ?_ | exact (hHeld.2.2.2.2.2.2.2.1))), (by repeat (first | (with_reducible exact (hHeld.2.2.2.2.2.2.2.2.1)) | refine (cell_far (p := ⟨gb141, _, none⟩) NB102_141.out _).trans ?_ | exact (hHeld.2.2.2.2.2.2.2.2.1))), (by repeat (first | (with_reducible exact (hHeld.2.2.2.2.2.2.2.2.2.1)) | refine (cell_far (p := ⟨gb141, _, none⟩) NB102_141.out _).trans ?_ | exact (hHeld.2.2.2.2.2.2.2.2.2.1))), (by repeat (first | (with_reducible exact (hHeld.2.2.2.2.2.2.2.2.2.2.1)) | refine (cell_far (p := ⟨gb141, _, none⟩) NB102_141.out _).trans ?_ | exact (hHeld.2.2.2.2.2.2.2.2.2.2.1))), (by repeat (first | (with_reducible exact (hHeld.2.2.2.2.2.2.2.2.2.2.2.1)) | refine (cell_far (p := ⟨gb141, _, none⟩) NB102_141.out _).trans ?_ | exact (hHeld.2.2.2.2.2.2.2.2.2.2.2.1))), (by repeat (first | (with_reducible exact (hHeld.2.2.2.2.2.2.2.2.2.2.2.2.1)) | refine (cell_far (p := ⟨gb141, _, none⟩) NB102_141.out _).trans ?_ | exact (hHeld.2.2.2.2.2.2.2.2.2.2.2.2.1))), (by repeat (first | (with_reducible exact (hHeld.2.2.2.2.2.2.2.2.2.2.2.2.2)) | refine (cell_far (p := ⟨gb141, _, none⟩) NB102_141.out _).trans ?_ | exact (hHeld.2.2.2.2.2.2.2.2.2.2.2.2.2)))⟩ (fun hHeld => ?_)
        clear hK K
        refine pure_ (i := 10) (N := some 23) (v := ?_) (a' := ?_) (bl 11 2047) rfl rfl (any_of HT_.out (by kernel_rfl)) (fun _ _ _ h => h) (Or.inl ⟨by rfl, ?_⟩) ?_ ?_
        rotate_left
        ·intro w'
         go_simp
         with_reducible rfl
        rotate_left
        ·simp only [Act.put, sA, sZ, sS, i64_w, i32_w]
         rfl
        refine done_ (done_of HT_.out (by kernel_rfl)) ?_
        have hnb69 := NB102_101.out
        have hnc69 := NB101_102.out
        have hnb70 := NB102_141.out
        have hnc70 := NB141_102.out
        have hcz71_0 : w65.cell? ⟨gb102, 0, none⟩ = some (.int .i64 a2_0) := (blk_cell BK102.out 0).trans rfl
        have hcz71_1 : w65.cell? ⟨gb102, 1, none⟩ = some (.string a2_1) := (blk_cell BK102.out 1).trans rfl
        have hcz71_2 : w65.cell? ⟨gb102, 2, none⟩ = some (.slice A2_2 l2_2.length c2_2) := (blk_cell BK102.out 2).trans rfl
        have hcz71_3 : w65.cell? ⟨gb102, 3, none⟩ = some (.string a2_3) := (blk_cell BK102.out 3).trans rfl
        have hcz71_4 : w65.cell? ⟨gb102, 4, none⟩ = some (.bool a2_4) := (blk_cell BK102.out 4).trans rfl
        have hcz71_5 : w65.cell? ⟨gb102, 5, none⟩ = some (.string a2_5) := (blk_cell BK102.out 5).trans rfl
        have hcz71_6 : w65.cell? ⟨gb102, 6, none⟩ = some (.bool a2_6) := (blk_cell BK102.out 6).trans rfl
        have hcz71_7 : w65.cell? ⟨gb102, 7, none⟩ = some (.string a2_7) := (blk_cell BK102.out 7).trans rfl
        have hcz71_8 : w65.cell? ⟨gb102, 8, none⟩ = some (.int .i64 a2_8) := (blk_cell BK102.out 8).trans rfl
        have hcz71_9 : w65.cell? ⟨gb102, 9, none⟩ = some (.bool a2_9) := (blk_cell BK102.out 9).trans rfl
        have hcz71_10 : w65.cell? ⟨gb102, 10, none⟩ = some (.string a2_10) := (blk_cell BK102.out 10).trans rfl
        have hcz71_11 : w65.cell? ⟨gb102, 11, none⟩ = some (.bool a2_11) := (blk_cell BK102.out 11).trans rfl
        have hcz71_12 : w65.cell? ⟨gb102, 12, none⟩ = some (.string a2_12) := (blk_cell BK102.out 12).trans rfl
        have hcz71_13 : w65.cell? ⟨gb102, 13, none⟩ = some (.int .i64 a2_13) := (blk_cell BK102.out 13).trans rfl
        have hfz71_0 := blk_frozen BK102.out 0
        have hfz71_1 := blk_frozen BK102.out 1
        have hfz71_2 := blk_frozen BK102.out 2
        have hfz71_3 := blk_frozen BK102.out 3
        have hfz71_4 := blk_frozen BK102.out 4
        have hfz71_5 := blk_frozen BK102.out 5
        have hfz71_6 := blk_frozen BK102.out 6
        have hfz71_7 := blk_frozen BK102.out 7
        have hfz71_8 := blk_frozen BK102.out 8
        have hfz71_9 := blk_frozen BK102.out 9
        have hfz71_10 := blk_frozen BK102.out 10
        have hfz71_11 := blk_frozen BK102.out 11
        have hfz71_12 := blk_frozen BK102.out 12
        have hfz71_13 := blk_frozen BK102.out 13
        go_upto_region 12 with (first | ((with_reducible refine gate_callee (f := 29) rfl ?_); refine goesL_ (some 90) rfl rfl Try.func29 (by kernel_rfl) rfl #[.agg #[.bool a2_4, .string a2_5, .bool a2_6, .string a2_7, .int .i64 a2_8], .slice A3 l3.length c3] rfl (by (try simp only [List.map_toArray, List.map_cons, List.map_nil]); first | done | rfl | (simp only [List.length_drop, List.length_take]; rfl)) ?_; (with_reducible refine (lambrequinref12_Value.calls kj23 a2_4 a2_5 a2_6 a2_7 a2_8 _ _ l3 t142 t143 t144 t145 _ ?side1 ?side2 A48.out).mono ?_); (case side1 => exact Kd.C_below HR3.out (by repeat (first | (with_reducible first | exact HB.out | apply lA | apply lN | apply lD | refine lS ?_ GE101.out | refine lS ?_ GE102.out | refine lS ?_ GE141.out) | exact HB.out))); (case side2 => exact HC3.out); rintro e w72 ⟨rfl, hb⟩; refine ⟨_, rfl, ?_⟩; replace HO_10 := am (Kd.V_below (by (with_reducible repeat (first | apply Va | apply Vn | apply Vd)); exact (Kd.V_mono (Kd.V_far (p := ⟨gb141, 2, none⟩) (Kd.V_far (p := ⟨gb141, 1, none⟩) (Kd.V_far (p := ⟨gb141, 0, none⟩) (Kd.V_mono HO_10.out (fun k_ hk => (⟨hk, hk.2.2.2.2.2⟩ : _ ∧ k_ ≠ gb141))) (fun _ hk => hk.2) _) (fun _ hk => hk.2) _) (fun _ hk => hk.2) _) (fun _ h_ => h_.1))) hb); replace HO_12 := am (Kd.V_below (by (with_reducible repeat (first | apply Va | apply Vn | apply Vd)); exact (Kd.V_mono (Kd.V_far (p := ⟨gb141, 2, none⟩) (Kd.V_far (p := ⟨gb141, 1, none⟩) (Kd.V_far (p := ⟨gb141, 0, none⟩) (Kd.V_mono HO_12.out (fun k_ hk => (⟨hk, hk.2.2.2.2.2⟩ : _ ∧ k_ ≠ gb141))) (fun _ hk => hk.2) _) (fun _ hk => hk.2) _) (fun _ hk => hk.2) _) (fun _ h_ => h_.1))) hb); replace HO_14 := am (Kd.R_below (by (with_reducible repeat (first | apply Ra | apply Rn | apply Rd)); exact (Kd.R_mono (Kd.R_far (p := ⟨gb141, 2, none⟩) (Kd.R_far (p := ⟨gb141, 1, none⟩) (Kd.R_far (p := ⟨gb141, 0, none⟩) (Kd.R_mono HO_14.out (fun k_ hk => (⟨hk, hk.2⟩ : _ ∧ k_ ≠ gb141))) (fun _ hk => hk.2) _) (fun _ hk => hk.2) _) (fun _ hk => hk.2) _) (fun _ h_ => h_.1))) hb); replace HO_16 := am (Kd.R_below (by (with_reducible repeat (first | apply Ra | apply Rn | apply Rd)); exact (Kd.R_mono (Kd.R_far (p := ⟨gb141, 2, none⟩) (Kd.R_far (p := ⟨gb141, 1, none⟩) (Kd.R_far (p := ⟨gb141, 0, none⟩) (Kd.R_mono HO_16.out (fun k_ hk => (⟨hk, hk.2⟩ : _ ∧ k_ ≠ gb141))) (fun _ hk => hk.2) _) (fun _ hk => hk.2) _) (fun _ hk => hk.2) _) (fun _ h_ => h_.1))) hb); replace HO136 := am (Kd.R_below (by (with_reducible repeat (first | apply Ra | apply Rn | apply Rd)); exact (Kd.R_mono (Kd.R_far (p := ⟨gb141, 2, none⟩) (Kd.R_far (p := ⟨gb141, 1, none⟩) (Kd.R_far (p := ⟨gb141, 0, none⟩) (Kd.R_types HO136.out BK141.out (by decide)) (fun _ hk => hk.2) _) (fun _ hk => hk.2) _) (fun _ hk => hk.2) _) (fun _ h_ => h_.1))) hb); replace BK101 := am (blk_below (g := gb101) (o := .cells #[.string a0_0, .slice A0_1 l0_1.length c0_1] 46 (0, 0)) (by repeat (first | (with_reducible first | exact BK101.out | refine bN ?_ _ | refine bD ?_ | refine bA ?_ _) | refine blk_far ?_ NB101_141.out _ | exact BK101.out)) hb); replace BK102 := am (blk_below (g := gb102) (o := .cells #[.int .i64 a2_0, .string a2_1, .slice A2_2 l2_2.length c2_2, .string a2_3, .bool a2_4, .string a2_5, .bool a2_6, .string a2_7, .int .i64 a2_8, .bool a2_9, .string a2_10, .bool a2_11, .string a2_12, .int .i64 a2_13] 58 (0, 0)) (by repeat (first | (with_reducible first | exact BK102.out | refine bN ?_ _ | refine bD ?_ | refine bA ?_ _) | refine blk_far ?_ NB102_141.out _ | exact BK102.out)) hb); replace BK141 := am (blk_below (g := gb141) (o := .cells #[.bool t137, .string t138, .int .i64 t139] 24 (0, 0)) (by (with_reducible repeat (first | refine bN ?_ _ | refine bD ?_ | refine bA ?_ _)); refine blk_put (cs := #[.bool t137, .string t138, .int .i64 0]) ?_ 2 _ rfl; (with_reducible repeat (first | refine bN ?_ _ | refine bD ?_ | refine bA ?_ _)); refine blk_put (cs := #[.bool t137, .string (⟨#[]⟩ : ByteArray), .int .i64 0]) ?_ 1 _ rfl; (with_reducible repeat (first | refine bN ?_ _ | refine bD ?_ | refine bA ?_ _)); refine blk_put (cs := #[.bool false, .string (⟨#[]⟩ : ByteArray), .int .i64 0]) ?_ 0 _ rfl; (with_reducible repeat (first | refine bN ?_ _ | refine bD ?_ | refine bA ?_ _)); exact BK141.out) hb); replace HB := am (below_step (by repeat (first | (with_reducible first | exact HB.out | apply lA | apply lN | apply lD | refine lS ?_ GE101.out | refine lS ?_ GE102.out | refine lS ?_ GE141.out) | exact HB.out)) hb); (try clear hb); (try clear hb2); (try clear hk); (try clear hi)) | ((with_reducible refine gate_dst (N := 24) rfl ?_); (try (refine gate_guard (by rfl) ?_; dsimp only)); refine box_event ?hg (N := 24) ?hd (cs := #[.bool false, .string (⟨#[]⟩ : ByteArray), .int .i64 0]) (t := 24) ?hr ?_; (case hd => rfl); (case hg => rfl); (case hr => first | (go_simp; done) | (go_simp; rfl)); intro gb146 hg w100 hbox hb; replace HO_10 := am (Kd.V_below (Kd.V_elderB (by (with_reducible repeat (first | apply Va | apply Vn | apply Vd)); exact HO_10.out) gb146 (Nat.le_of_eq hg.symm)) hb); replace HO_12 := am (Kd.V_below (Kd.V_elderB (by (with_reducible repeat (first | apply Va | apply Vn | apply Vd)); exact HO_12.out) gb146 (Nat.le_of_eq hg.symm)) hb); replace HO_14 := am (Kd.R_below (Kd.R_elderB (by (with_reducible repeat (first | apply Ra | apply Rn | apply Rd)); exact HO_14.out) gb146 (Nat.le_of_eq hg.symm)) hb); replace HO_16 := am (Kd.R_below (Kd.R_elderB (by (with_reducible repeat (first | apply Ra | apply Rn | apply Rd)); exact HO_16.out) gb146 (Nat.le_of_eq hg.symm)) hb); replace HO136 := am (Kd.R_below (by (with_reducible repeat (first | apply Ra | apply Rn | apply Rd)); exact HO136.out) hb); have BK146 := am (hbox); have GW146 := am ((by rw [hg]; exact (below_size (by repeat (first | (with_reducible first | exact HB.out | apply lA | apply lN | apply lD | refine lS ?_ GE101.out | refine lS ?_ GE102.out | refine lS ?_ GE141.out) | exact HB.out))) : w.heap.size ≤ gb146)); have GE146 := am ((by rw [hg]; exact (below_size (by repeat (first | (with_reducible first | exact HB.out | apply lA | apply lN | apply lD | refine lS ?_ GE101.out | refine lS ?_ GE102.out | refine lS ?_ GE141.out) | exact HB.out))) : w.heap.size ≤ gb146)); replace HB := am (below_step (by repeat (first | (with_reducible first | exact HB.out | apply lA | apply lN | apply lD | refine lS ?_ GE101.out | refine lS ?_ GE102.out | refine lS ?_ GE141.out) | exact HB.out)) hb); have NB101_146 := am ((by rw [hg]; exact Nat.ne_of_lt (blk_lt (g := gb101) (o := .cells #[.string a0_0, .slice A0_1 l0_1.length c0_1] 46 (0, 0)) (by (with_reducible repeat (first | refine bN ?_ _ | refine bD ?_ | refine bA ?_ _)); exact BK101.out)) : gb101 ≠ gb146)); have NB146_101 := am ((by rw [hg]; exact Nat.ne_of_gt (blk_lt (g := gb101) (o := .cells #[.string a0_0, .slice A0_1 l0_1.length c0_1] 46 (0, 0)) (by (with_reducible repeat (first | refine bN ?_ _ | refine bD ?_ | refine bA ?_ _)); exact BK101.out)) : gb146 ≠ gb101)); replace BK101 := am (blk_below (g := gb101) (o := .cells #[.string a0_0, .slice A0_1 l0_1.length c0_1] 46 (0, 0)) (by (with_reducible repeat (first | refine bN ?_ _ | refine bD ?_ | refine bA ?_ _)); exact BK101.out) hb); have NB102_146 := am ((by rw [hg]; exact Nat.ne_of_lt (blk_lt (g := gb102) (o := .cells #[.int .i64 a2_0, .string a2_1, .slice A2_2 l2_2.length c2_2, .string a2_3, .bool a2_4, .string a2_5, .bool a2_6, .string a2_7, .int .i64 a2_8, .bool a2_9, .string a2_10, .bool a2_11, .string a2_12, .int .i64 a2_13] 58 (0, 0)) (by (with_reducible repeat (first | refine bN ?_ _ | refine bD ?_ | refine bA ?_ _)); exact BK102.out)) : gb102 ≠ gb146)); have NB146_102 := am ((by rw [hg]; exact Nat.ne_of_gt (blk_lt (g := gb102) (o := .cells #[.int .i64 a2_0, .string a2_1, .slice A2_2 l2_2.length c2_2, .string a2_3, .bool a2_4, .string a2_5, .bool a2_6, .string a2_7, .int .i64 a2_8, .bool a2_9, .string a2_10, .bool a2_11, .string a2_12, .int .i64 a2_13] 58 (0, 0)) (by (with_reducible repeat (first | refine bN ?_ _ | refine bD ?_ | refine bA ?_ _)); exact BK102.out)) : gb146 ≠ gb102)); replace BK102 := am (blk_below (g := gb102) (o := .cells #[.int .i64 a2_0, .string a2_1, .slice A2_2 l2_2.length c2_2, .string a2_3, .bool a2_4, .string a2_5, .bool a2_6, .string a2_7, .int .i64 a2_8, .bool a2_9, .string a2_10, .bool a2_11, .string a2_12, .int .i64 a2_13] 58 (0, 0)) (by (with_reducible repeat (first | refine bN ?_ _ | refine bD ?_ | refine bA ?_ _)); exact BK102.out) hb); have NB141_146 := am ((by rw [hg]; exact Nat.ne_of_lt (blk_lt (g := gb141) (o := .cells #[.bool t137, .string t138, .int .i64 t139] 24 (0, 0)) (by (with_reducible repeat (first | refine bN ?_ _ | refine bD ?_ | refine bA ?_ _)); exact BK141.out)) : gb141 ≠ gb146)); have NB146_141 := am ((by rw [hg]; exact Nat.ne_of_gt (blk_lt (g := gb141) (o := .cells #[.bool t137, .string t138, .int .i64 t139] 24 (0, 0)) (by (with_reducible repeat (first | refine bN ?_ _ | refine bD ?_ | refine bA ?_ _)); exact BK141.out)) : gb146 ≠ gb141)); replace BK141 := am (blk_below (g := gb141) (o := .cells #[.bool t137, .string t138, .int .i64 t139] 24 (0, 0)) (by (with_reducible repeat (first | refine bN ?_ _ | refine bD ?_ | refine bA ?_ _)); exact BK141.out) hb); clear hb hbox hg; have hnb101 := NB146_101.out; have hnc101 := NB101_146.out; have hnb102 := NB146_102.out; have hnc102 := NB102_146.out; have hnb103 := NB146_141.out; have hnc103 := NB141_146.out; have hcz104_0 : w100.cell? ⟨gb146, 0, none⟩ = some (.bool false) := (blk_cell BK146.out 0).trans rfl; have hcz104_1 : w100.cell? ⟨gb146, 1, none⟩ = some (.string (⟨#[]⟩ : ByteArray)) := (blk_cell BK146.out 1).trans rfl; have hcz104_2 : w100.cell? ⟨gb146, 2, none⟩ = some (.int .i64 0) := (blk_cell BK146.out 2).trans rfl; have hfz104_0 := blk_frozen BK146.out 0; have hfz104_1 := blk_frozen BK146.out 1; have hfz104_2 := blk_frozen BK146.out 2; obtain ⟨Ao105, co105, eo105⟩ := Kd.V_slice HO_10.out; subst eo105))
        by_cases c49 : x9_4 = true
        ·subst c49
         have H1 : ((lambrequinlaw12_back.f kj23 t108).bind fun t147 => ((lambrequinref12_Same.f kj23 t147 t112).bind fun t150 => (if t150 = true then (if (t111 == t115) = true then ((lambrequinref03_Same.f kj23 t119 t123).bind fun t151 => (if t151 = true then (if (t122 == t126) = true then (if (t130 == x20_23) = true then (if (t131 == x21_23) = true then (if (t137 == t142 && (t138.toList == t143.toList && (t139 == t144))) = true then (some (t140 == t145)) else (some false)) else (some false)) else (some false)) else (some false)) else (some false))) else (some false)) else (some false)))) = some r := by rw [if_pos rfl] at H; exact H
         clear H
         have H := H1
         clear H1
         replace H := Option.bind_eq_some_iff.mp H
         obtain ⟨t147, A500, H⟩ := H
         replace H : ((lambrequinref12_Same.f kj23 t147 t112).bind fun t150 => (if t150 = true then (if (t111 == t115) = true then ((lambrequinref03_Same.f kj23 t119 t123).bind fun t151 => (if t151 = true then (if (t122 == t126) = true then (if (t130 == x20_23) = true then (if (t131 == x21_23) = true then (if (t137 == t142 && (t138.toList == t143.toList && (t139 == t144))) = true then (some (t140 == t145)) else (some false)) else (some false)) else (some false)) else (some false)) else (some false))) else (some false)) else (some false))) = some r := H
         have A50 := am A500
         clear A500
         replace H := Option.bind_eq_some_iff.mp H
         obtain ⟨t150, A510, H⟩ := H
         replace H : (if t150 = true then (if (t111 == t115) = true then ((lambrequinref03_Same.f kj23 t119 t123).bind fun t151 => (if t151 = true then (if (t122 == t126) = true then (if (t130 == x20_23) = true then (if (t131 == x21_23) = true then (if (t137 == t142 && (t138.toList == t143.toList && (t139 == t144))) = true then (some (t140 == t145)) else (some false)) else (some false)) else (some false)) else (some false)) else (some false))) else (some false)) else (some false)) = some r := H
         have A51 := am A510
         clear A510
         by_cases c52 : t150 = true
         ·subst c52
          have H1 : (if (t111 == t115) = true then ((lambrequinref03_Same.f kj23 t119 t123).bind fun t151 => (if t151 = true then (if (t122 == t126) = true then (if (t130 == x20_23) = true then (if (t131 == x21_23) = true then (if (t137 == t142 && (t138.toList == t143.toList && (t139 == t144))) = true then (some (t140 == t145)) else (some false)) else (some false)) else (some false)) else (some false)) else (some false))) else (some false)) = some r := by rw [if_pos rfl] at H; exact H
          clear H
          have H := H1
          clear H1
          by_cases c53 : (t111 == t115) = true
          ·rw [if_pos c53] at H
           have c53b0 : (t111 == t115) = true := c53
           (try (have c53b1 : decide (t111 = t115) = true := by simpa using c53))
           (try (have c53b2 : (t111 == t115) = true := by simpa using c53))
           clear c53
           replace H := Option.bind_eq_some_iff.mp H
           obtain ⟨t151, A540, H⟩ := H
           replace H : (if t151 = true then (if (t122 == t126) = true then (if (t130 == x20_23) = true then (if (t131 == x21_23) = true then (if (t137 == t142 && (t138.toList == t143.toList && (t139 == t144))) = true then (some (t140 == t145)) else (some false)) else (some false)) else (some false)) else (some false)) else (some false)) = some r := H
           have A54 := am A540
           clear A540
           by_cases c55 : t151 = true
           ·subst c55
            have H1 : (if (t122 == t126) = true then (if (t130 == x20_23) = true then (if (t131 == x21_23) = true then (if (t137 == t142 && (t138.toList == t143.toList && (t139 == t144))) = true then (some (t140 == t145)) else (some false)) else (some false)) else (some false)) else (some false)) = some r := by rw [if_pos rfl] at H; exact H
            clear H
            have H := H1
            clear H1
            by_cases c56 : (t122 == t126) = true
            ·rw [if_pos c56] at H
             have c56b0 : (t122 == t126) = true := c56
             (try (have c56b1 : decide (t122 = t126) = true := by simpa using c56))
             (try (have c56b2 : (t122 == t126) = true := by simpa using c56))
             clear c56
             by_cases c57 : (t130 == x20_23) = true
             ·rw [if_pos c57] at H
              have c57b0 : (t130 == x20_23) = true := c57
              (try (have c57b1 : decide (t130 = x20_23) = true := by simpa using c57))
              (try (have c57b2 : (t130 == x20_23) = true := by simpa using c57))
              clear c57
              by_cases c58 : (t131 == x21_23) = true
              ·rw [if_pos c58] at H
               have c58b0 : (t131 == x21_23) = true := c58
               (try (have c58b1 : decide (t131 = x21_23) = true := by simpa using c58))
               (try (have c58b2 : (t131 == x21_23) = true := by simpa using c58))
               clear c58
               by_cases c59 : (t137 == t142 && (t138.toList == t143.toList && (t139 == t144))) = true
               ·rw [if_pos c59] at H
                have c59b0 : (t137 == t142 && (t138.toList == t143.toList && (t139 == t144))) = true := c59
                (try (have c59b1 : decide (t137 = t142 && (t138.toList == t143.toList && (t139 == t144))) = true := by simpa using c59))
                (try (have c59b2 : (t137 == t142 && (t138.toList == t143.toList && (t139 == t144))) = true := by simpa using c59))
                clear c59
                obtain rfl := Option.some.inj H
                try go_wp2_with (first | (go_at_call 15; (with_reducible refine (lambrequinlaw12_back.calls kj23 _ _ t108 t147 _ ?side1 ?side2 A50.out).mono ?_); (case side1 => refine (Kd.V_reads' (e := 41) (base := w.heap.size) (ok := fun k_ => ((some k_ ≠ (v135 : Value).ownBlock ∧ (some k_ ≠ (v120 : Value).ownBlock ∧ (some k_ ≠ (v124 : Value).ownBlock ∧ (k_ ≠ gb101 ∧ (k_ ≠ gb102 ∧ k_ ≠ gb141))))) ∧ k_ ≠ gb146)) (n := t108.length) (c := co105) ?_).2.2; exact (by (with_reducible repeat (first | apply Va | apply Vn | apply Vd)); exact (Kd.V_mono (Kd.V_far (p := ⟨gb146, 2, none⟩) (Kd.V_far (p := ⟨gb146, 1, none⟩) (Kd.V_far (p := ⟨gb146, 0, none⟩) (Kd.V_mono HO_10.out (fun k_ hk => (⟨hk, hk.2⟩ : _ ∧ k_ ≠ gb146))) (fun _ hk => hk.2) _) (fun _ hk => hk.2) _) (fun _ hk => hk.2) _) (fun _ h_ => h_.1)))); (case side2 => exact (Kd.V_reads' HO_10.out).2.1); rintro e w79 ⟨v148, rfl, ho0, hb⟩; replace HO_10 := am (Kd.V_elder' (by (with_reducible repeat (first | apply Va | apply Vn | apply Vd)); exact (Kd.V_mono (Kd.V_far (p := ⟨gb146, 2, none⟩) (Kd.V_far (p := ⟨gb146, 1, none⟩) (Kd.V_far (p := ⟨gb146, 0, none⟩) (Kd.V_mono HO_10.out (fun k_ hk => (⟨hk, hk.2⟩ : _ ∧ k_ ≠ gb146))) (fun _ hk => hk.2) _) (fun _ hk => hk.2) _) (fun _ hk => hk.2) _) (fun _ h_ => h_.1))) (Kd.R_base ho0) hb); replace HO_12 := am (Kd.V_elder' (by (with_reducible repeat (first | apply Va | apply Vn | apply Vd)); exact (Kd.V_mono (Kd.V_far (p := ⟨gb146, 2, none⟩) (Kd.V_far (p := ⟨gb146, 1, none⟩) (Kd.V_far (p := ⟨gb146, 0, none⟩) (Kd.V_mono HO_12.out (fun k_ hk => (⟨hk, hk.2⟩ : _ ∧ k_ ≠ gb146))) (fun _ hk => hk.2) _) (fun _ hk => hk.2) _) (fun _ hk => hk.2) _) (fun _ h_ => h_.1))) (Kd.R_base ho0) hb); replace HO_14 := am (Kd.R_below (by (with_reducible repeat (first | apply Ra | apply Rn | apply Rd)); exact (Kd.R_mono (Kd.R_far (p := ⟨gb146, 2, none⟩) (Kd.R_far (p := ⟨gb146, 1, none⟩) (Kd.R_far (p := ⟨gb146, 0, none⟩) (Kd.R_mono HO_14.out (fun k_ hk => (⟨hk, hk.2⟩ : _ ∧ k_ ≠ gb146))) (fun _ hk => hk.2) _) (fun _ hk => hk.2) _) (fun _ hk => hk.2) _) (fun _ h_ => h_.1))) hb); replace HO_16 := am (Kd.R_below (by (with_reducible repeat (first | apply Ra | apply Rn | apply Rd)); exact (Kd.R_mono (Kd.R_far (p := ⟨gb146, 2, none⟩) (Kd.R_far (p := ⟨gb146, 1, none⟩) (Kd.R_far (p := ⟨gb146, 0, none⟩) (Kd.R_mono HO_16.out (fun k_ hk => (⟨hk, hk.2⟩ : _ ∧ k_ ≠ gb146))) (fun _ hk => hk.2) _) (fun _ hk => hk.2) _) (fun _ hk => hk.2) _) (fun _ h_ => h_.1))) hb); replace HO136 := am (Kd.R_below (by (with_reducible repeat (first | apply Ra | apply Rn | apply Rd)); exact (Kd.R_mono (Kd.R_far (p := ⟨gb146, 2, none⟩) (Kd.R_far (p := ⟨gb146, 1, none⟩) (Kd.R_far (p := ⟨gb146, 0, none⟩) (Kd.R_types HO136.out BK146.out (by decide)) (fun _ hk => hk.2) _) (fun _ hk => hk.2) _) (fun _ hk => hk.2) _) (fun _ h_ => h_.1))) hb); have HO149 := am (Kd.R_lower ho0 (below_size (by repeat (first | (with_reducible first | exact HB.out | apply lA | apply lN | apply lD | refine lS ?_ GE101.out | refine lS ?_ GE102.out | refine lS ?_ GE141.out | refine lS ?_ GE146.out) | exact HB.out)))); replace BK101 := am (blk_below (g := gb101) (o := .cells #[.string a0_0, .slice A0_1 l0_1.length c0_1] 46 (0, 0)) (by repeat (first | (with_reducible first | exact BK101.out | refine bN ?_ _ | refine bD ?_ | refine bA ?_ _) | refine blk_far ?_ NB101_146.out _ | exact BK101.out)) hb); replace BK102 := am (blk_below (g := gb102) (o := .cells #[.int .i64 a2_0, .string a2_1, .slice A2_2 l2_2.length c2_2, .string a2_3, .bool a2_4, .string a2_5, .bool a2_6, .string a2_7, .int .i64 a2_8, .bool a2_9, .string a2_10, .bool a2_11, .string a2_12, .int .i64 a2_13] 58 (0, 0)) (by repeat (first | (with_reducible first | exact BK102.out | refine bN ?_ _ | refine bD ?_ | refine bA ?_ _) | refine blk_far ?_ NB102_146.out _ | exact BK102.out)) hb); replace BK141 := am (blk_below (g := gb141) (o := .cells #[.bool t137, .string t138, .int .i64 t139] 24 (0, 0)) (by repeat (first | (with_reducible first | exact BK141.out | refine bN ?_ _ | refine bD ?_ | refine bA ?_ _) | refine blk_far ?_ NB141_146.out _ | exact BK141.out)) hb); replace BK146 := am (blk_below (g := gb146) (o := .cells #[.bool t142, .string t143, .int .i64 t144] 24 (0, 0)) (by (with_reducible repeat (first | refine bN ?_ _ | refine bD ?_ | refine bA ?_ _)); refine blk_put (cs := #[.bool t142, .string t143, .int .i64 0]) ?_ 2 _ rfl; (with_reducible repeat (first | refine bN ?_ _ | refine bD ?_ | refine bA ?_ _)); refine blk_put (cs := #[.bool t142, .string (⟨#[]⟩ : ByteArray), .int .i64 0]) ?_ 1 _ rfl; (with_reducible repeat (first | refine bN ?_ _ | refine bD ?_ | refine bA ?_ _)); refine blk_put (cs := #[.bool false, .string (⟨#[]⟩ : ByteArray), .int .i64 0]) ?_ 0 _ rfl; (with_reducible repeat (first | refine bN ?_ _ | refine bD ?_ | refine bA ?_ _)); exact BK146.out) hb); replace HB := am (below_step (by repeat (first | (with_reducible first | exact HB.out | apply lA | apply lN | apply lD | refine lS ?_ GE101.out | refine lS ?_ GE102.out | refine lS ?_ GE141.out | refine lS ?_ GE146.out) | exact HB.out)) hb); (try clear hb); (try clear hb2); (try clear hk); (try clear hi); (try clear ho0); obtain ⟨Ao80, co80, eo80⟩ := Kd.R_slice HO149.out; subst eo80; obtain ⟨Ao81, co81, eo81⟩ := Kd.V_slice HO_12.out; subst eo81) | (go_at_call 14; (with_reducible refine (lambrequinref12_Same.calls kj23 _ _ t147 _ _ t112 true _ ?side1 ?side2 ?side3 ?side4 A51.out).mono ?_); (case side1 => repeat (first | exact (Kd.R_reads' HO149.out).2.2 | (with_reducible refine Kd.C_alloc ?_ _) | (with_reducible refine Kd.C_drewN ?_ _) | (with_reducible refine Kd.C_drew ?_))); (case side2 => exact (Kd.R_reads' HO149.out).2.1); (case side3 => repeat (first | exact (Kd.V_reads' HO_12.out).2.2 | (with_reducible refine Kd.C_alloc ?_ _) | (with_reducible refine Kd.C_drewN ?_ _) | (with_reducible refine Kd.C_drew ?_))); (case side4 => exact (Kd.V_reads' HO_12.out).2.1); rintro e w' ⟨rfl, ⟨nd, rfl⟩⟩; obtain ⟨Ao82, co82, eo82⟩ := Kd.R_slice HO_14.out; subst eo82; obtain ⟨Ao83, co83, eo83⟩ := Kd.R_slice HO_16.out; subst eo83) | (go_at_call 30; (with_reducible refine (lambrequinref03_Same.calls kj23 _ _ t119 _ _ t123 true _ ?side1 ?side2 ?side3 ?side4 A54.out).mono ?_); (case side1 => repeat (first | exact (Kd.R_reads' HO_14.out).2.2 | (with_reducible refine Kd.C_alloc ?_ _) | (with_reducible refine Kd.C_drewN ?_ _) | (with_reducible refine Kd.C_drew ?_))); (case side2 => exact (Kd.R_reads' HO_14.out).2.1); (case side3 => repeat (first | exact (Kd.R_reads' HO_16.out).2.2 | (with_reducible refine Kd.C_alloc ?_ _) | (with_reducible refine Kd.C_drewN ?_ _) | (with_reducible refine Kd.C_drew ?_))); (case side4 => exact (Kd.R_reads' HO_16.out).2.1); rintro e w' ⟨rfl, ⟨nd, rfl⟩⟩; have hnb84 := NB141_101.out; have hnc84 := NB101_141.out; have hcz85_0 : w79.cell? ⟨gb141, 0, none⟩ = some (.bool t137) := (blk_cell BK141.out 0).trans rfl; have hcz85_1 : w79.cell? ⟨gb141, 1, none⟩ = some (.string t138) := (blk_cell BK141.out 1).trans rfl; have hcz85_2 : w79.cell? ⟨gb141, 2, none⟩ = some (.int .i64 t139) := (blk_cell BK141.out 2).trans rfl; have hfz85_0 := blk_frozen BK141.out 0; have hfz85_1 := blk_frozen BK141.out 1; have hfz85_2 := blk_frozen BK141.out 2; have hcz86_0 : w79.cell? ⟨gb146, 0, none⟩ = some (.bool t142) := (blk_cell BK146.out 0).trans rfl; have hcz86_1 : w79.cell? ⟨gb146, 1, none⟩ = some (.string t143) := (blk_cell BK146.out 1).trans rfl; have hcz86_2 : w79.cell? ⟨gb146, 2, none⟩ = some (.int .i64 t144) := (blk_cell BK146.out 2).trans rfl; have hfz86_0 := blk_frozen BK146.out 0; have hfz86_1 := blk_frozen BK146.out 1; have hfz86_2 := blk_frozen BK146.out 2))
                go_ret
                exact ⟨by first | rfl | (simp [errW_none, errW_some] <;> rfl) | (simp [*, errW_none, errW_some] <;> rfl), by repeat (first | (with_reducible first | exact HB.out | apply lA | apply lN | apply lD | refine lS ?_ GE101.out | refine lS ?_ GE102.out | refine lS ?_ GE141.out | refine lS ?_ GE146.out) | exact HB.out)⟩
               ·rw [if_neg c59] at H
                have c59b0 : (t137 == t142 && (t138.toList == t143.toList && (t139 == t144))) = false := by simpa using c59
                (try (have c59b1 : decide (t137 = t142 && (t138.toList == t143.toList && (t139 == t144))) = false := by simpa using c59))
                (try (have c59b2 : (t137 == t142 && (t138.toList == t143.toList && (t139 == t144))) = false := by simpa using c59))
                (try (have c59b3 : ¬ (t137 = t142 && (t138.toList == t143.toList && (t139 == t144))) := by simpa using c59))
                clear c59
                obtain rfl := Option.some.inj H
                try go_wp2_with (first | (go_at_call 15; (with_reducible refine (lambrequinlaw12_back.calls kj23 _ _ t108 t147 _ ?side1 ?side2 A50.out).mono ?_); (case side1 => refine (Kd.V_reads' (e := 41) (base := w.heap.size) (ok := fun k_ => ((some k_ ≠ (v135 : Value).ownBlock ∧ (some k_ ≠ (v120 : Value).ownBlock ∧ (some k_ ≠ (v124 : Value).ownBlock ∧ (k_ ≠ gb101 ∧ (k_ ≠ gb102 ∧ k_ ≠ gb141))))) ∧ k_ ≠ gb146)) (n := t108.length) (c := co105) ?_).2.2; exact (by (with_reducible repeat (first | apply Va | apply Vn | apply Vd)); exact (Kd.V_mono (Kd.V_far (p := ⟨gb146, 2, none⟩) (Kd.V_far (p := ⟨gb146, 1, none⟩) (Kd.V_far (p := ⟨gb146, 0, none⟩) (Kd.V_mono HO_10.out (fun k_ hk => (⟨hk, hk.2⟩ : _ ∧ k_ ≠ gb146))) (fun _ hk => hk.2) _) (fun _ hk => hk.2) _) (fun _ hk => hk.2) _) (fun _ h_ => h_.1)))); (case side2 => exact (Kd.V_reads' HO_10.out).2.1); rintro e w106 ⟨v148, rfl, ho0, hb⟩; replace HO_10 := am (Kd.V_elder' (by (with_reducible repeat (first | apply Va | apply Vn | apply Vd)); exact (Kd.V_mono (Kd.V_far (p := ⟨gb146, 2, none⟩) (Kd.V_far (p := ⟨gb146, 1, none⟩) (Kd.V_far (p := ⟨gb146, 0, none⟩) (Kd.V_mono HO_10.out (fun k_ hk => (⟨hk, hk.2⟩ : _ ∧ k_ ≠ gb146))) (fun _ hk => hk.2) _) (fun _ hk => hk.2) _) (fun _ hk => hk.2) _) (fun _ h_ => h_.1))) (Kd.R_base ho0) hb); replace HO_12 := am (Kd.V_elder' (by (with_reducible repeat (first | apply Va | apply Vn | apply Vd)); exact (Kd.V_mono (Kd.V_far (p := ⟨gb146, 2, none⟩) (Kd.V_far (p := ⟨gb146, 1, none⟩) (Kd.V_far (p := ⟨gb146, 0, none⟩) (Kd.V_mono HO_12.out (fun k_ hk => (⟨hk, hk.2⟩ : _ ∧ k_ ≠ gb146))) (fun _ hk => hk.2) _) (fun _ hk => hk.2) _) (fun _ hk => hk.2) _) (fun _ h_ => h_.1))) (Kd.R_base ho0) hb); replace HO_14 := am (Kd.R_below (by (with_reducible repeat (first | apply Ra | apply Rn | apply Rd)); exact (Kd.R_mono (Kd.R_far (p := ⟨gb146, 2, none⟩) (Kd.R_far (p := ⟨gb146, 1, none⟩) (Kd.R_far (p := ⟨gb146, 0, none⟩) (Kd.R_mono HO_14.out (fun k_ hk => (⟨hk, hk.2⟩ : _ ∧ k_ ≠ gb146))) (fun _ hk => hk.2) _) (fun _ hk => hk.2) _) (fun _ hk => hk.2) _) (fun _ h_ => h_.1))) hb); replace HO_16 := am (Kd.R_below (by (with_reducible repeat (first | apply Ra | apply Rn | apply Rd)); exact (Kd.R_mono (Kd.R_far (p := ⟨gb146, 2, none⟩) (Kd.R_far (p := ⟨gb146, 1, none⟩) (Kd.R_far (p := ⟨gb146, 0, none⟩) (Kd.R_mono HO_16.out (fun k_ hk => (⟨hk, hk.2⟩ : _ ∧ k_ ≠ gb146))) (fun _ hk => hk.2) _) (fun _ hk => hk.2) _) (fun _ hk => hk.2) _) (fun _ h_ => h_.1))) hb); replace HO136 := am (Kd.R_below (by (with_reducible repeat (first | apply Ra | apply Rn | apply Rd)); exact (Kd.R_mono (Kd.R_far (p := ⟨gb146, 2, none⟩) (Kd.R_far (p := ⟨gb146, 1, none⟩) (Kd.R_far (p := ⟨gb146, 0, none⟩) (Kd.R_types HO136.out BK146.out (by decide)) (fun _ hk => hk.2) _) (fun _ hk => hk.2) _) (fun _ hk => hk.2) _) (fun _ h_ => h_.1))) hb); have HO149 := am (Kd.R_lower ho0 (below_size (by repeat (first | (with_reducible first | exact HB.out | apply lA | apply lN | apply lD | refine lS ?_ GE101.out | refine lS ?_ GE102.out | refine lS ?_ GE141.out | refine lS ?_ GE146.out) | exact HB.out)))); replace BK101 := am (blk_below (g := gb101) (o := .cells #[.string a0_0, .slice A0_1 l0_1.length c0_1] 46 (0, 0)) (by repeat (first | (with_reducible first | exact BK101.out | refine bN ?_ _ | refine bD ?_ | refine bA ?_ _) | refine blk_far ?_ NB101_146.out _ | exact BK101.out)) hb); replace BK102 := am (blk_below (g := gb102) (o := .cells #[.int .i64 a2_0, .string a2_1, .slice A2_2 l2_2.length c2_2, .string a2_3, .bool a2_4, .string a2_5, .bool a2_6, .string a2_7, .int .i64 a2_8, .bool a2_9, .string a2_10, .bool a2_11, .string a2_12, .int .i64 a2_13] 58 (0, 0)) (by repeat (first | (with_reducible first | exact BK102.out | refine bN ?_ _ | refine bD ?_ | refine bA ?_ _) | refine blk_far ?_ NB102_146.out _ | exact BK102.out)) hb); replace BK141 := am (blk_below (g := gb141) (o := .cells #[.bool t137, .string t138, .int .i64 t139] 24 (0, 0)) (by repeat (first | (with_reducible first | exact BK141.out | refine bN ?_ _ | refine bD ?_ | refine bA ?_ _) | refine blk_far ?_ NB141_146.out _ | exact BK141.out)) hb); replace BK146 := am (blk_below (g := gb146) (o := .cells #[.bool t142, .string t143, .int .i64 t144] 24 (0, 0)) (by (with_reducible repeat (first | refine bN ?_ _ | refine bD ?_ | refine bA ?_ _)); refine blk_put (cs := #[.bool t142, .string t143, .int .i64 0]) ?_ 2 _ rfl; (with_reducible repeat (first | refine bN ?_ _ | refine bD ?_ | refine bA ?_ _)); refine blk_put (cs := #[.bool t142, .string (⟨#[]⟩ : ByteArray), .int .i64 0]) ?_ 1 _ rfl; (with_reducible repeat (first | refine bN ?_ _ | refine bD ?_ | refine bA ?_ _)); refine blk_put (cs := #[.bool false, .string (⟨#[]⟩ : ByteArray), .int .i64 0]) ?_ 0 _ rfl; (with_reducible repeat (first | refine bN ?_ _ | refine bD ?_ | refine bA ?_ _)); exact BK146.out) hb); replace HB := am (below_step (by repeat (first | (with_reducible first | exact HB.out | apply lA | apply lN | apply lD | refine lS ?_ GE101.out | refine lS ?_ GE102.out | refine lS ?_ GE141.out | refine lS ?_ GE146.out) | exact HB.out)) hb); (try clear hb); (try clear hb2); (try clear hk); (try clear hi); (try clear ho0); obtain ⟨Ao107, co107, eo107⟩ := Kd.R_slice HO149.out; subst eo107; obtain ⟨Ao108, co108, eo108⟩ := Kd.V_slice HO_12.out; subst eo108) | (go_at_call 14; (with_reducible refine (lambrequinref12_Same.calls kj23 _ _ t147 _ _ t112 true _ ?side1 ?side2 ?side3 ?side4 A51.out).mono ?_); (case side1 => repeat (first | exact (Kd.R_reads' HO149.out).2.2 | (with_reducible refine Kd.C_alloc ?_ _) | (with_reducible refine Kd.C_drewN ?_ _) | (with_reducible refine Kd.C_drew ?_))); (case side2 => exact (Kd.R_reads' HO149.out).2.1); (case side3 => repeat (first | exact (Kd.V_reads' HO_12.out).2.2 | (with_reducible refine Kd.C_alloc ?_ _) | (with_reducible refine Kd.C_drewN ?_ _) | (with_reducible refine Kd.C_drew ?_))); (case side4 => exact (Kd.V_reads' HO_12.out).2.1); rintro e w' ⟨rfl, ⟨nd, rfl⟩⟩; obtain ⟨Ao109, co109, eo109⟩ := Kd.R_slice HO_14.out; subst eo109; obtain ⟨Ao110, co110, eo110⟩ := Kd.R_slice HO_16.out; subst eo110) | (go_at_call 30; (with_reducible refine (lambrequinref03_Same.calls kj23 _ _ t119 _ _ t123 true _ ?side1 ?side2 ?side3 ?side4 A54.out).mono ?_); (case side1 => repeat (first | exact (Kd.R_reads' HO_14.out).2.2 | (with_reducible refine Kd.C_alloc ?_ _) | (with_reducible refine Kd.C_drewN ?_ _) | (with_reducible refine Kd.C_drew ?_))); (case side2 => exact (Kd.R_reads' HO_14.out).2.1); (case side3 => repeat (first | exact (Kd.R_reads' HO_16.out).2.2 | (with_reducible refine Kd.C_alloc ?_ _) | (with_reducible refine Kd.C_drewN ?_ _) | (with_reducible refine Kd.C_drew ?_))); (case side4 => exact (Kd.R_reads' HO_16.out).2.1); rintro e w' ⟨rfl, ⟨nd, rfl⟩⟩; have hnb111 := NB141_101.out; have hnc111 := NB101_141.out; have hcz112_0 : w106.cell? ⟨gb141, 0, none⟩ = some (.bool t137) := (blk_cell BK141.out 0).trans rfl; have hcz112_1 : w106.cell? ⟨gb141, 1, none⟩ = some (.string t138) := (blk_cell BK141.out 1).trans rfl; have hcz112_2 : w106.cell? ⟨gb141, 2, none⟩ = some (.int .i64 t139) := (blk_cell BK141.out 2).trans rfl; have hfz112_0 := blk_frozen BK141.out 0; have hfz112_1 := blk_frozen BK141.out 1; have hfz112_2 := blk_frozen BK141.out 2; have hcz113_0 : w106.cell? ⟨gb146, 0, none⟩ = some (.bool t142) := (blk_cell BK146.out 0).trans rfl; have hcz113_1 : w106.cell? ⟨gb146, 1, none⟩ = some (.string t143) := (blk_cell BK146.out 1).trans rfl; have hcz113_2 : w106.cell? ⟨gb146, 2, none⟩ = some (.int .i64 t144) := (blk_cell BK146.out 2).trans rfl; have hfz113_0 := blk_frozen BK146.out 0; have hfz113_1 := blk_frozen BK146.out 1; have hfz113_2 := blk_frozen BK146.out 2))
                go_ret
                exact ⟨by first | rfl | (simp [errW_none, errW_some] <;> rfl) | (simp [*, errW_none, errW_some] <;> rfl), by repeat (first | (with_reducible first | exact HB.out | apply lA | apply lN | apply lD | refine lS ?_ GE101.out | refine lS ?_ GE102.out | refine lS ?_ GE141.out | refine lS ?_ GE146.out) | exact HB.out)⟩
              ·rw [if_neg c58] at H
               have c58b0 : (t131 == x21_23) = false := by simpa using c58
               (try (have c58b1 : decide (t131 = x21_23) = false := by simpa using c58))
               (try (have c58b2 : (t131 == x21_23) = false := by simpa using c58))
               (try (have c58b3 : ¬ (t131 = x21_23) := by simpa using c58))
               clear c58
               obtain rfl := Option.some.inj H
               try go_wp2_with (first | (go_at_call 15; (with_reducible refine (lambrequinlaw12_back.calls kj23 _ _ t108 t147 _ ?side1 ?side2 A50.out).mono ?_); (case side1 => refine (Kd.V_reads' (e := 41) (base := w.heap.size) (ok := fun k_ => ((some k_ ≠ (v135 : Value).ownBlock ∧ (some k_ ≠ (v120 : Value).ownBlock ∧ (some k_ ≠ (v124 : Value).ownBlock ∧ (k_ ≠ gb101 ∧ (k_ ≠ gb102 ∧ k_ ≠ gb141))))) ∧ k_ ≠ gb146)) (n := t108.length) (c := co105) ?_).2.2; exact (by (with_reducible repeat (first | apply Va | apply Vn | apply Vd)); exact (Kd.V_mono (Kd.V_far (p := ⟨gb146, 2, none⟩) (Kd.V_far (p := ⟨gb146, 1, none⟩) (Kd.V_far (p := ⟨gb146, 0, none⟩) (Kd.V_mono HO_10.out (fun k_ hk => (⟨hk, hk.2⟩ : _ ∧ k_ ≠ gb146))) (fun _ hk => hk.2) _) (fun _ hk => hk.2) _) (fun _ hk => hk.2) _) (fun _ h_ => h_.1)))); (case side2 => exact (Kd.V_reads' HO_10.out).2.1); rintro e w133 ⟨v148, rfl, ho0, hb⟩; replace HO_10 := am (Kd.V_elder' (by (with_reducible repeat (first | apply Va | apply Vn | apply Vd)); exact (Kd.V_mono (Kd.V_far (p := ⟨gb146, 2, none⟩) (Kd.V_far (p := ⟨gb146, 1, none⟩) (Kd.V_far (p := ⟨gb146, 0, none⟩) (Kd.V_mono HO_10.out (fun k_ hk => (⟨hk, hk.2⟩ : _ ∧ k_ ≠ gb146))) (fun _ hk => hk.2) _) (fun _ hk => hk.2) _) (fun _ hk => hk.2) _) (fun _ h_ => h_.1))) (Kd.R_base ho0) hb); replace HO_12 := am (Kd.V_elder' (by (with_reducible repeat (first | apply Va | apply Vn | apply Vd)); exact (Kd.V_mono (Kd.V_far (p := ⟨gb146, 2, none⟩) (Kd.V_far (p := ⟨gb146, 1, none⟩) (Kd.V_far (p := ⟨gb146, 0, none⟩) (Kd.V_mono HO_12.out (fun k_ hk => (⟨hk, hk.2⟩ : _ ∧ k_ ≠ gb146))) (fun _ hk => hk.2) _) (fun _ hk => hk.2) _) (fun _ hk => hk.2) _) (fun _ h_ => h_.1))) (Kd.R_base ho0) hb); replace HO_14 := am (Kd.R_below (by (with_reducible repeat (first | apply Ra | apply Rn | apply Rd)); exact (Kd.R_mono (Kd.R_far (p := ⟨gb146, 2, none⟩) (Kd.R_far (p := ⟨gb146, 1, none⟩) (Kd.R_far (p := ⟨gb146, 0, none⟩) (Kd.R_mono HO_14.out (fun k_ hk => (⟨hk, hk.2⟩ : _ ∧ k_ ≠ gb146))) (fun _ hk => hk.2) _) (fun _ hk => hk.2) _) (fun _ hk => hk.2) _) (fun _ h_ => h_.1))) hb); replace HO_16 := am (Kd.R_below (by (with_reducible repeat (first | apply Ra | apply Rn | apply Rd)); exact (Kd.R_mono (Kd.R_far (p := ⟨gb146, 2, none⟩) (Kd.R_far (p := ⟨gb146, 1, none⟩) (Kd.R_far (p := ⟨gb146, 0, none⟩) (Kd.R_mono HO_16.out (fun k_ hk => (⟨hk, hk.2⟩ : _ ∧ k_ ≠ gb146))) (fun _ hk => hk.2) _) (fun _ hk => hk.2) _) (fun _ hk => hk.2) _) (fun _ h_ => h_.1))) hb); replace HO136 := am (Kd.R_below (by (with_reducible repeat (first | apply Ra | apply Rn | apply Rd)); exact (Kd.R_mono (Kd.R_far (p := ⟨gb146, 2, none⟩) (Kd.R_far (p := ⟨gb146, 1, none⟩) (Kd.R_far (p := ⟨gb146, 0, none⟩) (Kd.R_types HO136.out BK146.out (by decide)) (fun _ hk => hk.2) _) (fun _ hk => hk.2) _) (fun _ hk => hk.2) _) (fun _ h_ => h_.1))) hb); have HO149 := am (Kd.R_lower ho0 (below_size (by repeat (first | (with_reducible first | exact HB.out | apply lA | apply lN | apply lD | refine lS ?_ GE101.out | refine lS ?_ GE102.out | refine lS ?_ GE141.out | refine lS ?_ GE146.out) | exact HB.out)))); replace BK101 := am (blk_below (g := gb101) (o := .cells #[.string a0_0, .slice A0_1 l0_1.length c0_1] 46 (0, 0)) (by repeat (first | (with_reducible first | exact BK101.out | refine bN ?_ _ | refine bD ?_ | refine bA ?_ _) | refine blk_far ?_ NB101_146.out _ | exact BK101.out)) hb); replace BK102 := am (blk_below (g := gb102) (o := .cells #[.int .i64 a2_0, .string a2_1, .slice A2_2 l2_2.length c2_2, .string a2_3, .bool a2_4, .string a2_5, .bool a2_6, .string a2_7, .int .i64 a2_8, .bool a2_9, .string a2_10, .bool a2_11, .string a2_12, .int .i64 a2_13] 58 (0, 0)) (by repeat (first | (with_reducible first | exact BK102.out | refine bN ?_ _ | refine bD ?_ | refine bA ?_ _) | refine blk_far ?_ NB102_146.out _ | exact BK102.out)) hb); replace BK141 := am (blk_below (g := gb141) (o := .cells #[.bool t137, .string t138, .int .i64 t139] 24 (0, 0)) (by repeat (first | (with_reducible first | exact BK141.out | refine bN ?_ _ | refine bD ?_ | refine bA ?_ _) | refine blk_far ?_ NB141_146.out _ | exact BK141.out)) hb); replace BK146 := am (blk_below (g := gb146) (o := .cells #[.bool t142, .string t143, .int .i64 t144] 24 (0, 0)) (by (with_reducible repeat (first | refine bN ?_ _ | refine bD ?_ | refine bA ?_ _)); refine blk_put (cs := #[.bool t142, .string t143, .int .i64 0]) ?_ 2 _ rfl; (with_reducible repeat (first | refine bN ?_ _ | refine bD ?_ | refine bA ?_ _)); refine blk_put (cs := #[.bool t142, .string (⟨#[]⟩ : ByteArray), .int .i64 0]) ?_ 1 _ rfl; (with_reducible repeat (first | refine bN ?_ _ | refine bD ?_ | refine bA ?_ _)); refine blk_put (cs := #[.bool false, .string (⟨#[]⟩ : ByteArray), .int .i64 0]) ?_ 0 _ rfl; (with_reducible repeat (first | refine bN ?_ _ | refine bD ?_ | refine bA ?_ _)); exact BK146.out) hb); replace HB := am (below_step (by repeat (first | (with_reducible first | exact HB.out | apply lA | apply lN | apply lD | refine lS ?_ GE101.out | refine lS ?_ GE102.out | refine lS ?_ GE141.out | refine lS ?_ GE146.out) | exact HB.out)) hb); (try clear hb); (try clear hb2); (try clear hk); (try clear hi); (try clear ho0); obtain ⟨Ao134, co134, eo134⟩ := Kd.R_slice HO149.out; subst eo134; obtain ⟨Ao135, co135, eo135⟩ := Kd.V_slice HO_12.out; subst eo135) | (go_at_call 14; (with_reducible refine (lambrequinref12_Same.calls kj23 _ _ t147 _ _ t112 true _ ?side1 ?side2 ?side3 ?side4 A51.out).mono ?_); (case side1 => repeat (first | exact (Kd.R_reads' HO149.out).2.2 | (with_reducible refine Kd.C_alloc ?_ _) | (with_reducible refine Kd.C_drewN ?_ _) | (with_reducible refine Kd.C_drew ?_))); (case side2 => exact (Kd.R_reads' HO149.out).2.1); (case side3 => repeat (first | exact (Kd.V_reads' HO_12.out).2.2 | (with_reducible refine Kd.C_alloc ?_ _) | (with_reducible refine Kd.C_drewN ?_ _) | (with_reducible refine Kd.C_drew ?_))); (case side4 => exact (Kd.V_reads' HO_12.out).2.1); rintro e w' ⟨rfl, ⟨nd, rfl⟩⟩; obtain ⟨Ao136, co136, eo136⟩ := Kd.R_slice HO_14.out; subst eo136; obtain ⟨Ao137, co137, eo137⟩ := Kd.R_slice HO_16.out; subst eo137) | (go_at_call 30; (with_reducible refine (lambrequinref03_Same.calls kj23 _ _ t119 _ _ t123 true _ ?side1 ?side2 ?side3 ?side4 A54.out).mono ?_); (case side1 => repeat (first | exact (Kd.R_reads' HO_14.out).2.2 | (with_reducible refine Kd.C_alloc ?_ _) | (with_reducible refine Kd.C_drewN ?_ _) | (with_reducible refine Kd.C_drew ?_))); (case side2 => exact (Kd.R_reads' HO_14.out).2.1); (case side3 => repeat (first | exact (Kd.R_reads' HO_16.out).2.2 | (with_reducible refine Kd.C_alloc ?_ _) | (with_reducible refine Kd.C_drewN ?_ _) | (with_reducible refine Kd.C_drew ?_))); (case side4 => exact (Kd.R_reads' HO_16.out).2.1); rintro e w' ⟨rfl, ⟨nd, rfl⟩⟩))
               go_ret
               exact ⟨by first | rfl | (simp [errW_none, errW_some] <;> rfl) | (simp [*, errW_none, errW_some] <;> rfl), by repeat (first | (with_reducible first | exact HB.out | apply lA | apply lN | apply lD | refine lS ?_ GE101.out | refine lS ?_ GE102.out | refine lS ?_ GE141.out | refine lS ?_ GE146.out) | exact HB.out)⟩
             ·rw [if_neg c57] at H
              have c57b0 : (t130 == x20_23) = false := by simpa using c57
              (try (have c57b1 : decide (t130 = x20_23) = false := by simpa using c57))
              (try (have c57b2 : (t130 == x20_23) = false := by simpa using c57))
              (try (have c57b3 : ¬ (t130 = x20_23) := by simpa using c57))
              clear c57
              obtain rfl := Option.some.inj H
              try go_wp2_with (first | (go_at_call 15; (with_reducible refine (lambrequinlaw12_back.calls kj23 _ _ t108 t147 _ ?side1 ?side2 A50.out).mono ?_); (case side1 => refine (Kd.V_reads' (e := 41) (base := w.heap.size) (ok := fun k_ => ((some k_ ≠ (v135 : Value).ownBlock ∧ (some k_ ≠ (v120 : Value).ownBlock ∧ (some k_ ≠ (v124 : Value).ownBlock ∧ (k_ ≠ gb101 ∧ (k_ ≠ gb102 ∧ k_ ≠ gb141))))) ∧ k_ ≠ gb146)) (n := t108.length) (c := co105) ?_).2.2; exact (by (with_reducible repeat (first | apply Va | apply Vn | apply Vd)); exact (Kd.V_mono (Kd.V_far (p := ⟨gb146, 2, none⟩) (Kd.V_far (p := ⟨gb146, 1, none⟩) (Kd.V_far (p := ⟨gb146, 0, none⟩) (Kd.V_mono HO_10.out (fun k_ hk => (⟨hk, hk.2⟩ : _ ∧ k_ ≠ gb146))) (fun _ hk => hk.2) _) (fun _ hk => hk.2) _) (fun _ hk => hk.2) _) (fun _ h_ => h_.1)))); (case side2 => exact (Kd.V_reads' HO_10.out).2.1); rintro e w157 ⟨v148, rfl, ho0, hb⟩; replace HO_10 := am (Kd.V_elder' (by (with_reducible repeat (first | apply Va | apply Vn | apply Vd)); exact (Kd.V_mono (Kd.V_far (p := ⟨gb146, 2, none⟩) (Kd.V_far (p := ⟨gb146, 1, none⟩) (Kd.V_far (p := ⟨gb146, 0, none⟩) (Kd.V_mono HO_10.out (fun k_ hk => (⟨hk, hk.2⟩ : _ ∧ k_ ≠ gb146))) (fun _ hk => hk.2) _) (fun _ hk => hk.2) _) (fun _ hk => hk.2) _) (fun _ h_ => h_.1))) (Kd.R_base ho0) hb); replace HO_12 := am (Kd.V_elder' (by (with_reducible repeat (first | apply Va | apply Vn | apply Vd)); exact (Kd.V_mono (Kd.V_far (p := ⟨gb146, 2, none⟩) (Kd.V_far (p := ⟨gb146, 1, none⟩) (Kd.V_far (p := ⟨gb146, 0, none⟩) (Kd.V_mono HO_12.out (fun k_ hk => (⟨hk, hk.2⟩ : _ ∧ k_ ≠ gb146))) (fun _ hk => hk.2) _) (fun _ hk => hk.2) _) (fun _ hk => hk.2) _) (fun _ h_ => h_.1))) (Kd.R_base ho0) hb); replace HO_14 := am (Kd.R_below (by (with_reducible repeat (first | apply Ra | apply Rn | apply Rd)); exact (Kd.R_mono (Kd.R_far (p := ⟨gb146, 2, none⟩) (Kd.R_far (p := ⟨gb146, 1, none⟩) (Kd.R_far (p := ⟨gb146, 0, none⟩) (Kd.R_mono HO_14.out (fun k_ hk => (⟨hk, hk.2⟩ : _ ∧ k_ ≠ gb146))) (fun _ hk => hk.2) _) (fun _ hk => hk.2) _) (fun _ hk => hk.2) _) (fun _ h_ => h_.1))) hb); replace HO_16 := am (Kd.R_below (by (with_reducible repeat (first | apply Ra | apply Rn | apply Rd)); exact (Kd.R_mono (Kd.R_far (p := ⟨gb146, 2, none⟩) (Kd.R_far (p := ⟨gb146, 1, none⟩) (Kd.R_far (p := ⟨gb146, 0, none⟩) (Kd.R_mono HO_16.out (fun k_ hk => (⟨hk, hk.2⟩ : _ ∧ k_ ≠ gb146))) (fun _ hk => hk.2) _) (fun _ hk => hk.2) _) (fun _ hk => hk.2) _) (fun _ h_ => h_.1))) hb); replace HO136 := am (Kd.R_below (by (with_reducible repeat (first | apply Ra | apply Rn | apply Rd)); exact (Kd.R_mono (Kd.R_far (p := ⟨gb146, 2, none⟩) (Kd.R_far (p := ⟨gb146, 1, none⟩) (Kd.R_far (p := ⟨gb146, 0, none⟩) (Kd.R_types HO136.out BK146.out (by decide)) (fun _ hk => hk.2) _) (fun _ hk => hk.2) _) (fun _ hk => hk.2) _) (fun _ h_ => h_.1))) hb); have HO149 := am (Kd.R_lower ho0 (below_size (by repeat (first | (with_reducible first | exact HB.out | apply lA | apply lN | apply lD | refine lS ?_ GE101.out | refine lS ?_ GE102.out | refine lS ?_ GE141.out | refine lS ?_ GE146.out) | exact HB.out)))); replace BK101 := am (blk_below (g := gb101) (o := .cells #[.string a0_0, .slice A0_1 l0_1.length c0_1] 46 (0, 0)) (by repeat (first | (with_reducible first | exact BK101.out | refine bN ?_ _ | refine bD ?_ | refine bA ?_ _) | refine blk_far ?_ NB101_146.out _ | exact BK101.out)) hb); replace BK102 := am (blk_below (g := gb102) (o := .cells #[.int .i64 a2_0, .string a2_1, .slice A2_2 l2_2.length c2_2, .string a2_3, .bool a2_4, .string a2_5, .bool a2_6, .string a2_7, .int .i64 a2_8, .bool a2_9, .string a2_10, .bool a2_11, .string a2_12, .int .i64 a2_13] 58 (0, 0)) (by repeat (first | (with_reducible first | exact BK102.out | refine bN ?_ _ | refine bD ?_ | refine bA ?_ _) | refine blk_far ?_ NB102_146.out _ | exact BK102.out)) hb); replace BK141 := am (blk_below (g := gb141) (o := .cells #[.bool t137, .string t138, .int .i64 t139] 24 (0, 0)) (by repeat (first | (with_reducible first | exact BK141.out | refine bN ?_ _ | refine bD ?_ | refine bA ?_ _) | refine blk_far ?_ NB141_146.out _ | exact BK141.out)) hb); replace BK146 := am (blk_below (g := gb146) (o := .cells #[.bool t142, .string t143, .int .i64 t144] 24 (0, 0)) (by (with_reducible repeat (first | refine bN ?_ _ | refine bD ?_ | refine bA ?_ _)); refine blk_put (cs := #[.bool t142, .string t143, .int .i64 0]) ?_ 2 _ rfl; (with_reducible repeat (first | refine bN ?_ _ | refine bD ?_ | refine bA ?_ _)); refine blk_put (cs := #[.bool t142, .string (⟨#[]⟩ : ByteArray), .int .i64 0]) ?_ 1 _ rfl; (with_reducible repeat (first | refine bN ?_ _ | refine bD ?_ | refine bA ?_ _)); refine blk_put (cs := #[.bool false, .string (⟨#[]⟩ : ByteArray), .int .i64 0]) ?_ 0 _ rfl; (with_reducible repeat (first | refine bN ?_ _ | refine bD ?_ | refine bA ?_ _)); exact BK146.out) hb); replace HB := am (below_step (by repeat (first | (with_reducible first | exact HB.out | apply lA | apply lN | apply lD | refine lS ?_ GE101.out | refine lS ?_ GE102.out | refine lS ?_ GE141.out | refine lS ?_ GE146.out) | exact HB.out)) hb); (try clear hb); (try clear hb2); (try clear hk); (try clear hi); (try clear ho0); obtain ⟨Ao158, co158, eo158⟩ := Kd.R_slice HO149.out; subst eo158; obtain ⟨Ao159, co159, eo159⟩ := Kd.V_slice HO_12.out; subst eo159) | (go_at_call 14; (with_reducible refine (lambrequinref12_Same.calls kj23 _ _ t147 _ _ t112 true _ ?side1 ?side2 ?side3 ?side4 A51.out).mono ?_); (case side1 => repeat (first | exact (Kd.R_reads' HO149.out).2.2 | (with_reducible refine Kd.C_alloc ?_ _) | (with_reducible refine Kd.C_drewN ?_ _) | (with_reducible refine Kd.C_drew ?_))); (case side2 => exact (Kd.R_reads' HO149.out).2.1); (case side3 => repeat (first | exact (Kd.V_reads' HO_12.out).2.2 | (with_reducible refine Kd.C_alloc ?_ _) | (with_reducible refine Kd.C_drewN ?_ _) | (with_reducible refine Kd.C_drew ?_))); (case side4 => exact (Kd.V_reads' HO_12.out).2.1); rintro e w' ⟨rfl, ⟨nd, rfl⟩⟩; obtain ⟨Ao160, co160, eo160⟩ := Kd.R_slice HO_14.out; subst eo160; obtain ⟨Ao161, co161, eo161⟩ := Kd.R_slice HO_16.out; subst eo161) | (go_at_call 30; (with_reducible refine (lambrequinref03_Same.calls kj23 _ _ t119 _ _ t123 true _ ?side1 ?side2 ?side3 ?side4 A54.out).mono ?_); (case side1 => repeat (first | exact (Kd.R_reads' HO_14.out).2.2 | (with_reducible refine Kd.C_alloc ?_ _) | (with_reducible refine Kd.C_drewN ?_ _) | (with_reducible refine Kd.C_drew ?_))); (case side2 => exact (Kd.R_reads' HO_14.out).2.1); (case side3 => repeat (first | exact (Kd.R_reads' HO_16.out).2.2 | (with_reducible refine Kd.C_alloc ?_ _) | (with_reducible refine Kd.C_drewN ?_ _) | (with_reducible refine Kd.C_drew ?_))); (case side4 => exact (Kd.R_reads' HO_16.out).2.1); rintro e w' ⟨rfl, ⟨nd, rfl⟩⟩))
              go_ret
              exact ⟨by first | rfl | (simp [errW_none, errW_some] <;> rfl) | (simp [*, errW_none, errW_some] <;> rfl), by repeat (first | (with_reducible first | exact HB.out | apply lA | apply lN | apply lD | refine lS ?_ GE101.out | refine lS ?_ GE102.out | refine lS ?_ GE141.out | refine lS ?_ GE146.out) | exact HB.out)⟩
            ·rw [if_neg c56] at H
             have c56b0 : (t122 == t126) = false := by simpa using c56
             (try (have c56b1 : decide (t122 = t126) = false := by simpa using c56))
             (try (have c56b2 : (t122 == t126) = false := by simpa using c56))
             (try (have c56b3 : ¬ (t122 = t126) := by simpa using c56))
             clear c56
             obtain rfl := Option.some.inj H
             try go_wp2_with (first | (go_at_call 15; (with_reducible refine (lambrequinlaw12_back.calls kj23 _ _ t108 t147 _ ?side1 ?side2 A50.out).mono ?_); (case side1 => refine (Kd.V_reads' (e := 41) (base := w.heap.size) (ok := fun k_ => ((some k_ ≠ (v135 : Value).ownBlock ∧ (some k_ ≠ (v120 : Value).ownBlock ∧ (some k_ ≠ (v124 : Value).ownBlock ∧ (k_ ≠ gb101 ∧ (k_ ≠ gb102 ∧ k_ ≠ gb141))))) ∧ k_ ≠ gb146)) (n := t108.length) (c := co105) ?_).2.2; exact (by (with_reducible repeat (first | apply Va | apply Vn | apply Vd)); exact (Kd.V_mono (Kd.V_far (p := ⟨gb146, 2, none⟩) (Kd.V_far (p := ⟨gb146, 1, none⟩) (Kd.V_far (p := ⟨gb146, 0, none⟩) (Kd.V_mono HO_10.out (fun k_ hk => (⟨hk, hk.2⟩ : _ ∧ k_ ≠ gb146))) (fun _ hk => hk.2) _) (fun _ hk => hk.2) _) (fun _ hk => hk.2) _) (fun _ h_ => h_.1)))); (case side2 => exact (Kd.V_reads' HO_10.out).2.1); rintro e w181 ⟨v148, rfl, ho0, hb⟩; replace HO_10 := am (Kd.V_elder' (by (with_reducible repeat (first | apply Va | apply Vn | apply Vd)); exact (Kd.V_mono (Kd.V_far (p := ⟨gb146, 2, none⟩) (Kd.V_far (p := ⟨gb146, 1, none⟩) (Kd.V_far (p := ⟨gb146, 0, none⟩) (Kd.V_mono HO_10.out (fun k_ hk => (⟨hk, hk.2⟩ : _ ∧ k_ ≠ gb146))) (fun _ hk => hk.2) _) (fun _ hk => hk.2) _) (fun _ hk => hk.2) _) (fun _ h_ => h_.1))) (Kd.R_base ho0) hb); replace HO_12 := am (Kd.V_elder' (by (with_reducible repeat (first | apply Va | apply Vn | apply Vd)); exact (Kd.V_mono (Kd.V_far (p := ⟨gb146, 2, none⟩) (Kd.V_far (p := ⟨gb146, 1, none⟩) (Kd.V_far (p := ⟨gb146, 0, none⟩) (Kd.V_mono HO_12.out (fun k_ hk => (⟨hk, hk.2⟩ : _ ∧ k_ ≠ gb146))) (fun _ hk => hk.2) _) (fun _ hk => hk.2) _) (fun _ hk => hk.2) _) (fun _ h_ => h_.1))) (Kd.R_base ho0) hb); replace HO_14 := am (Kd.R_below (by (with_reducible repeat (first | apply Ra | apply Rn | apply Rd)); exact (Kd.R_mono (Kd.R_far (p := ⟨gb146, 2, none⟩) (Kd.R_far (p := ⟨gb146, 1, none⟩) (Kd.R_far (p := ⟨gb146, 0, none⟩) (Kd.R_mono HO_14.out (fun k_ hk => (⟨hk, hk.2⟩ : _ ∧ k_ ≠ gb146))) (fun _ hk => hk.2) _) (fun _ hk => hk.2) _) (fun _ hk => hk.2) _) (fun _ h_ => h_.1))) hb); replace HO_16 := am (Kd.R_below (by (with_reducible repeat (first | apply Ra | apply Rn | apply Rd)); exact (Kd.R_mono (Kd.R_far (p := ⟨gb146, 2, none⟩) (Kd.R_far (p := ⟨gb146, 1, none⟩) (Kd.R_far (p := ⟨gb146, 0, none⟩) (Kd.R_mono HO_16.out (fun k_ hk => (⟨hk, hk.2⟩ : _ ∧ k_ ≠ gb146))) (fun _ hk => hk.2) _) (fun _ hk => hk.2) _) (fun _ hk => hk.2) _) (fun _ h_ => h_.1))) hb); replace HO136 := am (Kd.R_below (by (with_reducible repeat (first | apply Ra | apply Rn | apply Rd)); exact (Kd.R_mono (Kd.R_far (p := ⟨gb146, 2, none⟩) (Kd.R_far (p := ⟨gb146, 1, none⟩) (Kd.R_far (p := ⟨gb146, 0, none⟩) (Kd.R_types HO136.out BK146.out (by decide)) (fun _ hk => hk.2) _) (fun _ hk => hk.2) _) (fun _ hk => hk.2) _) (fun _ h_ => h_.1))) hb); have HO149 := am (Kd.R_lower ho0 (below_size (by repeat (first | (with_reducible first | exact HB.out | apply lA | apply lN | apply lD | refine lS ?_ GE101.out | refine lS ?_ GE102.out | refine lS ?_ GE141.out | refine lS ?_ GE146.out) | exact HB.out)))); replace BK101 := am (blk_below (g := gb101) (o := .cells #[.string a0_0, .slice A0_1 l0_1.length c0_1] 46 (0, 0)) (by repeat (first | (with_reducible first | exact BK101.out | refine bN ?_ _ | refine bD ?_ | refine bA ?_ _) | refine blk_far ?_ NB101_146.out _ | exact BK101.out)) hb); replace BK102 := am (blk_below (g := gb102) (o := .cells #[.int .i64 a2_0, .string a2_1, .slice A2_2 l2_2.length c2_2, .string a2_3, .bool a2_4, .string a2_5, .bool a2_6, .string a2_7, .int .i64 a2_8, .bool a2_9, .string a2_10, .bool a2_11, .string a2_12, .int .i64 a2_13] 58 (0, 0)) (by repeat (first | (with_reducible first | exact BK102.out | refine bN ?_ _ | refine bD ?_ | refine bA ?_ _) | refine blk_far ?_ NB102_146.out _ | exact BK102.out)) hb); replace BK141 := am (blk_below (g := gb141) (o := .cells #[.bool t137, .string t138, .int .i64 t139] 24 (0, 0)) (by repeat (first | (with_reducible first | exact BK141.out | refine bN ?_ _ | refine bD ?_ | refine bA ?_ _) | refine blk_far ?_ NB141_146.out _ | exact BK141.out)) hb); replace BK146 := am (blk_below (g := gb146) (o := .cells #[.bool t142, .string t143, .int .i64 t144] 24 (0, 0)) (by (with_reducible repeat (first | refine bN ?_ _ | refine bD ?_ | refine bA ?_ _)); refine blk_put (cs := #[.bool t142, .string t143, .int .i64 0]) ?_ 2 _ rfl; (with_reducible repeat (first | refine bN ?_ _ | refine bD ?_ | refine bA ?_ _)); refine blk_put (cs := #[.bool t142, .string (⟨#[]⟩ : ByteArray), .int .i64 0]) ?_ 1 _ rfl; (with_reducible repeat (first | refine bN ?_ _ | refine bD ?_ | refine bA ?_ _)); refine blk_put (cs := #[.bool false, .string (⟨#[]⟩ : ByteArray), .int .i64 0]) ?_ 0 _ rfl; (with_reducible repeat (first | refine bN ?_ _ | refine bD ?_ | refine bA ?_ _)); exact BK146.out) hb); replace HB := am (below_step (by repeat (first | (with_reducible first | exact HB.out | apply lA | apply lN | apply lD | refine lS ?_ GE101.out | refine lS ?_ GE102.out | refine lS ?_ GE141.out | refine lS ?_ GE146.out) | exact HB.out)) hb); (try clear hb); (try clear hb2); (try clear hk); (try clear hi); (try clear ho0); obtain ⟨Ao182, co182, eo182⟩ := Kd.R_slice HO149.out; subst eo182; obtain ⟨Ao183, co183, eo183⟩ := Kd.V_slice HO_12.out; subst eo183) | (go_at_call 14; (with_reducible refine (lambrequinref12_Same.calls kj23 _ _ t147 _ _ t112 true _ ?side1 ?side2 ?side3 ?side4 A51.out).mono ?_); (case side1 => repeat (first | exact (Kd.R_reads' HO149.out).2.2 | (with_reducible refine Kd.C_alloc ?_ _) | (with_reducible refine Kd.C_drewN ?_ _) | (with_reducible refine Kd.C_drew ?_))); (case side2 => exact (Kd.R_reads' HO149.out).2.1); (case side3 => repeat (first | exact (Kd.V_reads' HO_12.out).2.2 | (with_reducible refine Kd.C_alloc ?_ _) | (with_reducible refine Kd.C_drewN ?_ _) | (with_reducible refine Kd.C_drew ?_))); (case side4 => exact (Kd.V_reads' HO_12.out).2.1); rintro e w' ⟨rfl, ⟨nd, rfl⟩⟩; obtain ⟨Ao184, co184, eo184⟩ := Kd.R_slice HO_14.out; subst eo184; obtain ⟨Ao185, co185, eo185⟩ := Kd.R_slice HO_16.out; subst eo185) | (go_at_call 30; (with_reducible refine (lambrequinref03_Same.calls kj23 _ _ t119 _ _ t123 true _ ?side1 ?side2 ?side3 ?side4 A54.out).mono ?_); (case side1 => repeat (first | exact (Kd.R_reads' HO_14.out).2.2 | (with_reducible refine Kd.C_alloc ?_ _) | (with_reducible refine Kd.C_drewN ?_ _) | (with_reducible refine Kd.C_drew ?_))); (case side2 => exact (Kd.R_reads' HO_14.out).2.1); (case side3 => repeat (first | exact (Kd.R_reads' HO_16.out).2.2 | (with_reducible refine Kd.C_alloc ?_ _) | (with_reducible refine Kd.C_drewN ?_ _) | (with_reducible refine Kd.C_drew ?_))); (case side4 => exact (Kd.R_reads' HO_16.out).2.1); rintro e w' ⟨rfl, ⟨nd, rfl⟩⟩))
             go_ret
             exact ⟨by first | rfl | (simp [errW_none, errW_some] <;> rfl) | (simp [*, errW_none, errW_some] <;> rfl), by repeat (first | (with_reducible first | exact HB.out | apply lA | apply lN | apply lD | refine lS ?_ GE101.out | refine lS ?_ GE102.out | refine lS ?_ GE141.out | refine lS ?_ GE146.out) | exact HB.out)⟩
           ·replace c55 := Bool.eq_false_iff.mpr c55
            subst c55
            have H1 : (some false) = some r := by rw [if_neg (show ¬ (false = true) by decide)] at H; exact H
            clear H
            have H := H1
            clear H1
            obtain rfl := Option.some.inj H
            try go_wp2_with (first | (go_at_call 15; (with_reducible refine (lambrequinlaw12_back.calls kj23 _ _ t108 t147 _ ?side1 ?side2 A50.out).mono ?_); (case side1 => refine (Kd.V_reads' (e := 41) (base := w.heap.size) (ok := fun k_ => ((some k_ ≠ (v135 : Value).ownBlock ∧ (some k_ ≠ (v120 : Value).ownBlock ∧ (some k_ ≠ (v124 : Value).ownBlock ∧ (k_ ≠ gb101 ∧ (k_ ≠ gb102 ∧ k_ ≠ gb141))))) ∧ k_ ≠ gb146)) (n := t108.length) (c := co105) ?_).2.2; exact (by (with_reducible repeat (first | apply Va | apply Vn | apply Vd)); exact (Kd.V_mono (Kd.V_far (p := ⟨gb146, 2, none⟩) (Kd.V_far (p := ⟨gb146, 1, none⟩) (Kd.V_far (p := ⟨gb146, 0, none⟩) (Kd.V_mono HO_10.out (fun k_ hk => (⟨hk, hk.2⟩ : _ ∧ k_ ≠ gb146))) (fun _ hk => hk.2) _) (fun _ hk => hk.2) _) (fun _ hk => hk.2) _) (fun _ h_ => h_.1)))); (case side2 => exact (Kd.V_reads' HO_10.out).2.1); rintro e w205 ⟨v148, rfl, ho0, hb⟩; replace HO_10 := am (Kd.V_elder' (by (with_reducible repeat (first | apply Va | apply Vn | apply Vd)); exact (Kd.V_mono (Kd.V_far (p := ⟨gb146, 2, none⟩) (Kd.V_far (p := ⟨gb146, 1, none⟩) (Kd.V_far (p := ⟨gb146, 0, none⟩) (Kd.V_mono HO_10.out (fun k_ hk => (⟨hk, hk.2⟩ : _ ∧ k_ ≠ gb146))) (fun _ hk => hk.2) _) (fun _ hk => hk.2) _) (fun _ hk => hk.2) _) (fun _ h_ => h_.1))) (Kd.R_base ho0) hb); replace HO_12 := am (Kd.V_elder' (by (with_reducible repeat (first | apply Va | apply Vn | apply Vd)); exact (Kd.V_mono (Kd.V_far (p := ⟨gb146, 2, none⟩) (Kd.V_far (p := ⟨gb146, 1, none⟩) (Kd.V_far (p := ⟨gb146, 0, none⟩) (Kd.V_mono HO_12.out (fun k_ hk => (⟨hk, hk.2⟩ : _ ∧ k_ ≠ gb146))) (fun _ hk => hk.2) _) (fun _ hk => hk.2) _) (fun _ hk => hk.2) _) (fun _ h_ => h_.1))) (Kd.R_base ho0) hb); replace HO_14 := am (Kd.R_below (by (with_reducible repeat (first | apply Ra | apply Rn | apply Rd)); exact (Kd.R_mono (Kd.R_far (p := ⟨gb146, 2, none⟩) (Kd.R_far (p := ⟨gb146, 1, none⟩) (Kd.R_far (p := ⟨gb146, 0, none⟩) (Kd.R_mono HO_14.out (fun k_ hk => (⟨hk, hk.2⟩ : _ ∧ k_ ≠ gb146))) (fun _ hk => hk.2) _) (fun _ hk => hk.2) _) (fun _ hk => hk.2) _) (fun _ h_ => h_.1))) hb); replace HO_16 := am (Kd.R_below (by (with_reducible repeat (first | apply Ra | apply Rn | apply Rd)); exact (Kd.R_mono (Kd.R_far (p := ⟨gb146, 2, none⟩) (Kd.R_far (p := ⟨gb146, 1, none⟩) (Kd.R_far (p := ⟨gb146, 0, none⟩) (Kd.R_mono HO_16.out (fun k_ hk => (⟨hk, hk.2⟩ : _ ∧ k_ ≠ gb146))) (fun _ hk => hk.2) _) (fun _ hk => hk.2) _) (fun _ hk => hk.2) _) (fun _ h_ => h_.1))) hb); replace HO136 := am (Kd.R_below (by (with_reducible repeat (first | apply Ra | apply Rn | apply Rd)); exact (Kd.R_mono (Kd.R_far (p := ⟨gb146, 2, none⟩) (Kd.R_far (p := ⟨gb146, 1, none⟩) (Kd.R_far (p := ⟨gb146, 0, none⟩) (Kd.R_types HO136.out BK146.out (by decide)) (fun _ hk => hk.2) _) (fun _ hk => hk.2) _) (fun _ hk => hk.2) _) (fun _ h_ => h_.1))) hb); have HO149 := am (Kd.R_lower ho0 (below_size (by repeat (first | (with_reducible first | exact HB.out | apply lA | apply lN | apply lD | refine lS ?_ GE101.out | refine lS ?_ GE102.out | refine lS ?_ GE141.out | refine lS ?_ GE146.out) | exact HB.out)))); replace BK101 := am (blk_below (g := gb101) (o := .cells #[.string a0_0, .slice A0_1 l0_1.length c0_1] 46 (0, 0)) (by repeat (first | (with_reducible first | exact BK101.out | refine bN ?_ _ | refine bD ?_ | refine bA ?_ _) | refine blk_far ?_ NB101_146.out _ | exact BK101.out)) hb); replace BK102 := am (blk_below (g := gb102) (o := .cells #[.int .i64 a2_0, .string a2_1, .slice A2_2 l2_2.length c2_2, .string a2_3, .bool a2_4, .string a2_5, .bool a2_6, .string a2_7, .int .i64 a2_8, .bool a2_9, .string a2_10, .bool a2_11, .string a2_12, .int .i64 a2_13] 58 (0, 0)) (by repeat (first | (with_reducible first | exact BK102.out | refine bN ?_ _ | refine bD ?_ | refine bA ?_ _) | refine blk_far ?_ NB102_146.out _ | exact BK102.out)) hb); replace BK141 := am (blk_below (g := gb141) (o := .cells #[.bool t137, .string t138, .int .i64 t139] 24 (0, 0)) (by repeat (first | (with_reducible first | exact BK141.out | refine bN ?_ _ | refine bD ?_ | refine bA ?_ _) | refine blk_far ?_ NB141_146.out _ | exact BK141.out)) hb); replace BK146 := am (blk_below (g := gb146) (o := .cells #[.bool t142, .string t143, .int .i64 t144] 24 (0, 0)) (by (with_reducible repeat (first | refine bN ?_ _ | refine bD ?_ | refine bA ?_ _)); refine blk_put (cs := #[.bool t142, .string t143, .int .i64 0]) ?_ 2 _ rfl; (with_reducible repeat (first | refine bN ?_ _ | refine bD ?_ | refine bA ?_ _)); refine blk_put (cs := #[.bool t142, .string (⟨#[]⟩ : ByteArray), .int .i64 0]) ?_ 1 _ rfl; (with_reducible repeat (first | refine bN ?_ _ | refine bD ?_ | refine bA ?_ _)); refine blk_put (cs := #[.bool false, .string (⟨#[]⟩ : ByteArray), .int .i64 0]) ?_ 0 _ rfl; (with_reducible repeat (first | refine bN ?_ _ | refine bD ?_ | refine bA ?_ _)); exact BK146.out) hb); replace HB := am (below_step (by repeat (first | (with_reducible first | exact HB.out | apply lA | apply lN | apply lD | refine lS ?_ GE101.out | refine lS ?_ GE102.out | refine lS ?_ GE141.out | refine lS ?_ GE146.out) | exact HB.out)) hb); (try clear hb); (try clear hb2); (try clear hk); (try clear hi); (try clear ho0); obtain ⟨Ao206, co206, eo206⟩ := Kd.R_slice HO149.out; subst eo206; obtain ⟨Ao207, co207, eo207⟩ := Kd.V_slice HO_12.out; subst eo207) | (go_at_call 14; (with_reducible refine (lambrequinref12_Same.calls kj23 _ _ t147 _ _ t112 true _ ?side1 ?side2 ?side3 ?side4 A51.out).mono ?_); (case side1 => repeat (first | exact (Kd.R_reads' HO149.out).2.2 | (with_reducible refine Kd.C_alloc ?_ _) | (with_reducible refine Kd.C_drewN ?_ _) | (with_reducible refine Kd.C_drew ?_))); (case side2 => exact (Kd.R_reads' HO149.out).2.1); (case side3 => repeat (first | exact (Kd.V_reads' HO_12.out).2.2 | (with_reducible refine Kd.C_alloc ?_ _) | (with_reducible refine Kd.C_drewN ?_ _) | (with_reducible refine Kd.C_drew ?_))); (case side4 => exact (Kd.V_reads' HO_12.out).2.1); rintro e w' ⟨rfl, ⟨nd, rfl⟩⟩; obtain ⟨Ao208, co208, eo208⟩ := Kd.R_slice HO_14.out; subst eo208; obtain ⟨Ao209, co209, eo209⟩ := Kd.R_slice HO_16.out; subst eo209) | (go_at_call 30; (with_reducible refine (lambrequinref03_Same.calls kj23 _ _ t119 _ _ t123 false _ ?side1 ?side2 ?side3 ?side4 A54.out).mono ?_); (case side1 => repeat (first | exact (Kd.R_reads' HO_14.out).2.2 | (with_reducible refine Kd.C_alloc ?_ _) | (with_reducible refine Kd.C_drewN ?_ _) | (with_reducible refine Kd.C_drew ?_))); (case side2 => exact (Kd.R_reads' HO_14.out).2.1); (case side3 => repeat (first | exact (Kd.R_reads' HO_16.out).2.2 | (with_reducible refine Kd.C_alloc ?_ _) | (with_reducible refine Kd.C_drewN ?_ _) | (with_reducible refine Kd.C_drew ?_))); (case side4 => exact (Kd.R_reads' HO_16.out).2.1); rintro e w' ⟨rfl, ⟨nd, rfl⟩⟩))
            go_ret
            exact ⟨by first | rfl | (simp [errW_none, errW_some] <;> rfl) | (simp [*, errW_none, errW_some] <;> rfl), by repeat (first | (with_reducible first | exact HB.out | apply lA | apply lN | apply lD | refine lS ?_ GE101.out | refine lS ?_ GE102.out | refine lS ?_ GE141.out | refine lS ?_ GE146.out) | exact HB.out)⟩
          ·rw [if_neg c53] at H
           have c53b0 : (t111 == t115) = false := by simpa using c53
           (try (have c53b1 : decide (t111 = t115) = false := by simpa using c53))
           (try (have c53b2 : (t111 == t115) = false := by simpa using c53))
           (try (have c53b3 : ¬ (t111 = t115) := by simpa using c53))
           clear c53
           obtain rfl := Option.some.inj H
           try go_wp2_with (first | (go_at_call 15; (with_reducible refine (lambrequinlaw12_back.calls kj23 _ _ t108 t147 _ ?side1 ?side2 A50.out).mono ?_); (case side1 => refine (Kd.V_reads' (e := 41) (base := w.heap.size) (ok := fun k_ => ((some k_ ≠ (v135 : Value).ownBlock ∧ (some k_ ≠ (v120 : Value).ownBlock ∧ (some k_ ≠ (v124 : Value).ownBlock ∧ (k_ ≠ gb101 ∧ (k_ ≠ gb102 ∧ k_ ≠ gb141))))) ∧ k_ ≠ gb146)) (n := t108.length) (c := co105) ?_).2.2; exact (by (with_reducible repeat (first | apply Va | apply Vn | apply Vd)); exact (Kd.V_mono (Kd.V_far (p := ⟨gb146, 2, none⟩) (Kd.V_far (p := ⟨gb146, 1, none⟩) (Kd.V_far (p := ⟨gb146, 0, none⟩) (Kd.V_mono HO_10.out (fun k_ hk => (⟨hk, hk.2⟩ : _ ∧ k_ ≠ gb146))) (fun _ hk => hk.2) _) (fun _ hk => hk.2) _) (fun _ hk => hk.2) _) (fun _ h_ => h_.1)))); (case side2 => exact (Kd.V_reads' HO_10.out).2.1); rintro e w229 ⟨v148, rfl, ho0, hb⟩; replace HO_10 := am (Kd.V_elder' (by (with_reducible repeat (first | apply Va | apply Vn | apply Vd)); exact (Kd.V_mono (Kd.V_far (p := ⟨gb146, 2, none⟩) (Kd.V_far (p := ⟨gb146, 1, none⟩) (Kd.V_far (p := ⟨gb146, 0, none⟩) (Kd.V_mono HO_10.out (fun k_ hk => (⟨hk, hk.2⟩ : _ ∧ k_ ≠ gb146))) (fun _ hk => hk.2) _) (fun _ hk => hk.2) _) (fun _ hk => hk.2) _) (fun _ h_ => h_.1))) (Kd.R_base ho0) hb); replace HO_12 := am (Kd.V_elder' (by (with_reducible repeat (first | apply Va | apply Vn | apply Vd)); exact (Kd.V_mono (Kd.V_far (p := ⟨gb146, 2, none⟩) (Kd.V_far (p := ⟨gb146, 1, none⟩) (Kd.V_far (p := ⟨gb146, 0, none⟩) (Kd.V_mono HO_12.out (fun k_ hk => (⟨hk, hk.2⟩ : _ ∧ k_ ≠ gb146))) (fun _ hk => hk.2) _) (fun _ hk => hk.2) _) (fun _ hk => hk.2) _) (fun _ h_ => h_.1))) (Kd.R_base ho0) hb); replace HO_14 := am (Kd.R_below (by (with_reducible repeat (first | apply Ra | apply Rn | apply Rd)); exact (Kd.R_mono (Kd.R_far (p := ⟨gb146, 2, none⟩) (Kd.R_far (p := ⟨gb146, 1, none⟩) (Kd.R_far (p := ⟨gb146, 0, none⟩) (Kd.R_mono HO_14.out (fun k_ hk => (⟨hk, hk.2⟩ : _ ∧ k_ ≠ gb146))) (fun _ hk => hk.2) _) (fun _ hk => hk.2) _) (fun _ hk => hk.2) _) (fun _ h_ => h_.1))) hb); replace HO_16 := am (Kd.R_below (by (with_reducible repeat (first | apply Ra | apply Rn | apply Rd)); exact (Kd.R_mono (Kd.R_far (p := ⟨gb146, 2, none⟩) (Kd.R_far (p := ⟨gb146, 1, none⟩) (Kd.R_far (p := ⟨gb146, 0, none⟩) (Kd.R_mono HO_16.out (fun k_ hk => (⟨hk, hk.2⟩ : _ ∧ k_ ≠ gb146))) (fun _ hk => hk.2) _) (fun _ hk => hk.2) _) (fun _ hk => hk.2) _) (fun _ h_ => h_.1))) hb); replace HO136 := am (Kd.R_below (by (with_reducible repeat (first | apply Ra | apply Rn | apply Rd)); exact (Kd.R_mono (Kd.R_far (p := ⟨gb146, 2, none⟩) (Kd.R_far (p := ⟨gb146, 1, none⟩) (Kd.R_far (p := ⟨gb146, 0, none⟩) (Kd.R_types HO136.out BK146.out (by decide)) (fun _ hk => hk.2) _) (fun _ hk => hk.2) _) (fun _ hk => hk.2) _) (fun _ h_ => h_.1))) hb); have HO149 := am (Kd.R_lower ho0 (below_size (by repeat (first | (with_reducible first | exact HB.out | apply lA | apply lN | apply lD | refine lS ?_ GE101.out | refine lS ?_ GE102.out | refine lS ?_ GE141.out | refine lS ?_ GE146.out) | exact HB.out)))); replace BK101 := am (blk_below (g := gb101) (o := .cells #[.string a0_0, .slice A0_1 l0_1.length c0_1] 46 (0, 0)) (by repeat (first | (with_reducible first | exact BK101.out | refine bN ?_ _ | refine bD ?_ | refine bA ?_ _) | refine blk_far ?_ NB101_146.out _ | exact BK101.out)) hb); replace BK102 := am (blk_below (g := gb102) (o := .cells #[.int .i64 a2_0, .string a2_1, .slice A2_2 l2_2.length c2_2, .string a2_3, .bool a2_4, .string a2_5, .bool a2_6, .string a2_7, .int .i64 a2_8, .bool a2_9, .string a2_10, .bool a2_11, .string a2_12, .int .i64 a2_13] 58 (0, 0)) (by repeat (first | (with_reducible first | exact BK102.out | refine bN ?_ _ | refine bD ?_ | refine bA ?_ _) | refine blk_far ?_ NB102_146.out _ | exact BK102.out)) hb); replace BK141 := am (blk_below (g := gb141) (o := .cells #[.bool t137, .string t138, .int .i64 t139] 24 (0, 0)) (by repeat (first | (with_reducible first | exact BK141.out | refine bN ?_ _ | refine bD ?_ | refine bA ?_ _) | refine blk_far ?_ NB141_146.out _ | exact BK141.out)) hb); replace BK146 := am (blk_below (g := gb146) (o := .cells #[.bool t142, .string t143, .int .i64 t144] 24 (0, 0)) (by (with_reducible repeat (first | refine bN ?_ _ | refine bD ?_ | refine bA ?_ _)); refine blk_put (cs := #[.bool t142, .string t143, .int .i64 0]) ?_ 2 _ rfl; (with_reducible repeat (first | refine bN ?_ _ | refine bD ?_ | refine bA ?_ _)); refine blk_put (cs := #[.bool t142, .string (⟨#[]⟩ : ByteArray), .int .i64 0]) ?_ 1 _ rfl; (with_reducible repeat (first | refine bN ?_ _ | refine bD ?_ | refine bA ?_ _)); refine blk_put (cs := #[.bool false, .string (⟨#[]⟩ : ByteArray), .int .i64 0]) ?_ 0 _ rfl; (with_reducible repeat (first | refine bN ?_ _ | refine bD ?_ | refine bA ?_ _)); exact BK146.out) hb); replace HB := am (below_step (by repeat (first | (with_reducible first | exact HB.out | apply lA | apply lN | apply lD | refine lS ?_ GE101.out | refine lS ?_ GE102.out | refine lS ?_ GE141.out | refine lS ?_ GE146.out) | exact HB.out)) hb); (try clear hb); (try clear hb2); (try clear hk); (try clear hi); (try clear ho0); obtain ⟨Ao230, co230, eo230⟩ := Kd.R_slice HO149.out; subst eo230; obtain ⟨Ao231, co231, eo231⟩ := Kd.V_slice HO_12.out; subst eo231) | (go_at_call 14; (with_reducible refine (lambrequinref12_Same.calls kj23 _ _ t147 _ _ t112 true _ ?side1 ?side2 ?side3 ?side4 A51.out).mono ?_); (case side1 => repeat (first | exact (Kd.R_reads' HO149.out).2.2 | (with_reducible refine Kd.C_alloc ?_ _) | (with_reducible refine Kd.C_drewN ?_ _) | (with_reducible refine Kd.C_drew ?_))); (case side2 => exact (Kd.R_reads' HO149.out).2.1); (case side3 => repeat (first | exact (Kd.V_reads' HO_12.out).2.2 | (with_reducible refine Kd.C_alloc ?_ _) | (with_reducible refine Kd.C_drewN ?_ _) | (with_reducible refine Kd.C_drew ?_))); (case side4 => exact (Kd.V_reads' HO_12.out).2.1); rintro e w' ⟨rfl, ⟨nd, rfl⟩⟩))
           go_ret
           exact ⟨by first | rfl | (simp [errW_none, errW_some] <;> rfl) | (simp [*, errW_none, errW_some] <;> rfl), by repeat (first | (with_reducible first | exact HB.out | apply lA | apply lN | apply lD | refine lS ?_ GE101.out | refine lS ?_ GE102.out | refine lS ?_ GE141.out | refine lS ?_ GE146.out) | exact HB.out)⟩
         ·replace c52 := Bool.eq_false_iff.mpr c52
          subst c52
          have H1 : (some false) = some r := by rw [if_neg (show ¬ (false = true) by decide)] at H; exact H
          clear H
          have H := H1
          clear H1
          obtain rfl := Option.some.inj H
          try go_wp2_with (first | (go_at_call 15; (with_reducible refine (lambrequinlaw12_back.calls kj23 _ _ t108 t147 _ ?side1 ?side2 A50.out).mono ?_); (case side1 => refine (Kd.V_reads' (e := 41) (base := w.heap.size) (ok := fun k_ => ((some k_ ≠ (v135 : Value).ownBlock ∧ (some k_ ≠ (v120 : Value).ownBlock ∧ (some k_ ≠ (v124 : Value).ownBlock ∧ (k_ ≠ gb101 ∧ (k_ ≠ gb102 ∧ k_ ≠ gb141))))) ∧ k_ ≠ gb146)) (n := t108.length) (c := co105) ?_).2.2; exact (by (with_reducible repeat (first | apply Va | apply Vn | apply Vd)); exact (Kd.V_mono (Kd.V_far (p := ⟨gb146, 2, none⟩) (Kd.V_far (p := ⟨gb146, 1, none⟩) (Kd.V_far (p := ⟨gb146, 0, none⟩) (Kd.V_mono HO_10.out (fun k_ hk => (⟨hk, hk.2⟩ : _ ∧ k_ ≠ gb146))) (fun _ hk => hk.2) _) (fun _ hk => hk.2) _) (fun _ hk => hk.2) _) (fun _ h_ => h_.1)))); (case side2 => exact (Kd.V_reads' HO_10.out).2.1); rintro e w251 ⟨v148, rfl, ho0, hb⟩; replace HO_10 := am (Kd.V_elder' (by (with_reducible repeat (first | apply Va | apply Vn | apply Vd)); exact (Kd.V_mono (Kd.V_far (p := ⟨gb146, 2, none⟩) (Kd.V_far (p := ⟨gb146, 1, none⟩) (Kd.V_far (p := ⟨gb146, 0, none⟩) (Kd.V_mono HO_10.out (fun k_ hk => (⟨hk, hk.2⟩ : _ ∧ k_ ≠ gb146))) (fun _ hk => hk.2) _) (fun _ hk => hk.2) _) (fun _ hk => hk.2) _) (fun _ h_ => h_.1))) (Kd.R_base ho0) hb); replace HO_12 := am (Kd.V_elder' (by (with_reducible repeat (first | apply Va | apply Vn | apply Vd)); exact (Kd.V_mono (Kd.V_far (p := ⟨gb146, 2, none⟩) (Kd.V_far (p := ⟨gb146, 1, none⟩) (Kd.V_far (p := ⟨gb146, 0, none⟩) (Kd.V_mono HO_12.out (fun k_ hk => (⟨hk, hk.2⟩ : _ ∧ k_ ≠ gb146))) (fun _ hk => hk.2) _) (fun _ hk => hk.2) _) (fun _ hk => hk.2) _) (fun _ h_ => h_.1))) (Kd.R_base ho0) hb); replace HO_14 := am (Kd.R_below (by (with_reducible repeat (first | apply Ra | apply Rn | apply Rd)); exact (Kd.R_mono (Kd.R_far (p := ⟨gb146, 2, none⟩) (Kd.R_far (p := ⟨gb146, 1, none⟩) (Kd.R_far (p := ⟨gb146, 0, none⟩) (Kd.R_mono HO_14.out (fun k_ hk => (⟨hk, hk.2⟩ : _ ∧ k_ ≠ gb146))) (fun _ hk => hk.2) _) (fun _ hk => hk.2) _) (fun _ hk => hk.2) _) (fun _ h_ => h_.1))) hb); replace HO_16 := am (Kd.R_below (by (with_reducible repeat (first | apply Ra | apply Rn | apply Rd)); exact (Kd.R_mono (Kd.R_far (p := ⟨gb146, 2, none⟩) (Kd.R_far (p := ⟨gb146, 1, none⟩) (Kd.R_far (p := ⟨gb146, 0, none⟩) (Kd.R_mono HO_16.out (fun k_ hk => (⟨hk, hk.2⟩ : _ ∧ k_ ≠ gb146))) (fun _ hk => hk.2) _) (fun _ hk => hk.2) _) (fun _ hk => hk.2) _) (fun _ h_ => h_.1))) hb); replace HO136 := am (Kd.R_below (by (with_reducible repeat (first | apply Ra | apply Rn | apply Rd)); exact (Kd.R_mono (Kd.R_far (p := ⟨gb146, 2, none⟩) (Kd.R_far (p := ⟨gb146, 1, none⟩) (Kd.R_far (p := ⟨gb146, 0, none⟩) (Kd.R_types HO136.out BK146.out (by decide)) (fun _ hk => hk.2) _) (fun _ hk => hk.2) _) (fun _ hk => hk.2) _) (fun _ h_ => h_.1))) hb); have HO149 := am (Kd.R_lower ho0 (below_size (by repeat (first | (with_reducible first | exact HB.out | apply lA | apply lN | apply lD | refine lS ?_ GE101.out | refine lS ?_ GE102.out | refine lS ?_ GE141.out | refine lS ?_ GE146.out) | exact HB.out)))); replace BK101 := am (blk_below (g := gb101) (o := .cells #[.string a0_0, .slice A0_1 l0_1.length c0_1] 46 (0, 0)) (by repeat (first | (with_reducible first | exact BK101.out | refine bN ?_ _ | refine bD ?_ | refine bA ?_ _) | refine blk_far ?_ NB101_146.out _ | exact BK101.out)) hb); replace BK102 := am (blk_below (g := gb102) (o := .cells #[.int .i64 a2_0, .string a2_1, .slice A2_2 l2_2.length c2_2, .string a2_3, .bool a2_4, .string a2_5, .bool a2_6, .string a2_7, .int .i64 a2_8, .bool a2_9, .string a2_10, .bool a2_11, .string a2_12, .int .i64 a2_13] 58 (0, 0)) (by repeat (first | (with_reducible first | exact BK102.out | refine bN ?_ _ | refine bD ?_ | refine bA ?_ _) | refine blk_far ?_ NB102_146.out _ | exact BK102.out)) hb); replace BK141 := am (blk_below (g := gb141) (o := .cells #[.bool t137, .string t138, .int .i64 t139] 24 (0, 0)) (by repeat (first | (with_reducible first | exact BK141.out | refine bN ?_ _ | refine bD ?_ | refine bA ?_ _) | refine blk_far ?_ NB141_146.out _ | exact BK141.out)) hb); replace BK146 := am (blk_below (g := gb146) (o := .cells #[.bool t142, .string t143, .int .i64 t144] 24 (0, 0)) (by (with_reducible repeat (first | refine bN ?_ _ | refine bD ?_ | refine bA ?_ _)); refine blk_put (cs := #[.bool t142, .string t143, .int .i64 0]) ?_ 2 _ rfl; (with_reducible repeat (first | refine bN ?_ _ | refine bD ?_ | refine bA ?_ _)); refine blk_put (cs := #[.bool t142, .string (⟨#[]⟩ : ByteArray), .int .i64 0]) ?_ 1 _ rfl; (with_reducible repeat (first | refine bN ?_ _ | refine bD ?_ | refine bA ?_ _)); refine blk_put (cs := #[.bool false, .string (⟨#[]⟩ : ByteArray), .int .i64 0]) ?_ 0 _ rfl; (with_reducible repeat (first | refine bN ?_ _ | refine bD ?_ | refine bA ?_ _)); exact BK146.out) hb); replace HB := am (below_step (by repeat (first | (with_reducible first | exact HB.out | apply lA | apply lN | apply lD | refine lS ?_ GE101.out | refine lS ?_ GE102.out | refine lS ?_ GE141.out | refine lS ?_ GE146.out) | exact HB.out)) hb); (try clear hb); (try clear hb2); (try clear hk); (try clear hi); (try clear ho0); obtain ⟨Ao252, co252, eo252⟩ := Kd.R_slice HO149.out; subst eo252; obtain ⟨Ao253, co253, eo253⟩ := Kd.V_slice HO_12.out; subst eo253) | (go_at_call 14; (with_reducible refine (lambrequinref12_Same.calls kj23 _ _ t147 _ _ t112 false _ ?side1 ?side2 ?side3 ?side4 A51.out).mono ?_); (case side1 => repeat (first | exact (Kd.R_reads' HO149.out).2.2 | (with_reducible refine Kd.C_alloc ?_ _) | (with_reducible refine Kd.C_drewN ?_ _) | (with_reducible refine Kd.C_drew ?_))); (case side2 => exact (Kd.R_reads' HO149.out).2.1); (case side3 => repeat (first | exact (Kd.V_reads' HO_12.out).2.2 | (with_reducible refine Kd.C_alloc ?_ _) | (with_reducible refine Kd.C_drewN ?_ _) | (with_reducible refine Kd.C_drew ?_))); (case side4 => exact (Kd.V_reads' HO_12.out).2.1); rintro e w' ⟨rfl, ⟨nd, rfl⟩⟩))
          go_ret
          exact ⟨by first | rfl | (simp [errW_none, errW_some] <;> rfl) | (simp [*, errW_none, errW_some] <;> rfl), by repeat (first | (with_reducible first | exact HB.out | apply lA | apply lN | apply lD | refine lS ?_ GE101.out | refine lS ?_ GE102.out | refine lS ?_ GE141.out | refine lS ?_ GE146.out) | exact HB.out)⟩
        ·replace c49 := Bool.eq_false_iff.mpr c49
         subst c49
         have H1 : (some false) = some r := by rw [if_neg (show ¬ (false = true) by decide)] at H; exact H
         clear H
         have H := H1
         clear H1
         obtain rfl := Option.some.inj H
         try go_wp2
         go_ret
         exact ⟨by first | rfl | (simp [errW_none, errW_some] <;> rfl) | (simp [*, errW_none, errW_some] <;> rfl), by repeat (first | (with_reducible first | exact HB.out | apply lA | apply lN | apply lD | refine lS ?_ GE101.out | refine lS ?_ GE102.out | refine lS ?_ GE141.out | refine lS ?_ GE146.out) | exact HB.out)⟩
end Go.Proofs.Ytdanihbbnepjpaa.H
/- SubstMatches: any atom matched with any row, made ground, and any comparison, in any environment, are the document's. Conditions: the statement's own. -/
namespace Go.Proofs.Ytdanihbbnepjpaa.H
open Go.RowKit Go.Proofs.YtdanihbbnepjpaaW.PrintWords
set_option linter.unusedVariables false
set_option linter.unusedSimpArgs false
theorem rValue_ev (t : Term) (e : List RPair) (he : e.length ≤ 1000000) : Ev (fun k => lambrequinref12_Value.f k t.isVar t.name t.val.isSym t.val.sym t.val.n e) (tup (valueOf t (e.map toP))) := by
  unfold lambrequinref12_Value.f valueOf
  cases t.isVar with
  | true => exact Ev.pos rfl (Ev.bind (rGet_ev e t.name he) (Ev.some rfl))
  | false => exact Ev.neg (by simp) (Ev.pure (rBare_eq t.val) (Ev.some (by simp [tup])))
def mtupR (o : Option (List Pair)) : List RPair × Bool := match o with
  | some x => (x.map toR, true)
  | none => ([], false)
theorem valB {t : Term} {e : List Pair} {v : Val} (hx : bP e) (ht : bTerm t) (h : valueOf t e = some v) : bVal v := by
  unfold valueOf at h
  split at h
  · unfold getOf at h
    obtain ⟨p, hp, rfl⟩ := Option.map_eq_some_iff.1 h
    exact hx p (List.mem_of_find?_eq_some hp)
  · cases h
    exact bVal_bare ht.2.2
theorem rMatch_l0 (p : ByteArray) (ts : List Term) (rs : List Val) (hts : ts.length ≤ 10000) (hl : ts.length = rs.length) (bt : ∀ t ∈ ts, bTerm t) (br : ∀ r ∈ rs, bVal r) : ∀ (a : List Term) (b : List Val) (n : Nat) (e : List Pair), ts.drop n = a → rs.drop n = b → n ≤ ts.length → e.length ≤ 10000 + n → bP e →
    Ev (fun k => lambrequinref12_Match.l0 k rs (e.map toR) n p ts) (mtupR (matchGo a b e))
  | [], b, n, e, h, h', hn, hc, be => by
    have e1 := congrArg List.length h
    simp at e1
    refine Ev.step (fun k => by rw [lambrequinref12_Match.l0]) ?_
    exact Ev.neg (by omega) (Ev.now _)
  | x :: a, [], n, e, h, h', hn, hc, be => by
    have e1 := congrArg List.length h
    have e2 := congrArg List.length h'
    simp at e1 e2
    omega
  | x :: a, y :: b, n, e, h, h', hn, hc, be => by
    obtain ⟨h1, h2, h3, h4, h5⟩ := drop_more h (by omega)
    obtain ⟨g1, g2, g3, g4, g5⟩ := drop_more h' (by omega)
    have bx := bt x (List.mem_of_mem_drop (i := n) (by rw [h]; simp))
    have bY := br y (List.mem_of_mem_drop (i := n) (by rw [h']; simp))
    refine Ev.step (fun k => by rw [lambrequinref12_Match.l0]) ?_
    refine Ev.pos g1 (Ev.pos h2 (Ev.pos h1 ?_))
    rw [show rd_T49 ts n = x from h3 _, show rd_T24 rs n = y from g3 _, h5]
    have hv := rValue_ev x (e.map toR) (by simp; omega)
    rw [map_toP_toR] at hv
    refine Ev.bind hv ?_
    unfold matchGo
    cases hq : valueOf x e with
    | none =>
      have hw := rWith_ev (e.map toR) x.name y (by simp; omega)
      rw [map_toP_toR] at hw
      refine Ev.neg (by simp [tup]) (Ev.bind hw ?_)
      exact rMatch_l0 p ts rs hts hl bt br a b (n + 1) _ h4 g4 (by omega) (by have := with_len_le e x.name y; omega) (bP_with be _ bY)
    | some v =>
      refine Ev.pos (by simp [tup]) (Ev.bind (rSameV_ev (v := v) (u := y) (valB be bx hq) bY) ?_)
      dsimp only
      by_cases c : sameV v y = true
      · rw [if_pos c]
        exact Ev.pos c (rMatch_l0 p ts rs hts hl bt br a b (n + 1) e h4 g4 (by omega) (by omega) be)
      · rw [if_neg c]
        exact Ev.neg c (Ev.now _)
theorem rMatch_ev (p : ByteArray) (ts : List Term) (rs : List Val) (e : List RPair) (hts : ts.length ≤ 10000) (he : e.length ≤ 10000) (bt : ∀ t ∈ ts, bTerm t) (br : ∀ r ∈ rs, bVal r) (be : bP (e.map toP)) : Ev (fun k => lambrequinref12_Match.f k p ts rs e) (mtupR (matchOf ts rs (e.map toP))) := by
  unfold lambrequinref12_Match.f matchOf
  by_cases c : ts.length = rs.length
  · rw [if_pos c]
    have := rMatch_l0 p ts rs hts c bt br ts rs 0 (e.map toP) rfl rfl (by omega) (by simp; omega) be
    rw [map_toR_toP] at this
    exact Ev.pos (by omega) this
  · rw [if_neg c]
    exact Ev.neg (by omega) (Ev.now _)
theorem rGround_l0 (p : ByteArray) (ts : List Term) (e : List RPair) (hts : ts.length ≤ 10000) (he : e.length ≤ 1000000) : ∀ (a : List Term) (n : Nat) (acc : List Val), ts.drop n = a → n ≤ ts.length → acc.length ≤ n → Ev (fun k => lambrequinref12_Ground.l0 k e acc n p ts) (gtup acc (groundOf a (e.map toP)))
  | [], n, acc, h, hn, hc => by
    refine Ev.step (fun k => by rw [lambrequinref12_Ground.l0]) ?_
    exact Ev.neg (drop_end h) (Ev.some (by simp [groundOf, gtup]))
  | x :: a, n, acc, h, hn, hc => by
    obtain ⟨h1, h2, h3, h4, h5⟩ := drop_more h (by omega)
    refine Ev.step (fun k => by rw [lambrequinref12_Ground.l0]) ?_
    refine Ev.pos h1 (Ev.pos h2 ?_)
    rw [show rd_T49 ts n = x from h3 _, h5]
    refine Ev.bind (rValue_ev x e he) ?_
    unfold groundOf
    cases hv : valueOf x (e.map toP) with
    | none => exact Ev.neg (by simp [tup]) (Ev.now _)
    | some v =>
      refine Ev.pos (by simp [tup]) (Ev.pos (by omega) ?_)
      refine Ev.iff (rGround_l0 p ts e hts he a (n + 1) (acc ++ [v]) h4 (by omega) (by simp; omega)) ?_
      cases groundOf a (e.map toP) <;> simp [gtup]
theorem rGround_ev (p : ByteArray) (ts : List Term) (e : List RPair) (hts : ts.length ≤ 10000) (he : e.length ≤ 1000000) : Ev (fun k => lambrequinref12_Ground.f k p ts e) (gtup [] (groundOf ts (e.map toP))) := rGround_l0 p ts e hts he ts 0 [] rfl (by omega) (by simp)
def hOf (kind : Int) (op : ByteArray) (a b : Option Val) : Bool × Bool := if kind = 3 then (match a, b with
  | some v, some u => scanH tblH op (cmpV v u)
  | _, _ => (false, false)) else (false, false)
theorem vHolds_eq (op : ByteArray) (v u : Val) : value_Holds.f op v.isSym v.sym v.n u.isSym u.sym u.n = some (scanH tblH op (cmpV v u)) := by
  unfold value_Holds.f
  rw [cmpV_eq 0 v u]; rfl
theorem holds_eq (kind : Int) (p : ByteArray) (l : List Term) (op : ByteArray) (a b : Term) (e : List Pair) :
    subst_Holds.f kind p l op a.isVar a.name a.val.isSym a.val.sym a.val.n b.isVar b.name b.val.isSym b.val.sym b.val.n e = some (hOf kind op (valueOf a e) (valueOf b e)) := by
  unfold subst_Holds.f hOf
  rw [value_eq, value_eq]
  simp only [Option.bind_some]
  by_cases c : kind = 3
  · rw [if_pos c, if_pos c]
    cases valueOf a e with
    | none => simp [tup]
    | some v =>
      cases valueOf b e with
      | none => simp [tup]
      | some u =>
        simp only [tup, if_true]
        rw [vHolds_eq]; rfl
  · rw [if_neg c, if_neg c]
theorem rvHolds_ev (op : ByteArray) {v u : Val} (bv : bVal v) (bu : bVal u) : Ev (fun k => lambrequinref01_Holds.f k op v.isSym v.sym v.n u.isSym u.sym u.n) (scanH tblH op (cmpV v u)) := by
  unfold lambrequinref01_Holds.f
  refine Ev.bind (rCompare_ev bv bu) ?_
  have hin := cmpV_in v u
  revert hin
  generalize cmpV v u = c
  intro hin
  have q : ∀ (l : List UInt8), op.toList = l ↔ (⟨l.toArray⟩ : ByteArray) = op := fun l => by
    constructor
    · rintro rfl
      exact ord_inj (by simp [toL, ByteArray.toList_eq])
    · rintro rfl
      simp [ByteArray.toList_eq]
  have q1 : op.toList = ([61] : List UInt8) ↔ (⟨#[61]⟩ : ByteArray) = op := q [61]
  have q2 : op.toList = ([33, 61] : List UInt8) ↔ (⟨#[33, 61]⟩ : ByteArray) = op := q [33, 61]
  have q3 : op.toList = ([60] : List UInt8) ↔ (⟨#[60]⟩ : ByteArray) = op := q [60]
  have q4 : op.toList = ([60, 61] : List UInt8) ↔ (⟨#[60, 61]⟩ : ByteArray) = op := q [60, 61]
  have q5 : op.toList = ([62] : List UInt8) ↔ (⟨#[62]⟩ : ByteArray) = op := q [62]
  have q6 : op.toList = ([62, 61] : List UInt8) ↔ (⟨#[62, 61]⟩ : ByteArray) = op := q [62, 61]
  have e : (if op.toList = ([61] : List UInt8) then some ((c == 0), true) else if op.toList = ([33, 61] : List UInt8) then some ((c != 0), true) else if op.toList = ([60] : List UInt8) then some ((c == (-1)), true) else if op.toList = ([60, 61] : List UInt8) then some ((c != 1), true) else if op.toList = ([62] : List UInt8) then some ((c == 1), true) else if op.toList = ([62, 61] : List UInt8) then some ((c != (-1)), true) else some (false, false)) = some (scanH tblH op c) := by
    simp only [q1, q2, q3, q4, q5, q6, tblH, scanH]
    rcases hin with rfl | rfl | rfl <;> (repeat' split) <;> first | rfl | contradiction
  rw [e]
  exact Ev.now _
theorem rHolds_ev (kind : Int) (p : ByteArray) (l : List Term) (op : ByteArray) (a b : Term) (e : List RPair) (he : e.length ≤ 1000000) (be : bP (e.map toP)) (ba : bTerm a) (bb : bTerm b) :
    Ev (fun k => lambrequinref12_Holds.f k kind p l op a.isVar a.name a.val.isSym a.val.sym a.val.n b.isVar b.name b.val.isSym b.val.sym b.val.n e) (hOf kind op (valueOf a (e.map toP)) (valueOf b (e.map toP))) := by
  unfold lambrequinref12_Holds.f hOf
  refine Ev.bind (rValue_ev a e he) (Ev.bind (rValue_ev b e he) ?_)
  by_cases c : kind = 3
  · rw [if_pos c]
    refine Ev.pos c ?_
    cases ha : valueOf a (e.map toP) with
    | none => exact Ev.neg (by simp [tup]) (Ev.now _)
    | some v =>
      cases hb : valueOf b (e.map toP) with
      | none => exact Ev.pos rfl (Ev.neg (by simp [tup]) (Ev.now _))
      | some u => exact Ev.pos rfl (Ev.pos rfl (Ev.bind (rvHolds_ev op (valB be ba ha) (valB be bb hb)) (Ev.now _)))
  · rw [if_neg c]
    exact Ev.neg c (Ev.now _)
theorem rVal_eq (a b : Val) : (!(a.isSym == b.isSym) || (!((a.sym.toList) == (b.sym.toList)) || (!(a.n == b.n)))) = !decide (a = b) := by
  rcases a with ⟨s, t, u⟩; rcases b with ⟨s', t', u'⟩
  rw [Bool.eq_iff_iff]
  simp [lib_ba_eq]
theorem rSame3_l0 (a b : List Val) (ha : a.length ≤ 1000000) : ∀ (r s : List Val) (n : Nat), a.drop n = r → b.drop n = s → r.length = s.length → Ev (fun k => lambrequinref03_Same.l0 k a b n) (decide (r = s))
  | [], [], n, h, h', hl => by
    refine Ev.step (fun k => by rw [lambrequinref03_Same.l0]) ?_
    exact Ev.neg (drop_end h) (Ev.some (by simp))
  | [], _ :: _, n, h, h', hl => by simp at hl
  | _ :: _, [], n, h, h', hl => by simp at hl
  | x :: r, y :: s, n, h, h', hl => by
    obtain ⟨h1, h2, h3, h4, h5⟩ := drop_more h (by omega)
    have hb : b.length ≤ 1000000 := by
      have e1 := congrArg List.length h
      have e2 := congrArg List.length h'
      simp at e1 e2 hl
      omega
    obtain ⟨g1, g2, g3, g4, g5⟩ := drop_more h' (by omega)
    refine Ev.step (fun k => by rw [lambrequinref03_Same.l0]) ?_
    refine Ev.pos h1 (Ev.pos h2 (Ev.pos g1 ?_))
    rw [show rd_T24 a n = x from h3 _, show rd_T24 b n = y from g3 _, h5, rVal_eq]
    by_cases c : x = y
    · rw [decide_eq_true c]
      exact Ev.neg (by simp) (Ev.iff (rSame3_l0 a b ha r s (n + 1) h4 g4 (by simpa using hl)) (by simp [c]))
    · rw [decide_eq_false c]
      exact Ev.pos rfl (Ev.some (by simp [c]))
theorem rSame3_ev (a b : List Val) (ha : a.length ≤ 1000000) : Ev (fun k => lambrequinref03_Same.f k a b) (decide (a = b)) := by
  unfold lambrequinref03_Same.f
  by_cases c : (a.length : Int) = (b.length : Int)
  · exact Ev.pos c (rSame3_l0 a b ha a b 0 rfl rfl (by omega))
  · refine Ev.neg c (Ev.some ?_)
    rw [decide_eq_false]
    rintro rfl
    exact c rfl
theorem SubstMatches_pure (x0 : Atom) (n0 : x0.args.length ≤ 9223372036854775807) (b0 : bAtom x0) (x1 : List Val) (y1 : x1.length * 32 ≤ 140737488351232) (b1 : x1.length ≤ 9223372036854775807 ∧ ∀ y ∈ x1, bVal y) (x2 : Liter) (n2 : x2.atom.args.length ≤ 9223372036854775807) (b2 : bLiter x2) (x3 : List RPair) (y3 : x3.length * 48 ≤ 140737488351232) (b3 : x3.length ≤ 9223372036854775807 ∧ ∀ y ∈ x3, bRPair y) :
    ∃ k, lambrequinlaw12_SubstMatches.f k x0.pred x0.args x1 x2.kind x2.atom.pred x2.atom.args x2.op x2.l.isVar x2.l.name x2.l.val.isSym x2.l.val.sym x2.l.val.n x2.r.isVar x2.r.name x2.r.val.isSym x2.r.val.sym x2.r.val.n x3 = some true := by
  refine Ev.rounds (g := fun k => lambrequinlaw12_SubstMatches.f k x0.pred x0.args x1 x2.kind x2.atom.pred x2.atom.args x2.op x2.l.isVar x2.l.name x2.l.val.isSym x2.l.val.sym x2.l.val.n x2.r.isVar x2.r.name x2.r.val.isSym x2.r.val.sym x2.r.val.n x3) ?_
  unfold lambrequinlaw12_SubstMatches.f
  refine Ev.bind shown12_ev ?_
  refine Ev.step (fun k => by rw [lambrequinlaw12_SubstMatches.j0]) ?_
  refine Ev.pure (few_ev x3) ?_
  by_cases c : (x3.length : Int) ≤ 30
  · refine Ev.pos (decide_eq_true c) ?_
    by_cases c1 : (x0.args.length : Int) > 30
    · rw [decide_eq_true c1]
      refine Ev.step (fun k => by rw [lambrequinlaw12_SubstMatches.j1]) ?_
      exact Ev.pos rfl (Ev.now _)
    · rw [decide_eq_false c1]
      refine Ev.step (fun k => by rw [lambrequinlaw12_SubstMatches.j1]) ?_
      have hl : (x3.map toP).length ≤ 30 := by simp; omega
      have be : bP (x3.map toP) := fun p hp => by
        obtain ⟨q, hq, rfl⟩ := List.mem_map.1 hp
        exact (b3.2 q hq).2
      refine Ev.neg (by simp) (Ev.bind (env_ev x3 (by omega)) (Ev.bind (match_ev x0.pred x0.args x1 _ (by omega) (by omega)) (Ev.bind (rMatch_ev x0.pred x0.args x1 x3 (by omega) (by omega) b0.2.2 b1.2 be) ?_)))
      refine Ev.bind (env_ev x3 (by omega)) (Ev.bind (ground_ev x0.pred x0.args _ (by omega)) (Ev.bind (rGround_ev x0.pred x0.args x3 (by omega) (by omega)) ?_))
      refine Ev.bind (env_ev x3 (by omega)) (Ev.pure (holds_eq x2.kind x2.atom.pred x2.atom.args x2.op x2.l x2.r _) (Ev.bind (rHolds_ev x2.kind x2.atom.pred x2.atom.args x2.op x2.l x2.r x3 (by omega) be b2.2.2.2.1 b2.2.2.2.2) ?_))
      refine Ev.step (fun k => by rw [lambrequinlaw12_SubstMatches.j2]) ?_
      refine Ev.bind (env_ev x3 (by omega)) (Ev.pure (value_eq x2.l _) (Ev.bind (rValue_ev x2.l x3 (by omega)) (Ev.pos rfl ?_)))
      have hm1 : (mtup (matchOf x0.args x1 (x3.map toP))).1.length ≤ 60 := by
        cases hm : matchOf x0.args x1 (x3.map toP) with
        | none => simp [mtup]
        | some x =>
          unfold matchOf at hm
          split at hm
          · have := len_match x0.args x1 hm
            simp only [mtup]
            omega
          · cases hm
      have hg1 : (gtup [] (groundOf x0.args (x3.map toP))).1.length ≤ 30 := by
        cases hg : groundOf x0.args (x3.map toP) with
        | none => simp [gtup]
        | some g =>
          have := ground_len x0.args hg
          simp only [gtup, List.nil_append]
          omega
      have em : (mtup (matchOf x0.args x1 (x3.map toP))).1.map toR = (mtupR (matchOf x0.args x1 (x3.map toP))).1 := by cases matchOf x0.args x1 (x3.map toP) <;> rfl
      have em2 : (mtup (matchOf x0.args x1 (x3.map toP))).2 = (mtupR (matchOf x0.args x1 (x3.map toP))).2 := by cases matchOf x0.args x1 (x3.map toP) <;> rfl
      refine Ev.bind (back_ev _ (by omega)) (Ev.bind (rSame_ev _ _ (by simp; omega)) (Ev.pos (by simpa using em) (Ev.pos (by simpa using em2) ?_)))
      refine Ev.bind (rSame3_ev _ _ (by omega)) (Ev.pos (by simp) (Ev.pos (by simp) (Ev.pos (by simp) (Ev.pos (by simp) (Ev.pos (by simp) (Ev.some (by simp)))))))
  · refine Ev.neg (by simpa using c) ?_
    refine Ev.step (fun k => by rw [lambrequinlaw12_SubstMatches.j1]) ?_
    exact Ev.pos rfl (Ev.now _)
theorem SubstMatches_walk (w : World) (x0 : Atom) (A0_1 : Option Addr) (c0_1 : Nat) (l0_1 : x0.args.length ≤ c0_1) (g0_1 : Kd.C k49 w A0_1 x0.args.length x0.args) (b0 : bAtom x0) (x1 : (List Val)) (A1 : Option Addr) (c1 : Nat) (l1 : x1.length ≤ c1) (g1 : Kd.C k24 w A1 x1.length x1) (y1 : x1.length * 32 ≤ 140737488351232) (b1 : x1.length ≤ 9223372036854775807 ∧ ∀ y ∈ x1, bVal y) (x2 : Liter) (A2_2 : Option Addr) (c2_2 : Nat) (l2_2 : x2.atom.args.length ≤ c2_2) (g2_2 : Kd.C k49 w A2_2 x2.atom.args.length x2.atom.args) (b2 : bLiter x2) (x3 : (List RPair)) (A3 : Option Addr) (c3 : Nat) (l3 : x3.length ≤ c3) (g3 : Kd.C k69 w A3 x3.length x3) (y3 : x3.length * 48 ≤ 140737488351232) (b3 : x3.length ≤ 9223372036854775807 ∧ ∀ y ∈ x3, bRPair y) :
    Calls Try.prog 8 #[.agg #[.string x0.pred, .slice A0_1 x0.args.length c0_1], .slice A1 x1.length c1, .agg #[.int .i64 x2.kind, .string x2.atom.pred, .slice A2_2 x2.atom.args.length c2_2, .string x2.op, .bool x2.l.isVar, .string x2.l.name, .bool x2.l.val.isSym, .string x2.l.val.sym, .int .i64 x2.l.val.n, .bool x2.r.isVar, .string x2.r.name, .bool x2.r.val.isSym, .string x2.r.val.sym, .int .i64 x2.r.val.n], .slice A3 x3.length c3] w fun e w' => e = .returned (.bool true) ∧ Below w.heap.size w w' := by
  obtain ⟨k, h⟩ := SubstMatches_pure x0 g0_1.2.1 b0 x1 y1 b1 x2 g2_2.2.1 b2 x3 y3 b3
  exact (lambrequinlaw12_SubstMatches.calls k x0.pred A0_1 c0_1 x0.args A1 c1 x1 x2.kind x2.atom.pred A2_2 c2_2 x2.atom.args x2.op x2.l.isVar x2.l.name x2.l.val.isSym x2.l.val.sym x2.l.val.n x2.r.isVar x2.r.name x2.r.val.isSym x2.r.val.sym x2.r.val.n A3 c3 x3 true w g0_1 l0_1 g1 l1 g2_2 l2_2 g3 l3 h).mono (fun e w' h' => ⟨h'.1, h'.2⟩)
end Go.Proofs.Ytdanihbbnepjpaa.H
namespace Go.Proofs.Ytdanihbbnepjpaa.substMatches
open Go.ChangeShapes Go.WideShapes Go.ChangeAt Go.RowKit Go.Proofs.Ytdanihbbnepjpaa.H Go.Proofs.YtdanihbbnepjpaaW.PrintWords
open Go.ChangeMaps (open_string shut_string)
set_option linter.unusedVariables false
theorem own : ownKnob Try.prog.godebug = none := by kernel_rfl
theorem laidOut : laidOutB Try.prog = true := by kernel_rfl
set_option maxRecDepth 100000 in
theorem lifted (os : Os) (started : os.Started) (H : Type) (enc : TypeId × Value → H) :
    ReturnsInHanded {} Try.checked os 8 .any (Rows.substMatchesSpec.pre6 enc Try.prog Try.f8 Rows.substMatchesRow.domain false) (Rows.substMatchesSpec.post enc Try.prog Try.f8 false true false false) := by
  refine returnsInHanded_of_change_sized (C := Try.checked) own started (by kernel_rfl) Try.func8
    (ChangeSpec.witness6 (enc := enc) (C := Try.checked) false ⟨#[], #[.agg #[.string ⟨#[]⟩, .slice none 0 0], .slice none 0 0, .agg #[.int .i64 0, .string ⟨#[]⟩, .slice none 0 0, .string ⟨#[]⟩, .bool false, .string ⟨#[]⟩, .bool false, .string ⟨#[]⟩, .int .i64 0, .bool false, .string ⟨#[]⟩, .bool false, .string ⟨#[]⟩, .int .i64 0], .slice none 0 0], []⟩ 8 (by kernel_rfl) (by kernel_rfl) (by kernel_rfl) (by kernel_rfl)) ?_
  intro W base args ds gs before hval0 hW hcnd hsz0 _
  have hsz : (DataW.weightsEach Try.prog (Try.f8.params.toList ++ Rows.substMatchesSpec.plain.varTypes Try.prog) (ds ++ gs)).all (· ≤ reachBytes) = true := hsz0
  have hval : ∀ (j : Nat) t v, Try.f8.params[j]? = some t → args[j]? = some v → Value.okWide Try.prog W .any base t v := hval0
  have hW' := hW
  obtain ⟨p, q, hA0, hV, rfl, hfz, hnd⟩ := hW
  have hA : DataW.TrodAll enc Try.prog W 0 (fun _ => true) true Try.f8.params.toList args.toList ds p := hA0
  rw [Try.params8] at hA hval hsz
  obtain ⟨v0, vs0, d0, ds0, p0, q0, hargs, rfl, rfl, h0, r0⟩ := trodAll_cons hA
  obtain ⟨v1, vs1, d1, ds1, p1, q1, rfl, rfl, rfl, h1, r1⟩ := trodAll_cons r0
  obtain ⟨v2, vs2, d2, ds2, p2, q2, rfl, rfl, rfl, h2, r2⟩ := trodAll_cons r1
  obtain ⟨v3, vs3, d3, ds3, p3, q3, rfl, rfl, rfl, h3, r3⟩ := trodAll_cons r2
  obtain ⟨rfl, rfl, rfl⟩ := trodAll_nil r3
  obtain rfl : args = #[v0, v1, v2, v3] := by cases args; simp_all
  obtain ⟨rfl, rfl⟩ := trodVars_none hV
  have k0 := h0
  have lt0 : ∀ x ∈ p0, x.block < W.heap.size := by obtain ⟨m, hm⟩ := k0; exact DataW.trod_lt m _ _ _ hm
  obtain ⟨cs0, rfl, -⟩ := okWide_struct Try.underlying46 (hval 0 46 v0 rfl rfl)
  obtain ⟨x0, g0, b0⟩ := opens_Atom.argB k0
  obtain ⟨A0_1, c0_1, e0, l0_1, g0_1⟩ := k46_open g0
  obtain ⟨cl0⟩ := cs0
  obtain rfl : cl0 = _ := e0
  have k1 := h1
  have lt1 : ∀ x ∈ p1, x.block < W.heap.size := by obtain ⟨m, hm⟩ := k1; exact DataW.trod_lt m _ _ _ hm
  obtain ⟨a1, len1, cap1, rfl⟩ := okWide_slice Try.underlying47 (hval 1 47 v1 rfl rfl)
  have y1 := sized_row hsz (j := 1) (t := 47) rfl rfl Try.underlying47 (B := 32) (by kernel_rfl) h1
  obtain ⟨x1, ⟨A1, c1, e1, l1, g1⟩, b1⟩ := (opens_slice Try.underlying47 (by kernel_rfl) opens_Val 24).argB k1
  simp only [Value.cells, List.cons.injEq, and_true, Value.slice.injEq] at e1
  obtain ⟨rfl, rfl, rfl⟩ := e1
  have k2 := h2
  have lt2 : ∀ x ∈ p2, x.block < W.heap.size := by obtain ⟨m, hm⟩ := k2; exact DataW.trod_lt m _ _ _ hm
  obtain ⟨cs2, rfl, -⟩ := okWide_struct Try.underlying58 (hval 2 58 v2 rfl rfl)
  obtain ⟨x2, g2, b2⟩ := opens_Liter.argB k2
  obtain ⟨A2_2, c2_2, e2, l2_2, g2_2⟩ := k58_open g2
  obtain ⟨cl2⟩ := cs2
  obtain rfl : cl2 = _ := e2
  have k3 := h3
  have lt3 : ∀ x ∈ p3, x.block < W.heap.size := by obtain ⟨m, hm⟩ := k3; exact DataW.trod_lt m _ _ _ hm
  obtain ⟨a3, len3, cap3, rfl⟩ := okWide_slice Try.underlying22 (hval 3 22 v3 rfl rfl)
  have y3 := sized_row hsz (j := 3) (t := 22) rfl rfl Try.underlying22 (B := 48) (by kernel_rfl) h3
  obtain ⟨x3, ⟨A3, c3, e3, l3, g3⟩, b3⟩ := (opens_slice Try.underlying22 (by kernel_rfl) opens_RPair 69).argB k3
  simp only [Value.cells, List.cons.injEq, and_true, Value.slice.injEq] at e3
  obtain ⟨rfl, rfl, rfl⟩ := e3
  clear hA0 hval0 hsz0 hsz
  refine (SubstMatches_walk W x0 A0_1 c0_1 l0_1 g0_1 b0 x1 a1 cap1 l1 g1 y1 b1 x2 A2_2 c2_2 l2_2 g2_2 b2 x3 a3 cap3 l3 g3 y3 b3).mono fun e W' ⟨he, bel⟩ => ?_
  subst he
  exact ⟨_, rfl, _, _, _, [], _, [], hW', trodAll_mk1 (shut_bool Try.underlying4 _), (trodAll_cons_mk (Below.trod laidOut (by kernel_rfl) (of_decide_eq_true (by kernel_rfl)) k0 bel lt0) (trodAll_cons_mk (Below.trod laidOut (by kernel_rfl) (of_decide_eq_true (by kernel_rfl)) k1 bel lt1) (trodAll_cons_mk (Below.trod laidOut (by kernel_rfl) (of_decide_eq_true (by kernel_rfl)) k2 bel lt2) (trodAll_cons_mk (Below.trod laidOut (by kernel_rfl) (of_decide_eq_true (by kernel_rfl)) k3 bel lt3) trodAll_mk0)))), rfl, bel.frame _, fun h => by cases h⟩
theorem over : Rows.substMatchesRow.holds Try.pinned (OpenSpec.ofChange Rows.substMatchesSpec) :=
  OpenClaim.holds_of_wide 8 Try.f8 rfl rfl rfl rfl rfl rfl rfl ⟨rfl, rfl, rfl, rfl, rfl⟩ rfl rfl rfl rfl rfl (by kernel_rfl) Try.func8 (by kernel_rfl)
    (of_decide_eq_true (by kernel_rfl)) (by unfold Func.isWrapper; first | (rw [if_pos (by decide +kernel)]; kernel_rfl) | (rw [if_neg (by decide +kernel)]; exact ⟨rfl, rfl⟩))
    (fun os started H enc _ => lifted os started H enc)
theorem proved : Rows.SubstMatchesSaid := over
end Go.Proofs.Ytdanihbbnepjpaa.substMatches
namespace Go.Proofs.Ytdanihbbnepjpaa
theorem substMatches_holds : Rows.SubstMatchesSaid := substMatches.proved
#print axioms substMatches_holds
end Go.Proofs.Ytdanihbbnepjpaa

/- RowCfgFlows of the seat's law CfgFlows: the law holds, under the statement's own conditions. -/
import Derived.Test.YtnepgcbgkhikkaaNXCfgFlows
import Derived.Test.YtnepgcbgkhikkaaNXCfgFlows2
import Derived.Deep.DeepMust
import Derived.Test.YtnepgcbgkhikkaaNXCfgFlows1
import Derived.Maps.Own
import Derived.Maps.Views
set_option linter.unusedVariables false
set_option linter.unusedSimpArgs false
set_option linter.unusedSectionVars false
namespace Go.Proofs.Ytnepgcbgkhikkaa.H
open Go.RowKit Go.Proofs.YtnepgcbgkhikkaaW.PrintWords Go.Proofs.YtnepgcbgkhikkaaW.PrintLast Go.Proofs.YtnepgcbgkhikkaaW.PrintMore
attribute [local go_sem] max2_int min2_int max_two min_two max_three min_three max_four min_four
mutual
def lambrequinref20_Lives.j0 : Nat → List (Stmt) → Int → ByteArray → Bool → Option (Bool)
 | 0, _, _, _, _ => none
 | k + 1, x0, x1, x2, x19 => if x19 = true then (some false) else (if 0 ≤ (x0.length : Int) then (if ((x0.length : Int) : Int).toNat ≤ 281474976710656 then (lambrequinref20_Lives.l0 k x0 x1 x2 (List.replicate ((x0.length : Int) : Int).toNat false) 0) else (none)) else (none))
def lambrequinref20_Lives.l0 : Nat → List (Stmt) → Int → ByteArray → List Bool → Int → Option (Bool)
 | 0, _, _, _, _, _ => none
 | k + 1, x0, x1, x2, x7, x8 => if x8 < (x0.length : Int) then (if 0 ≤ x8 then ((lambrequinref20_Uses.f k ((rd_T30 x0 x8).kind) ((rd_T30 x0 x8).x) ((rd_T30 x0 x8).y) ((rd_T30 x0 x8).z) ((rd_T30 x0 x8).op) ((rd_T30 x0 x8).n) ((rd_T30 x0 x8).a) ((rd_T30 x0 x8).b)).bind fun t105 => ((lambrequinref09_In.f k t105 x2).bind fun t108 => (if x8 < (x7.length : Int) then (lambrequinref20_Lives.l0 k x0 x1 x2 (x7.set (x8 : Int).toNat t108) (wrap64 (x8 + 1))) else (none)))) else (none)) else (lambrequinref20_Lives.l1 k x0 x1 x2 x7 0)
def lambrequinref20_Lives.l1 : Nat → List (Stmt) → Int → ByteArray → List Bool → Int → Option (Bool)
 | 0, _, _, _, _, _ => none
 | k + 1, x0, x1, x2, x7, x9 => if x9 < (x0.length : Int) then (lambrequinref20_Lives.l2 k x0 x1 x2 x7 x9 0) else (if 0 ≤ x1 then (if x1 < (x7.length : Int) then (some (rdOf false x7 x1)) else (none)) else (none))
def lambrequinref20_Lives.l2 : Nat → List (Stmt) → Int → ByteArray → List Bool → Int → Int → Option (Bool)
 | 0, _, _, _, _, _, _ => none
 | k + 1, x0, x1, x2, x7, x9, x10 => if x10 < (x0.length : Int) then (lambrequinref20_Lives.l3 k x0 x1 x2 x7 x9 x10 0) else (lambrequinref20_Lives.l1 k x0 x1 x2 x7 (wrap64 (x9 + 1)))
def lambrequinref20_Lives.l3 : Nat → List (Stmt) → Int → ByteArray → List Bool → Int → Int → Int → Option (Bool)
 | 0, _, _, _, _, _, _, _ => none
 | k + 1, x0, x1, x2, x7, x9, x10, x11 => if x11 < (x0.length : Int) then (if 0 ≤ x11 then (if x11 < (x7.length : Int) then (if rdOf false x7 x11 = true then (if 0 ≤ x10 then (if x10 < (x0.length : Int) then ((lambrequinref20_Defines.f ((rd_T30 x0 x10).kind) ((rd_T30 x0 x10).x) ((rd_T30 x0 x10).y) ((rd_T30 x0 x10).z) ((rd_T30 x0 x10).op) ((rd_T30 x0 x10).n) ((rd_T30 x0 x10).a) ((rd_T30 x0 x10).b) x2).bind fun t113 => (if t113 = true then (lambrequinref20_Lives.l3 k x0 x1 x2 x7 x9 x10 (wrap64 (x11 + 1))) else ((lambrequinref20_Leads.f k x0 x10 x11).bind fun t114 => (if t114 = true then (if x10 < (x7.length : Int) then (lambrequinref20_Lives.l3 k x0 x1 x2 (x7.set (x10 : Int).toNat true) x9 x10 (wrap64 (x11 + 1))) else (none)) else (lambrequinref20_Lives.l3 k x0 x1 x2 x7 x9 x10 (wrap64 (x11 + 1))))))) else (none)) else (none)) else (lambrequinref20_Lives.l3 k x0 x1 x2 x7 x9 x10 (wrap64 (x11 + 1)))) else (none)) else (none)) else (lambrequinref20_Lives.l2 k x0 x1 x2 x7 x9 (wrap64 (x10 + 1)))
end
def lambrequinref20_Lives.f (k : Nat) (l0 : List (Stmt)) (a1 : Int) (a2 : ByteArray) : Option (Bool) := if a1 < 0 then (lambrequinref20_Lives.j0 k l0 a1 a2 true) else (lambrequinref20_Lives.j0 k l0 a1 a2 (decide (a1 ≥ (l0.length : Int))))
theorem lambrequinref20_Lives.mono_l : ∀ k, (∀ y0 y1 y2 y3, LeO (lambrequinref20_Lives.j0 k y0 y1 y2 y3) (lambrequinref20_Lives.j0 (k + 1) y0 y1 y2 y3)) ∧ (∀ y0 y1 y2 y3 y4, LeO (lambrequinref20_Lives.l0 k y0 y1 y2 y3 y4) (lambrequinref20_Lives.l0 (k + 1) y0 y1 y2 y3 y4)) ∧ (∀ y0 y1 y2 y3 y4, LeO (lambrequinref20_Lives.l1 k y0 y1 y2 y3 y4) (lambrequinref20_Lives.l1 (k + 1) y0 y1 y2 y3 y4)) ∧ (∀ y0 y1 y2 y3 y4 y5, LeO (lambrequinref20_Lives.l2 k y0 y1 y2 y3 y4 y5) (lambrequinref20_Lives.l2 (k + 1) y0 y1 y2 y3 y4 y5)) ∧ (∀ y0 y1 y2 y3 y4 y5 y6, LeO (lambrequinref20_Lives.l3 k y0 y1 y2 y3 y4 y5 y6) (lambrequinref20_Lives.l3 (k + 1) y0 y1 y2 y3 y4 y5 y6))
 | 0 => ⟨fun _ _ _ _ r h => by simp [lambrequinref20_Lives.j0] at h, fun _ _ _ _ _ r h => by simp [lambrequinref20_Lives.l0] at h, fun _ _ _ _ _ r h => by simp [lambrequinref20_Lives.l1] at h, fun _ _ _ _ _ _ r h => by simp [lambrequinref20_Lives.l2] at h, fun _ _ _ _ _ _ _ r h => by simp [lambrequinref20_Lives.l3] at h⟩
 | k + 1 => by
  obtain ⟨ih0, ih1, ih2, ih3, ih4⟩ := lambrequinref20_Lives.mono_l k
  refine ⟨?_, ?_, ?_, ?_, ?_⟩
  ·intro y0 y1 y2 y3
   unfold lambrequinref20_Lives.j0
   repeat' first
   | (with_reducible exact ih0 _ _ _ _)
   | (with_reducible exact ih1 _ _ _ _ _)
   | (with_reducible exact ih2 _ _ _ _ _)
   | (with_reducible exact ih3 _ _ _ _ _ _)
   | (with_reducible exact ih4 _ _ _ _ _ _ _)
   | (with_reducible exact lambrequinref09_In.mono _ _ _)
   | (with_reducible exact lambrequinref20_Leads.mono _ _ _ _)
   | (with_reducible exact lambrequinref20_Uses.mono _ _ _ _ _ _ _ _ _)
   | (with_reducible exact LeO.refl _)
   | (with_reducible exact LeO.none _)
   | (with_reducible refine LeO.ite ?_ ?_)
   | (with_reducible refine LeO.bind ?_ (fun _ => ?_))
   | exact ih0 _ _ _ _
   | exact ih1 _ _ _ _ _
   | exact ih2 _ _ _ _ _
   | exact ih3 _ _ _ _ _ _
   | exact ih4 _ _ _ _ _ _ _
   | exact lambrequinref09_In.mono _ _ _
   | exact lambrequinref20_Leads.mono _ _ _ _
   | exact lambrequinref20_Uses.mono _ _ _ _ _ _ _ _ _
   | exact LeO.none _
   | refine LeO.ite ?_ ?_
   | refine LeO.bind ?_ (fun _ => ?_)
  ·intro y0 y1 y2 y3 y4
   unfold lambrequinref20_Lives.l0
   repeat' first
   | (with_reducible exact ih0 _ _ _ _)
   | (with_reducible exact ih1 _ _ _ _ _)
   | (with_reducible exact ih2 _ _ _ _ _)
   | (with_reducible exact ih3 _ _ _ _ _ _)
   | (with_reducible exact ih4 _ _ _ _ _ _ _)
   | (with_reducible exact lambrequinref09_In.mono _ _ _)
   | (with_reducible exact lambrequinref20_Leads.mono _ _ _ _)
   | (with_reducible exact lambrequinref20_Uses.mono _ _ _ _ _ _ _ _ _)
   | (with_reducible exact LeO.refl _)
   | (with_reducible exact LeO.none _)
   | (with_reducible refine LeO.ite ?_ ?_)
   | (with_reducible refine LeO.bind ?_ (fun _ => ?_))
   | exact ih0 _ _ _ _
   | exact ih1 _ _ _ _ _
   | exact ih2 _ _ _ _ _
   | exact ih3 _ _ _ _ _ _
   | exact ih4 _ _ _ _ _ _ _
   | exact lambrequinref09_In.mono _ _ _
   | exact lambrequinref20_Leads.mono _ _ _ _
   | exact lambrequinref20_Uses.mono _ _ _ _ _ _ _ _ _
   | exact LeO.none _
   | refine LeO.ite ?_ ?_
   | refine LeO.bind ?_ (fun _ => ?_)
  ·intro y0 y1 y2 y3 y4
   unfold lambrequinref20_Lives.l1
   repeat' first
   | (with_reducible exact ih0 _ _ _ _)
   | (with_reducible exact ih1 _ _ _ _ _)
   | (with_reducible exact ih2 _ _ _ _ _)
   | (with_reducible exact ih3 _ _ _ _ _ _)
   | (with_reducible exact ih4 _ _ _ _ _ _ _)
   | (with_reducible exact lambrequinref09_In.mono _ _ _)
   | (with_reducible exact lambrequinref20_Leads.mono _ _ _ _)
   | (with_reducible exact lambrequinref20_Uses.mono _ _ _ _ _ _ _ _ _)
   | (with_reducible exact LeO.refl _)
   | (with_reducible exact LeO.none _)
   | (with_reducible refine LeO.ite ?_ ?_)
   | (with_reducible refine LeO.bind ?_ (fun _ => ?_))
   | exact ih0 _ _ _ _
   | exact ih1 _ _ _ _ _
   | exact ih2 _ _ _ _ _
   | exact ih3 _ _ _ _ _ _
   | exact ih4 _ _ _ _ _ _ _
   | exact lambrequinref09_In.mono _ _ _
   | exact lambrequinref20_Leads.mono _ _ _ _
   | exact lambrequinref20_Uses.mono _ _ _ _ _ _ _ _ _
   | exact LeO.none _
   | refine LeO.ite ?_ ?_
   | refine LeO.bind ?_ (fun _ => ?_)
  ·intro y0 y1 y2 y3 y4 y5
   unfold lambrequinref20_Lives.l2
   repeat' first
   | (with_reducible exact ih0 _ _ _ _)
   | (with_reducible exact ih1 _ _ _ _ _)
   | (with_reducible exact ih2 _ _ _ _ _)
   | (with_reducible exact ih3 _ _ _ _ _ _)
   | (with_reducible exact ih4 _ _ _ _ _ _ _)
   | (with_reducible exact lambrequinref09_In.mono _ _ _)
   | (with_reducible exact lambrequinref20_Leads.mono _ _ _ _)
   | (with_reducible exact lambrequinref20_Uses.mono _ _ _ _ _ _ _ _ _)
   | (with_reducible exact LeO.refl _)
   | (with_reducible exact LeO.none _)
   | (with_reducible refine LeO.ite ?_ ?_)
   | (with_reducible refine LeO.bind ?_ (fun _ => ?_))
   | exact ih0 _ _ _ _
   | exact ih1 _ _ _ _ _
   | exact ih2 _ _ _ _ _
   | exact ih3 _ _ _ _ _ _
   | exact ih4 _ _ _ _ _ _ _
   | exact lambrequinref09_In.mono _ _ _
   | exact lambrequinref20_Leads.mono _ _ _ _
   | exact lambrequinref20_Uses.mono _ _ _ _ _ _ _ _ _
   | exact LeO.none _
   | refine LeO.ite ?_ ?_
   | refine LeO.bind ?_ (fun _ => ?_)
  ·intro y0 y1 y2 y3 y4 y5 y6
   unfold lambrequinref20_Lives.l3
   repeat' first
   | (with_reducible exact ih0 _ _ _ _)
   | (with_reducible exact ih1 _ _ _ _ _)
   | (with_reducible exact ih2 _ _ _ _ _)
   | (with_reducible exact ih3 _ _ _ _ _ _)
   | (with_reducible exact ih4 _ _ _ _ _ _ _)
   | (with_reducible exact lambrequinref09_In.mono _ _ _)
   | (with_reducible exact lambrequinref20_Leads.mono _ _ _ _)
   | (with_reducible exact lambrequinref20_Uses.mono _ _ _ _ _ _ _ _ _)
   | (with_reducible exact LeO.refl _)
   | (with_reducible exact LeO.none _)
   | (with_reducible refine LeO.ite ?_ ?_)
   | (with_reducible refine LeO.bind ?_ (fun _ => ?_))
   | exact ih0 _ _ _ _
   | exact ih1 _ _ _ _ _
   | exact ih2 _ _ _ _ _
   | exact ih3 _ _ _ _ _ _
   | exact ih4 _ _ _ _ _ _ _
   | exact lambrequinref09_In.mono _ _ _
   | exact lambrequinref20_Leads.mono _ _ _ _
   | exact lambrequinref20_Uses.mono _ _ _ _ _ _ _ _ _
   | exact LeO.none _
   | refine LeO.ite ?_ ?_
   | refine LeO.bind ?_ (fun _ => ?_)
theorem lambrequinref20_Lives.mono : ∀ a0 a1 a2 k, LeO (lambrequinref20_Lives.f k a0 a1 a2) (lambrequinref20_Lives.f (k + 1) a0 a1 a2) := by
 intro a0 a1 a2 k
 obtain ⟨ih0, ih1, ih2, ih3, ih4⟩ := lambrequinref20_Lives.mono_l k
 unfold lambrequinref20_Lives.f
 repeat' first
   | (with_reducible exact ih0 _ _ _ _)
   | (with_reducible exact ih1 _ _ _ _ _)
   | (with_reducible exact ih2 _ _ _ _ _)
   | (with_reducible exact ih3 _ _ _ _ _ _)
   | (with_reducible exact ih4 _ _ _ _ _ _ _)
   | (with_reducible exact lambrequinref09_In.mono _ _ _)
   | (with_reducible exact lambrequinref20_Leads.mono _ _ _ _)
   | (with_reducible exact lambrequinref20_Uses.mono _ _ _ _ _ _ _ _ _)
   | (with_reducible exact LeO.refl _)
   | (with_reducible exact LeO.none _)
   | (with_reducible refine LeO.ite ?_ ?_)
   | (with_reducible refine LeO.bind ?_ (fun _ => ?_))
   | exact ih0 _ _ _ _
   | exact ih1 _ _ _ _ _
   | exact ih2 _ _ _ _ _
   | exact ih3 _ _ _ _ _ _
   | exact ih4 _ _ _ _ _ _ _
   | exact lambrequinref09_In.mono _ _ _
   | exact lambrequinref20_Leads.mono _ _ _ _
   | exact lambrequinref20_Uses.mono _ _ _ _ _ _ _ _ _
   | exact LeO.none _
   | refine LeO.ite ?_ ?_
   | refine LeO.bind ?_ (fun _ => ?_)
set_option maxHeartbeats 8000000 in
set_option maxRecDepth 100000 in
theorem lambrequinref20_Lives.calls (k : Nat) (A0 : Option Addr) (c0 : Nat) (l0 : List (Stmt)) (a1 : Int) (a2 : ByteArray) (r : Bool) (w : World) (hr0 : Kd.C k30 w A0 l0.length l0) (hc0 : l0.length ≤ c0) (h : lambrequinref20_Lives.f k l0 a1 a2 = some r) :
  Calls Try.prog 39 #[.slice A0 l0.length c0, .int .i64 a1, .string a2] w fun e w' => e = .returned (.bool r) ∧ Below w.heap.size w w' := by
 have hu30 := Try.underlying30
 have HR0 := am hr0
 have HC0 := am hc0
 clear hr0 hc0
 have HB := am (Below.refl w.heap.size w)
 have H : (if a1 < 0 then (lambrequinref20_Lives.j0 k l0 a1 a2 true) else (lambrequinref20_Lives.j0 k l0 a1 a2 (decide (a1 ≥ (l0.length : Int))))) = some r := h
 clear h
 have HC4 := am H
 clear H
 go_enter Try.func39, Try.ntmps39
 go_upto_region 1 with (fail)
 go_cut [19] (fun v19 wc => ∃ (kq : Nat) (x19_3 : Bool), v19 = .bool x19_3 ∧ Aside0 (lambrequinref20_Lives.j0 kq l0 a1 a2 x19_3 = some r) ∧ Aside0 (kq ≤ k) ∧ Aside0 (Below w.heap.size w wc))
 case first =>
  have H := HC4.out
  clear HC4
  by_cases c5 : a1 < 0
  ·rw [if_pos c5] at H
   have c5b0 : decide (a1 < 0) = true := decide_eq_true c5
   clear c5
   (first | rw [c5b0] | (simp only [i64_w, i32_w]; rw [c5b0]) | skip)
   have H' := am H
   clear H
   go_wp2
   go_meet
   case rel => exact ⟨_, (true), (by first | rfl | (simp; done) | (simp [*]; done)), H', ⟨by first | omega | exact Nat.le_refl _⟩, ⟨by repeat (first | (with_reducible first | exact HB.out | apply lA | apply lN | apply lD) | exact HB.out)⟩⟩
  ·rw [if_neg c5] at H
   have c5b0 : decide (a1 < 0) = false := decide_eq_false c5
   clear c5
   (first | rw [c5b0] | (simp only [i64_w, i32_w]; rw [c5b0]) | skip)
   have H' := am H
   clear H
   go_wp2
   go_meet
   case rel => exact ⟨_, (decide (a1 ≥ (l0.length : Int))), (by first | rfl | (simp; done) | (simp [*]; done)), H', ⟨by first | omega | exact Nat.le_refl _⟩, ⟨by repeat (first | (with_reducible first | exact HB.out | apply lA | apply lN | apply lD) | exact HB.out)⟩⟩
 case rest =>
  clear HC4
  try clear p2
  try clear c3
  try clear c5
  try clear c5b0
  obtain ⟨kq, x19_3, rfl, HA, HJ3, HB⟩ := hcut
  cases kq with
  | zero => exact absurd HA.out (by simp [lambrequinref20_Lives.j0])
  | succ kj3 =>
   have H := HA.out
   clear HA
   simp only [lambrequinref20_Lives.j0] at H
   by_cases c6 : x19_3 = true
   ·subst c6
    have H1 : (some false) = some r := by rw [if_pos rfl] at H; exact H
    clear H
    have H := H1
    clear H1
    obtain rfl := Option.some.inj H
    go_wp2
    go_ret
    exact ⟨by first | rfl | (simp [errW_none, errW_some] <;> rfl) | (simp [*, errW_none, errW_some] <;> rfl), by repeat (first | (with_reducible first | exact HB.out | apply lA | apply lN | apply lD) | exact HB.out)⟩
   ·replace c6 := Bool.eq_false_iff.mpr c6
    subst c6
    have H1 : (if 0 ≤ (l0.length : Int) then (if ((l0.length : Int) : Int).toNat ≤ 281474976710656 then (lambrequinref20_Lives.l0 kj3 l0 a1 a2 (List.replicate ((l0.length : Int) : Int).toNat false) 0) else (none)) else (none)) = some r := by rw [if_neg (show ¬ (false = true) by decide)] at H; exact H
    clear H
    have H := H1
    clear H1
    by_cases c7 : 0 ≤ (l0.length : Int)
    ·rw [if_pos c7] at H
     have c7b0 := eq_true c7
     have c7b1 : decide (0 ≤ (l0.length : Int)) = true := decide_eq_true c7
     clear c7
     by_cases c8 : ((l0.length : Int) : Int).toNat ≤ 281474976710656
     ·rw [if_pos c8] at H
      have c8b0 := eq_true c8
      have c8b1 : decide (((l0.length : Int) : Int).toNat ≤ 281474976710656) = true := decide_eq_true c8
      clear c8
      obtain ⟨y101, hy101⟩ : ∃ y_ : List Bool, y_ = (List.replicate ((l0.length : Int) : Int).toNat false) := ⟨_, rfl⟩
      replace H : (lambrequinref20_Lives.l0 kj3 l0 a1 a2 y101 0) = some r := by first | (rw [hy101]; with_reducible exact H) | (have H2_ := (Option.bind_some _ _).symm.trans H; rw [hy101]; with_reducible exact H2_) | (have H2_ := (Option.bind_some _ _).symm.trans H; with_reducible exact H2_) | with_reducible exact H | (rw [hy101]; exact H) | exact H
      have Ny101 := am hy101
      clear hy101
      have H' := am H
      clear H
      go_wp2_with (first | ((with_reducible refine gate_dst (N := 22) rfl ?_); (try (refine gate_guard (by rfl) ?_; dsimp only)); refine Kd.R_make Kd.bool _ 4 rfl (N := 22) rfl 41 _ _ rfl (l0.length : Int) rfl rfl Try.underlying41 (.bool false) 1 info4 rfl (by decide) (by omega) false (ok := fun _ => True) (okp := fun _ => True) rfl (fun _ hk => hk) trivial (of_decide_eq_true (by first | (with_reducible assumption) | assumption)) (Nat.le_trans (Nat.mul_le_mul_right _ (of_decide_eq_true (by first | (with_reducible assumption) | assumption) : (l0.length : Int).toNat ≤ 281474976710656)) (by omega)) (Below.refl _ _) (Nat.le_refl _) ?_; intro v102 w9 ho10 hb hg_ hnew_; clear hg_ hnew_; (first | rw [← Ny101.out] at ho10 | (simp only [Int.reduceToNat] at ho10; rw [← Ny101.out] at ho10)); have HO103 := am (Kd.R_lower ho10 (below_size (by repeat (first | (with_reducible first | exact HB.out | apply lA | apply lN | apply lD) | exact HB.out)))); replace HB := am (below_step (by repeat (first | (with_reducible first | exact HB.out | apply lA | apply lN | apply lD) | exact HB.out)) hb); clear hb ho10))
      go_loopg [8] kj3 (fun kq v8 w' => ∃ (x7_2 : List Bool) (x8_2 : Int), v8 = .int .i64 x8_2 ∧ Aside0 (lambrequinref20_Lives.l0 kq l0 a1 a2 x7_2 x8_2 = some r) ∧ Aside0 (kq ≤ kj3) ∧ Aside0 (Kd.R Kd.bool 4 w' w.heap.size (fun _ => True) v102 x7_2) ∧ Aside0 (Below w.heap.size w w'))
      case atStart => exact ⟨(y101), (0), (by first | rfl | (simp; done) | (simp [*]; done)), H', ⟨Nat.le_refl _⟩, ⟨by (with_reducible repeat (first | apply Ra | apply Rn | apply Rd)); exact HO103.out⟩, ⟨by repeat (first | (with_reducible first | exact HB.out | apply lA | apply lN | apply lD) | exact HB.out)⟩⟩
      case round =>
       clear H'
       try clear p2
       try clear c3
       try clear c5
       try clear c5b0
       try clear c6
       try clear c7
       try clear c7b0
       try clear c7b1
       try clear c8
       try clear c8b0
       try clear c8b1
       try clear p2
       obtain ⟨x7_2, x8_2, rfl, HA, HK2, HO_7, HB⟩ := hrel
       cases gk with
       | zero => exact absurd HA.out (by simp [lambrequinref20_Lives.l0])
       | succ k2 =>
        have H := HA.out
        clear HA
        simp only [lambrequinref20_Lives.l0] at H
        by_cases c11 : x8_2 < (l0.length : Int)
        ·rw [if_pos c11] at H
         have c11b0 : decide (x8_2 < (l0.length : Int)) = true := decide_eq_true c11
         clear c11
         by_cases c12 : 0 ≤ x8_2
         ·rw [if_pos c12] at H
          have c12b0 : decide (0 ≤ x8_2) = true := decide_eq_true c12
          clear c12
          replace H := Option.bind_eq_some_iff.mp H
          obtain ⟨t105, A130, H⟩ := H
          replace H : ((lambrequinref09_In.f k2 t105 a2).bind fun t108 => (if x8_2 < (x7_2.length : Int) then (lambrequinref20_Lives.l0 k2 l0 a1 a2 (x7_2.set (x8_2 : Int).toNat t108) (wrap64 (x8_2 + 1))) else (none))) = some r := H
          have A13 := am A130
          clear A130
          replace H := Option.bind_eq_some_iff.mp H
          obtain ⟨t108, A140, H⟩ := H
          replace H : (if x8_2 < (x7_2.length : Int) then (lambrequinref20_Lives.l0 k2 l0 a1 a2 (x7_2.set (x8_2 : Int).toNat t108) (wrap64 (x8_2 + 1))) else (none)) = some r := H
          have A14 := am A140
          clear A140
          by_cases c15 : x8_2 < (x7_2.length : Int)
          ·rw [if_pos c15] at H
           have c15b0 : decide (x8_2 < (x7_2.length : Int)) = true := decide_eq_true c15
           clear c15
           obtain ⟨y109, hy109⟩ : ∃ y_ : List Bool, y_ = (x7_2.set (x8_2 : Int).toNat t108) := ⟨_, rfl⟩
           replace H : (lambrequinref20_Lives.l0 k2 l0 a1 a2 y109 (wrap64 (x8_2 + 1))) = some r := by first | (rw [hy109]; with_reducible exact H) | (have H2_ := (Option.bind_some _ _).symm.trans H; rw [hy109]; with_reducible exact H2_) | (have H2_ := (Option.bind_some _ _).symm.trans H; with_reducible exact H2_) | with_reducible exact H | (rw [hy109]; exact H) | exact H
           have Ny109 := am hy109
           clear hy109
           have H' := am H
           clear H
           have p104 : 0 ≤ (x8_2 : Int) := of_decide_eq_true (by first | (with_reducible assumption) | assumption)
           have q104 : x8_2 < (l0.length : Int) := of_decide_eq_true (by first | (with_reducible assumption) | assumption)
           obtain ⟨ad104, e104, hx104_0, hx104_1, hx104_2, hx104_3, hx104_4, hx104_5, hx104_6, hx104_7⟩ := at_T30 HR0.out x8_2 p104 q104
           cases e104
           replace hx104_0 := (HB.out.cell (blt_ hx104_0)).trans hx104_0
           replace hx104_1 := (HB.out.cell (blt_ hx104_1)).trans hx104_1
           replace hx104_2 := (HB.out.cell (blt_ hx104_2)).trans hx104_2
           replace hx104_3 := (HB.out.cell (blt_ hx104_3)).trans hx104_3
           replace hx104_4 := (HB.out.cell (blt_ hx104_4)).trans hx104_4
           replace hx104_5 := (HB.out.cell (blt_ hx104_5)).trans hx104_5
           replace hx104_6 := (HB.out.cell (blt_ hx104_6)).trans hx104_6
           replace hx104_7 := (HB.out.cell (blt_ hx104_7)).trans hx104_7
           replace p104 := eq_true p104
           replace q104 := eq_true q104
           go_wp2_with (first | ((with_reducible refine gate_callee (f := 30) rfl ?_); refine goesL_ (some 35) rfl rfl Try.func30 (by kernel_rfl) rfl #[.agg #[.int .i64 ((rd_T30 l0 x8_2).kind), .string ((rd_T30 l0 x8_2).x), .string ((rd_T30 l0 x8_2).y), .string ((rd_T30 l0 x8_2).z), .string ((rd_T30 l0 x8_2).op), .int .i64 ((rd_T30 l0 x8_2).n), .int .i64 ((rd_T30 l0 x8_2).a), .int .i64 ((rd_T30 l0 x8_2).b)]] rfl (by (try simp only [List.map_toArray, List.map_cons, List.map_nil]); first | done | rfl | (simp only [List.length_drop, List.length_take]; rfl)) ?_; (with_reducible refine (lambrequinref20_Uses.calls k2 ((rd_T30 l0 x8_2).kind) ((rd_T30 l0 x8_2).x) ((rd_T30 l0 x8_2).y) ((rd_T30 l0 x8_2).z) ((rd_T30 l0 x8_2).op) ((rd_T30 l0 x8_2).n) ((rd_T30 l0 x8_2).a) ((rd_T30 l0 x8_2).b) t105 _ A13.out).mono ?_); rintro e w17 ⟨v106, rfl, ho0, hb⟩; refine ⟨_, rfl, ?_⟩; replace HO_7 := am (Kd.R_below (by (with_reducible repeat (first | apply Ra | apply Rn | apply Rd)); exact HO_7.out) hb); have HO107 := am (Kd.R_lower ho0 (below_size (by repeat (first | (with_reducible first | exact HB.out | apply lA | apply lN | apply lD) | exact HB.out)))); replace HB := am (below_step (by repeat (first | (with_reducible first | exact HB.out | apply lA | apply lN | apply lD) | exact HB.out)) hb); (try clear hb); (try clear hb2); (try clear hk); (try clear hi); (try clear ho0); obtain ⟨Ao18, co18, eo18⟩ := Kd.R_slice HO107.out; subst eo18) | ((with_reducible refine gate_callee (f := 21) rfl ?_); refine goesL_ (some 37) rfl rfl Try.func21 (by kernel_rfl) rfl #[.slice Ao18 t105.length co18, .string a2] rfl (by (try simp only [List.map_toArray, List.map_cons, List.map_nil]); first | done | rfl | (simp only [List.length_drop, List.length_take]; rfl)) ?_; (with_reducible refine (lambrequinref09_In.calls k2 _ _ t105 a2 t108 _ ?side1 ?side2 A14.out).mono ?_); (case side1 => repeat (first | exact (Kd.R_reads' HO107.out).2.2 | (with_reducible refine Kd.C_alloc ?_ _) | (with_reducible refine Kd.C_drewN ?_ _) | (with_reducible refine Kd.C_drew ?_))); (case side2 => exact (Kd.R_reads' HO107.out).2.1); rintro e w' ⟨rfl, ⟨nd, rfl⟩⟩; refine ⟨_, rfl, ?_⟩; (try (rw [drewN_self w17]; generalize hq_ : World.drewN w17 _ = w17; replace HO107 : Aside0 (Kd.R Kd.string 9 w17 w.heap.size (fun _ => True) (.slice Ao18 t105.length co18) t105) := ⟨by rw [← hq_]; exact (by (with_reducible repeat (first | apply Ra | apply Rn | apply Rd)); exact HO107.out)⟩; replace HO_7 : Aside0 (Kd.R Kd.bool 4 w17 w.heap.size (fun _ => True) v102 x7_2) := ⟨by rw [← hq_]; exact (by (with_reducible repeat (first | apply Ra | apply Rn | apply Rd)); exact HO_7.out)⟩; replace HB : Aside0 (Below w.heap.size w w17) := ⟨by rw [← hq_]; exact (by repeat (first | (with_reducible first | exact HB.out | apply lA | apply lN | apply lD) | exact HB.out))⟩; clear hq_)); have p16 : 0 ≤ (x8_2 : Int) := of_decide_eq_true (by first | (with_reducible assumption) | assumption); have q16 : (x8_2 : Int) < ((x7_2.length : Int) : Int) := of_decide_eq_true (by first | (with_reducible assumption) | assumption); obtain ⟨go16, co16, eo16, gb16, gl16, cl16, HG16⟩ := Kd.R_form HO_7.out (by omega); (first | cases eo16 | (injection eo16 with ea_ en_ ec_; (first | subst ea_ | (injection ea_ with ea_; subst ea_)); subst ec_; clear en_)); have GB16 := am gb16; have GG16 := am HG16; clear gb16 gl16 HG16; obtain ⟨hx16_0, hf16_0⟩ := Kd.R_celln false HO_7.out (x8_2 : Int) p16 q16; replace p16 := eq_true p16; replace q16 := eq_true q16; obtain ⟨hy19_, hz19_⟩ := Kd.R_celln false HO_7.out (x8_2 : Int) (of_decide_eq_true (by first | (with_reducible assumption) | assumption)) (of_decide_eq_true (by first | (with_reducible assumption) | assumption)); have HP19 := Kd.R_putg HO_7.out (x8_2 : Int) t108) | ((with_reducible refine gate_store (t := 4) (p := 38) rfl ?_); refine store_event (t := 4) (p := 38) (v := ?vo_w20) (w1 := (w17.setCell ⟨go16, (x8_2 : Int).toNat, none⟩ (.bool t108))) ?hg ?ho ?hn ?hr ?_; (case ho => rfl); (case hg => rfl); (case hn => rfl); (case hr => first | (go_simp; done) | (go_simp; rfl)); intro w20 hw; have hg : w17.grownBy w20 (some go16) := (by rw [hw]; exact HP19.2); have hp_ : Kd.R Kd.bool 4 w20 w.heap.size (fun _ => True) (.slice (some ⟨go16, 0, none⟩) x7_2.length co16) y109 := (by rw [hw, Ny109.out]; exact HP19.1); clear HP19; replace HO107 := am (Kd.R_over' (v := (.slice (some ⟨go16, 0, none⟩) x7_2.length co16)) (by (with_reducible repeat (first | apply Ra | apply Rn | apply Rd)); exact HO107.out) (Kd.R_typed HO_7.out) (by decide) hg); replace HO_7 := am (hp_); replace HB := am ((by rw [hw]; exact below_set (HB.out) GB16.out : Below w.heap.size w w20)); clear hg hw hp_))
           go_roundg k2
           case measure => have := HJ3.out; have := HK2.out; omega
           case rel => exact ⟨(y109), (wrap64 (x8_2 + 1)), (by first | rfl | (simp; done) | (simp [*]; done)), H', ⟨by have := HJ3.out; have := HK2.out; omega⟩, ⟨by (with_reducible repeat (first | apply Ra | apply Rn | apply Rd)); exact HO_7.out⟩, ⟨by repeat (first | (with_reducible first | exact HB.out | apply lA | apply lN | apply lD) | exact HB.out)⟩⟩
          ·rw [if_neg c15] at H
           exact absurd H (by simp)
         ·rw [if_neg c12] at H
          exact absurd H (by simp)
        ·rw [if_neg c11] at H
         have c11b0 : decide (x8_2 < (l0.length : Int)) = false := decide_eq_false c11
         clear c11
         have H' := am H
         clear H
         go_wp2
         go_loopg [9] k2 (fun kq v9 w' => ∃ (x7_3 : List Bool) (x9_3 : Int), v9 = .int .i64 x9_3 ∧ Aside0 (lambrequinref20_Lives.l1 kq l0 a1 a2 x7_3 x9_3 = some r) ∧ Aside0 (kq ≤ k2) ∧ Aside0 (Kd.R Kd.bool 4 w' w.heap.size (fun _ => True) v102 x7_3) ∧ Aside0 (Below w.heap.size w w'))
         case atStart => exact ⟨(x7_2), (0), (by first | rfl | (simp; done) | (simp [*]; done)), H', ⟨Nat.le_refl _⟩, ⟨by (with_reducible repeat (first | apply Ra | apply Rn | apply Rd)); exact HO_7.out⟩, ⟨by repeat (first | (with_reducible first | exact HB.out | apply lA | apply lN | apply lD) | exact HB.out)⟩⟩
         case round =>
          clear H'
          try clear c1
          try clear p1
          try clear q1
          try clear hx1
          try clear c2
          try clear p2
          try clear c3
          try clear c5
          try clear c5b0
          try clear c6
          try clear p6
          try clear c7
          try clear c7b0
          try clear c7b1
          try clear c8
          try clear c8b0
          try clear c8b1
          try clear p10
          try clear q10
          try clear hx10
          try clear c11
          try clear c11b0
          try clear c12
          try clear c12b0
          try clear c15
          try clear c15b0
          try clear p16
          try clear q16
          try clear hx16
          try clear hf16
          try clear hx104_0
          try clear hx104_1
          try clear hx104_2
          try clear hx104_3
          try clear hx104_4
          try clear hx104_5
          try clear hx104_6
          try clear hx104_7
          try clear hx16_0
          try clear p104
          try clear p16
          try clear p2
          try clear q104
          try clear q16
          obtain ⟨x7_3, x9_3, rfl, HA, HK3, HO_7, HB⟩ := hrel
          cases gk with
          | zero => exact absurd HA.out (by simp [lambrequinref20_Lives.l1])
          | succ k3 =>
           have H := HA.out
           clear HA
           simp only [lambrequinref20_Lives.l1] at H
           by_cases c21 : x9_3 < (l0.length : Int)
           ·rw [if_pos c21] at H
            have c21b0 : decide (x9_3 < (l0.length : Int)) = true := decide_eq_true c21
            clear c21
            have H' := am H
            clear H
            go_wp2
            go_loopg [10] k3 (fun kq v10 w' => ∃ (x7_4 : List Bool) (x10_4 : Int), v10 = .int .i64 x10_4 ∧ Aside0 (lambrequinref20_Lives.l2 kq l0 a1 a2 x7_4 x9_3 x10_4 = some r) ∧ Aside0 (kq ≤ k3) ∧ Aside0 (Kd.R Kd.bool 4 w' w.heap.size (fun _ => True) v102 x7_4) ∧ Aside0 (Below w.heap.size w w'))
            case atStart => exact ⟨(x7_3), (0), (by first | rfl | (simp; done) | (simp [*]; done)), H', ⟨Nat.le_refl _⟩, ⟨by (with_reducible repeat (first | apply Ra | apply Rn | apply Rd)); exact HO_7.out⟩, ⟨by repeat (first | (with_reducible first | exact HB.out | apply lA | apply lN | apply lD) | exact HB.out)⟩⟩
            case round =>
             clear H'
             try clear c1
             try clear p1
             try clear q1
             try clear hx1
             try clear c2
             try clear p2
             try clear c3
             try clear c5
             try clear c5b0
             try clear c6
             try clear p6
             try clear c7
             try clear c7b0
             try clear c7b1
             try clear c8
             try clear c8b0
             try clear c8b1
             try clear p10
             try clear q10
             try clear hx10
             try clear c11
             try clear c11b0
             try clear c12
             try clear c12b0
             try clear c15
             try clear c15b0
             try clear p16
             try clear q16
             try clear hx16
             try clear hf16
             try clear c21
             try clear c21b0
             try clear hx104_0
             try clear hx104_1
             try clear hx104_2
             try clear hx104_3
             try clear hx104_4
             try clear hx104_5
             try clear hx104_6
             try clear hx104_7
             try clear hx16_0
             try clear p1
             try clear p10
             try clear p104
             try clear p16
             try clear p2
             try clear p6
             try clear q1
             try clear q10
             try clear q104
             try clear q16
             obtain ⟨x7_4, x10_4, rfl, HA, HK4, HO_7, HB⟩ := hrel
             cases gk with
             | zero => exact absurd HA.out (by simp [lambrequinref20_Lives.l2])
             | succ k4 =>
              have H := HA.out
              clear HA
              simp only [lambrequinref20_Lives.l2] at H
              by_cases c22 : x10_4 < (l0.length : Int)
              ·rw [if_pos c22] at H
               have c22b0 : decide (x10_4 < (l0.length : Int)) = true := decide_eq_true c22
               clear c22
               have H' := am H
               clear H
               go_wp2
               go_loopg [11] k4 (fun kq v11 w' => ∃ (x7_5 : List Bool) (x11_5 : Int), v11 = .int .i64 x11_5 ∧ Aside0 (lambrequinref20_Lives.l3 kq l0 a1 a2 x7_5 x9_3 x10_4 x11_5 = some r) ∧ Aside0 (kq ≤ k4) ∧ Aside0 (Kd.R Kd.bool 4 w' w.heap.size (fun _ => True) v102 x7_5) ∧ Aside0 (Below w.heap.size w w'))
               case atStart => exact ⟨(x7_4), (0), (by first | rfl | (simp; done) | (simp [*]; done)), H', ⟨Nat.le_refl _⟩, ⟨by (with_reducible repeat (first | apply Ra | apply Rn | apply Rd)); exact HO_7.out⟩, ⟨by repeat (first | (with_reducible first | exact HB.out | apply lA | apply lN | apply lD) | exact HB.out)⟩⟩
               case round =>
                clear H'
                try clear c1
                try clear p1
                try clear q1
                try clear hx1
                try clear c2
                try clear p2
                try clear c3
                try clear c5
                try clear c5b0
                try clear c6
                try clear p6
                try clear c7
                try clear c7b0
                try clear c7b1
                try clear c8
                try clear c8b0
                try clear c8b1
                try clear p10
                try clear q10
                try clear hx10
                try clear c11
                try clear c11b0
                try clear c12
                try clear c12b0
                try clear c15
                try clear c15b0
                try clear p16
                try clear q16
                try clear hx16
                try clear hf16
                try clear c21
                try clear c21b0
                try clear c22
                try clear c22b0
                try clear hx104_0
                try clear hx104_1
                try clear hx104_2
                try clear hx104_3
                try clear hx104_4
                try clear hx104_5
                try clear hx104_6
                try clear hx104_7
                try clear hx16_0
                try clear p1
                try clear p10
                try clear p104
                try clear p16
                try clear p2
                try clear p6
                try clear q1
                try clear q10
                try clear q104
                try clear q16
                obtain ⟨x7_5, x11_5, rfl, HA, HK5, HO_7, HB⟩ := hrel
                cases gk with
                | zero => exact absurd HA.out (by simp [lambrequinref20_Lives.l3])
                | succ k5 =>
                 have H := HA.out
                 clear HA
                 simp only [lambrequinref20_Lives.l3] at H
                 by_cases c23 : x11_5 < (l0.length : Int)
                 ·rw [if_pos c23] at H
                  have c23b0 : decide (x11_5 < (l0.length : Int)) = true := decide_eq_true c23
                  clear c23
                  by_cases c24 : 0 ≤ x11_5
                  ·rw [if_pos c24] at H
                   have c24b0 : decide (0 ≤ x11_5) = true := decide_eq_true c24
                   clear c24
                   by_cases c25 : x11_5 < (x7_5.length : Int)
                   ·rw [if_pos c25] at H
                    have c25b0 : decide (x11_5 < (x7_5.length : Int)) = true := decide_eq_true c25
                    clear c25
                    obtain ⟨bq26, hbq26⟩ : ∃ b_ : Bool, b_ = (rdOf false x7_5 x11_5) := ⟨_, rfl⟩
                    replace H : (if bq26 = true then (if 0 ≤ x10_4 then (if x10_4 < (l0.length : Int) then ((lambrequinref20_Defines.f ((rd_T30 l0 x10_4).kind) ((rd_T30 l0 x10_4).x) ((rd_T30 l0 x10_4).y) ((rd_T30 l0 x10_4).z) ((rd_T30 l0 x10_4).op) ((rd_T30 l0 x10_4).n) ((rd_T30 l0 x10_4).a) ((rd_T30 l0 x10_4).b) a2).bind fun t113 => (if t113 = true then (lambrequinref20_Lives.l3 k5 l0 a1 a2 x7_5 x9_3 x10_4 (wrap64 (x11_5 + 1))) else ((lambrequinref20_Leads.f k5 l0 x10_4 x11_5).bind fun t114 => (if t114 = true then (if x10_4 < (x7_5.length : Int) then (lambrequinref20_Lives.l3 k5 l0 a1 a2 (x7_5.set (x10_4 : Int).toNat true) x9_3 x10_4 (wrap64 (x11_5 + 1))) else (none)) else (lambrequinref20_Lives.l3 k5 l0 a1 a2 x7_5 x9_3 x10_4 (wrap64 (x11_5 + 1))))))) else (none)) else (none)) else (lambrequinref20_Lives.l3 k5 l0 a1 a2 x7_5 x9_3 x10_4 (wrap64 (x11_5 + 1)))) = some r := by rw [← hbq26] at H; exact H
                    have Nbq26 := am hbq26
                    clear hbq26
                    by_cases c27 : bq26 = true
                    ·subst c27
                     have H1 : (if 0 ≤ x10_4 then (if x10_4 < (l0.length : Int) then ((lambrequinref20_Defines.f ((rd_T30 l0 x10_4).kind) ((rd_T30 l0 x10_4).x) ((rd_T30 l0 x10_4).y) ((rd_T30 l0 x10_4).z) ((rd_T30 l0 x10_4).op) ((rd_T30 l0 x10_4).n) ((rd_T30 l0 x10_4).a) ((rd_T30 l0 x10_4).b) a2).bind fun t113 => (if t113 = true then (lambrequinref20_Lives.l3 k5 l0 a1 a2 x7_5 x9_3 x10_4 (wrap64 (x11_5 + 1))) else ((lambrequinref20_Leads.f k5 l0 x10_4 x11_5).bind fun t114 => (if t114 = true then (if x10_4 < (x7_5.length : Int) then (lambrequinref20_Lives.l3 k5 l0 a1 a2 (x7_5.set (x10_4 : Int).toNat true) x9_3 x10_4 (wrap64 (x11_5 + 1))) else (none)) else (lambrequinref20_Lives.l3 k5 l0 a1 a2 x7_5 x9_3 x10_4 (wrap64 (x11_5 + 1))))))) else (none)) else (none)) = some r := by rw [if_pos rfl] at H; exact H
                     clear H
                     have H := H1
                     clear H1
                     by_cases c28 : 0 ≤ x10_4
                     ·rw [if_pos c28] at H
                      have c28b0 : decide (0 ≤ x10_4) = true := decide_eq_true c28
                      clear c28
                      by_cases c29 : x10_4 < (l0.length : Int)
                      ·rw [if_pos c29] at H
                       have c29b0 : decide (x10_4 < (l0.length : Int)) = true := decide_eq_true c29
                       clear c29
                       replace H := Option.bind_eq_some_iff.mp H
                       obtain ⟨t113, A300, H⟩ := H
                       replace H : (if t113 = true then (lambrequinref20_Lives.l3 k5 l0 a1 a2 x7_5 x9_3 x10_4 (wrap64 (x11_5 + 1))) else ((lambrequinref20_Leads.f k5 l0 x10_4 x11_5).bind fun t114 => (if t114 = true then (if x10_4 < (x7_5.length : Int) then (lambrequinref20_Lives.l3 k5 l0 a1 a2 (x7_5.set (x10_4 : Int).toNat true) x9_3 x10_4 (wrap64 (x11_5 + 1))) else (none)) else (lambrequinref20_Lives.l3 k5 l0 a1 a2 x7_5 x9_3 x10_4 (wrap64 (x11_5 + 1)))))) = some r := H
                       have A30 := am A300
                       clear A300
                       by_cases c31 : t113 = true
                       ·subst c31
                        have H1 : (lambrequinref20_Lives.l3 k5 l0 a1 a2 x7_5 x9_3 x10_4 (wrap64 (x11_5 + 1))) = some r := by rw [if_pos rfl] at H; exact H
                        clear H
                        have H := H1
                        clear H1
                        have H' := am H
                        clear H
                        obtain ⟨Ao32, co32, eo32⟩ := Kd.R_slice HO_7.out
                        subst eo32
                        have p111 : 0 ≤ (x11_5 : Int) := of_decide_eq_true (by first | (with_reducible assumption) | assumption)
                        have q111 : x11_5 < (x7_5.length : Int) := of_decide_eq_true (by first | (with_reducible assumption) | assumption)
                        obtain ⟨ad111, e111, hx111_0⟩ := Kd.at_bool (Kd.R_reads' HO_7.out).2.2 x11_5 p111 q111
                        (try rw [← Nbq26.out] at hx111_0)
                        cases e111
                        replace p111 := eq_true p111
                        replace q111 := eq_true q111
                        have p112 : 0 ≤ (x10_4 : Int) := of_decide_eq_true (by first | (with_reducible assumption) | assumption)
                        have q112 : x10_4 < (l0.length : Int) := of_decide_eq_true (by first | (with_reducible assumption) | assumption)
                        obtain ⟨ad112, e112, hx112_0, hx112_1, hx112_2, hx112_3, hx112_4, hx112_5, hx112_6, hx112_7⟩ := at_T30 HR0.out x10_4 p112 q112
                        cases e112
                        replace hx112_0 := (HB.out.cell (blt_ hx112_0)).trans hx112_0
                        replace hx112_1 := (HB.out.cell (blt_ hx112_1)).trans hx112_1
                        replace hx112_2 := (HB.out.cell (blt_ hx112_2)).trans hx112_2
                        replace hx112_3 := (HB.out.cell (blt_ hx112_3)).trans hx112_3
                        replace hx112_4 := (HB.out.cell (blt_ hx112_4)).trans hx112_4
                        replace hx112_5 := (HB.out.cell (blt_ hx112_5)).trans hx112_5
                        replace hx112_6 := (HB.out.cell (blt_ hx112_6)).trans hx112_6
                        replace hx112_7 := (HB.out.cell (blt_ hx112_7)).trans hx112_7
                        replace p112 := eq_true p112
                        replace q112 := eq_true q112
                        go_wp2_with (first | (go_at_call 58; (with_reducible refine (lambrequinref20_Defines.calls ((rd_T30 l0 x10_4).kind) ((rd_T30 l0 x10_4).x) ((rd_T30 l0 x10_4).y) ((rd_T30 l0 x10_4).z) ((rd_T30 l0 x10_4).op) ((rd_T30 l0 x10_4).n) ((rd_T30 l0 x10_4).a) ((rd_T30 l0 x10_4).b) a2 true _ A30.out).mono ?_); rintro e w33 ⟨rfl, hb⟩; replace HO_7 := am (Kd.R_below (by (with_reducible repeat (first | apply Ra | apply Rn | apply Rd)); exact HO_7.out) hb); replace HB := am (below_step (by repeat (first | (with_reducible first | exact HB.out | apply lA | apply lN | apply lD) | exact HB.out)) hb); (try clear hb); (try clear hb2); (try clear hk); (try clear hi)))
                        go_roundg k5
                        case measure => have := HJ3.out; have := HK2.out; have := HK3.out; have := HK4.out; have := HK5.out; omega
                        case rel => exact ⟨(x7_5), (wrap64 (x11_5 + 1)), (by first | rfl | (simp; done) | (simp [*]; done)), H', ⟨by have := HJ3.out; have := HK2.out; have := HK3.out; have := HK4.out; have := HK5.out; omega⟩, ⟨by (with_reducible repeat (first | apply Ra | apply Rn | apply Rd)); exact HO_7.out⟩, ⟨by repeat (first | (with_reducible first | exact HB.out | apply lA | apply lN | apply lD) | exact HB.out)⟩⟩
                       ·replace c31 := Bool.eq_false_iff.mpr c31
                        subst c31
                        have H1 : ((lambrequinref20_Leads.f k5 l0 x10_4 x11_5).bind fun t114 => (if t114 = true then (if x10_4 < (x7_5.length : Int) then (lambrequinref20_Lives.l3 k5 l0 a1 a2 (x7_5.set (x10_4 : Int).toNat true) x9_3 x10_4 (wrap64 (x11_5 + 1))) else (none)) else (lambrequinref20_Lives.l3 k5 l0 a1 a2 x7_5 x9_3 x10_4 (wrap64 (x11_5 + 1))))) = some r := by rw [if_neg (show ¬ (false = true) by decide)] at H; exact H
                        clear H
                        have H := H1
                        clear H1
                        replace H := Option.bind_eq_some_iff.mp H
                        obtain ⟨t114, A340, H⟩ := H
                        replace H : (if t114 = true then (if x10_4 < (x7_5.length : Int) then (lambrequinref20_Lives.l3 k5 l0 a1 a2 (x7_5.set (x10_4 : Int).toNat true) x9_3 x10_4 (wrap64 (x11_5 + 1))) else (none)) else (lambrequinref20_Lives.l3 k5 l0 a1 a2 x7_5 x9_3 x10_4 (wrap64 (x11_5 + 1)))) = some r := H
                        have A34 := am A340
                        clear A340
                        by_cases c35 : t114 = true
                        ·subst c35
                         have H1 : (if x10_4 < (x7_5.length : Int) then (lambrequinref20_Lives.l3 k5 l0 a1 a2 (x7_5.set (x10_4 : Int).toNat true) x9_3 x10_4 (wrap64 (x11_5 + 1))) else (none)) = some r := by rw [if_pos rfl] at H; exact H
                         clear H
                         have H := H1
                         clear H1
                         by_cases c36 : x10_4 < (x7_5.length : Int)
                         ·rw [if_pos c36] at H
                          have c36b0 : decide (x10_4 < (x7_5.length : Int)) = true := decide_eq_true c36
                          clear c36
                          obtain ⟨y115, hy115⟩ : ∃ y_ : List Bool, y_ = (x7_5.set (x10_4 : Int).toNat true) := ⟨_, rfl⟩
                          replace H : (lambrequinref20_Lives.l3 k5 l0 a1 a2 y115 x9_3 x10_4 (wrap64 (x11_5 + 1))) = some r := by first | (rw [hy115]; with_reducible exact H) | (have H2_ := (Option.bind_some _ _).symm.trans H; rw [hy115]; with_reducible exact H2_) | (have H2_ := (Option.bind_some _ _).symm.trans H; with_reducible exact H2_) | with_reducible exact H | (rw [hy115]; exact H) | exact H
                          have Ny115 := am hy115
                          clear hy115
                          have H' := am H
                          clear H
                          obtain ⟨Ao38, co38, eo38⟩ := Kd.R_slice HO_7.out
                          subst eo38
                          have p111 : 0 ≤ (x11_5 : Int) := of_decide_eq_true (by first | (with_reducible assumption) | assumption)
                          have q111 : x11_5 < (x7_5.length : Int) := of_decide_eq_true (by first | (with_reducible assumption) | assumption)
                          obtain ⟨ad111, e111, hx111_0⟩ := Kd.at_bool (Kd.R_reads' HO_7.out).2.2 x11_5 p111 q111
                          (try rw [← Nbq26.out] at hx111_0)
                          cases e111
                          replace p111 := eq_true p111
                          replace q111 := eq_true q111
                          have p112 : 0 ≤ (x10_4 : Int) := of_decide_eq_true (by first | (with_reducible assumption) | assumption)
                          have q112 : x10_4 < (l0.length : Int) := of_decide_eq_true (by first | (with_reducible assumption) | assumption)
                          obtain ⟨ad112, e112, hx112_0, hx112_1, hx112_2, hx112_3, hx112_4, hx112_5, hx112_6, hx112_7⟩ := at_T30 HR0.out x10_4 p112 q112
                          cases e112
                          replace hx112_0 := (HB.out.cell (blt_ hx112_0)).trans hx112_0
                          replace hx112_1 := (HB.out.cell (blt_ hx112_1)).trans hx112_1
                          replace hx112_2 := (HB.out.cell (blt_ hx112_2)).trans hx112_2
                          replace hx112_3 := (HB.out.cell (blt_ hx112_3)).trans hx112_3
                          replace hx112_4 := (HB.out.cell (blt_ hx112_4)).trans hx112_4
                          replace hx112_5 := (HB.out.cell (blt_ hx112_5)).trans hx112_5
                          replace hx112_6 := (HB.out.cell (blt_ hx112_6)).trans hx112_6
                          replace hx112_7 := (HB.out.cell (blt_ hx112_7)).trans hx112_7
                          replace p112 := eq_true p112
                          replace q112 := eq_true q112
                          go_wp2_with (first | (go_at_call 58; (with_reducible refine (lambrequinref20_Defines.calls ((rd_T30 l0 x10_4).kind) ((rd_T30 l0 x10_4).x) ((rd_T30 l0 x10_4).y) ((rd_T30 l0 x10_4).z) ((rd_T30 l0 x10_4).op) ((rd_T30 l0 x10_4).n) ((rd_T30 l0 x10_4).a) ((rd_T30 l0 x10_4).b) a2 false _ A30.out).mono ?_); rintro e w39 ⟨rfl, hb⟩; replace HO_7 := am (Kd.R_below (by (with_reducible repeat (first | apply Ra | apply Rn | apply Rd)); exact HO_7.out) hb); replace HB := am (below_step (by repeat (first | (with_reducible first | exact HB.out | apply lA | apply lN | apply lD) | exact HB.out)) hb); (try clear hb); (try clear hb2); (try clear hk); (try clear hi)) | (go_at_call 53; (with_reducible refine (lambrequinref20_Leads.calls k5 _ _ l0 x10_4 x11_5 true _ ?side1 ?side2 A34.out).mono ?_); (case side1 => repeat (first | exact (Kd.C_below HR0.out HB.out) | (with_reducible refine Kd.C_alloc ?_ _) | (with_reducible refine Kd.C_drewN ?_ _) | (with_reducible refine Kd.C_drew ?_))); (case side2 => exact HC0.out); rintro e w' ⟨rfl, ⟨nd, rfl⟩⟩; (try (rw [drewN_self w39]; generalize hq_ : World.drewN w39 _ = w39; replace HO_7 : Aside0 (Kd.R Kd.bool 4 w39 w.heap.size (fun _ => True) (.slice (some ad111) x7_5.length co38) x7_5) := ⟨by rw [← hq_]; exact (by (with_reducible repeat (first | apply Ra | apply Rn | apply Rd)); exact HO_7.out)⟩; replace HB : Aside0 (Below w.heap.size w w39) := ⟨by rw [← hq_]; exact (by repeat (first | (with_reducible first | exact HB.out | apply lA | apply lN | apply lD) | exact HB.out))⟩; clear hq_)); have p37 : 0 ≤ (x10_4 : Int) := of_decide_eq_true (by first | (with_reducible assumption) | assumption); have q37 : (x10_4 : Int) < ((x7_5.length : Int) : Int) := of_decide_eq_true (by first | (with_reducible assumption) | assumption); obtain ⟨go37, co37, eo37, gb37, gl37, cl37, HG37⟩ := Kd.R_form HO_7.out (by omega); (first | cases eo37 | (injection eo37 with ea_ en_ ec_; (first | subst ea_ | (injection ea_ with ea_; subst ea_)); subst ec_; clear en_)); have GB37 := am gb37; have GG37 := am HG37; clear gb37 gl37 HG37; (first | simp only [add_plain] at hx111_0 | skip); obtain ⟨hx37_0, hf37_0⟩ := Kd.R_celln false HO_7.out (x10_4 : Int) p37 q37; replace p37 := eq_true p37; replace q37 := eq_true q37; obtain ⟨hy40_, hz40_⟩ := Kd.R_celln false HO_7.out (x10_4 : Int) (of_decide_eq_true (by first | (with_reducible assumption) | assumption)) (of_decide_eq_true (by first | (with_reducible assumption) | assumption)); have HP40 := Kd.R_putg HO_7.out (x10_4 : Int) true) | ((with_reducible refine gate_store (t := 4) (p := 78) rfl ?_); refine store_event (t := 4) (p := 78) (v := ?vo_w41) (w1 := (w39.setCell ⟨go37, (x10_4 : Int).toNat, none⟩ (.bool true))) ?hg ?ho ?hn ?hr ?_; (case ho => rfl); (case hg => rfl); (case hn => rfl); (case hr => first | (go_simp; done) | (go_simp; rfl)); intro w41 hw; have hg : w39.grownBy w41 (some go37) := (by rw [hw]; exact HP40.2); have hp_ : Kd.R Kd.bool 4 w41 w.heap.size (fun _ => True) (.slice (some ⟨go37, 0, none⟩) x7_5.length co38) y115 := (by rw [hw, Ny115.out]; exact HP40.1); clear HP40; replace HO_7 := am (hp_); replace HB := am ((by rw [hw]; exact below_set (HB.out) GB37.out : Below w.heap.size w w41)); clear hg hw hp_))
                          go_roundg k5
                          case measure => have := HJ3.out; have := HK2.out; have := HK3.out; have := HK4.out; have := HK5.out; omega
                          case rel => exact ⟨(y115), (wrap64 (x11_5 + 1)), (by first | rfl | (simp; done) | (simp [*]; done)), H', ⟨by have := HJ3.out; have := HK2.out; have := HK3.out; have := HK4.out; have := HK5.out; omega⟩, ⟨by (with_reducible repeat (first | apply Ra | apply Rn | apply Rd)); exact HO_7.out⟩, ⟨by repeat (first | (with_reducible first | exact HB.out | apply lA | apply lN | apply lD) | exact HB.out)⟩⟩
                         ·rw [if_neg c36] at H
                          exact absurd H (by simp)
                        ·replace c35 := Bool.eq_false_iff.mpr c35
                         subst c35
                         have H1 : (lambrequinref20_Lives.l3 k5 l0 a1 a2 x7_5 x9_3 x10_4 (wrap64 (x11_5 + 1))) = some r := by rw [if_neg (show ¬ (false = true) by decide)] at H; exact H
                         clear H
                         have H := H1
                         clear H1
                         have H' := am H
                         clear H
                         obtain ⟨Ao42, co42, eo42⟩ := Kd.R_slice HO_7.out
                         subst eo42
                         have p111 : 0 ≤ (x11_5 : Int) := of_decide_eq_true (by first | (with_reducible assumption) | assumption)
                         have q111 : x11_5 < (x7_5.length : Int) := of_decide_eq_true (by first | (with_reducible assumption) | assumption)
                         obtain ⟨ad111, e111, hx111_0⟩ := Kd.at_bool (Kd.R_reads' HO_7.out).2.2 x11_5 p111 q111
                         (try rw [← Nbq26.out] at hx111_0)
                         cases e111
                         replace p111 := eq_true p111
                         replace q111 := eq_true q111
                         have p112 : 0 ≤ (x10_4 : Int) := of_decide_eq_true (by first | (with_reducible assumption) | assumption)
                         have q112 : x10_4 < (l0.length : Int) := of_decide_eq_true (by first | (with_reducible assumption) | assumption)
                         obtain ⟨ad112, e112, hx112_0, hx112_1, hx112_2, hx112_3, hx112_4, hx112_5, hx112_6, hx112_7⟩ := at_T30 HR0.out x10_4 p112 q112
                         cases e112
                         replace hx112_0 := (HB.out.cell (blt_ hx112_0)).trans hx112_0
                         replace hx112_1 := (HB.out.cell (blt_ hx112_1)).trans hx112_1
                         replace hx112_2 := (HB.out.cell (blt_ hx112_2)).trans hx112_2
                         replace hx112_3 := (HB.out.cell (blt_ hx112_3)).trans hx112_3
                         replace hx112_4 := (HB.out.cell (blt_ hx112_4)).trans hx112_4
                         replace hx112_5 := (HB.out.cell (blt_ hx112_5)).trans hx112_5
                         replace hx112_6 := (HB.out.cell (blt_ hx112_6)).trans hx112_6
                         replace hx112_7 := (HB.out.cell (blt_ hx112_7)).trans hx112_7
                         replace p112 := eq_true p112
                         replace q112 := eq_true q112
                         go_wp2_with (first | (go_at_call 58; (with_reducible refine (lambrequinref20_Defines.calls ((rd_T30 l0 x10_4).kind) ((rd_T30 l0 x10_4).x) ((rd_T30 l0 x10_4).y) ((rd_T30 l0 x10_4).z) ((rd_T30 l0 x10_4).op) ((rd_T30 l0 x10_4).n) ((rd_T30 l0 x10_4).a) ((rd_T30 l0 x10_4).b) a2 false _ A30.out).mono ?_); rintro e w43 ⟨rfl, hb⟩; replace HO_7 := am (Kd.R_below (by (with_reducible repeat (first | apply Ra | apply Rn | apply Rd)); exact HO_7.out) hb); replace HB := am (below_step (by repeat (first | (with_reducible first | exact HB.out | apply lA | apply lN | apply lD) | exact HB.out)) hb); (try clear hb); (try clear hb2); (try clear hk); (try clear hi)) | (go_at_call 53; (with_reducible refine (lambrequinref20_Leads.calls k5 _ _ l0 x10_4 x11_5 false _ ?side1 ?side2 A34.out).mono ?_); (case side1 => repeat (first | exact (Kd.C_below HR0.out HB.out) | (with_reducible refine Kd.C_alloc ?_ _) | (with_reducible refine Kd.C_drewN ?_ _) | (with_reducible refine Kd.C_drew ?_))); (case side2 => exact HC0.out); rintro e w' ⟨rfl, ⟨nd, rfl⟩⟩))
                         go_roundg k5
                         case measure => have := HJ3.out; have := HK2.out; have := HK3.out; have := HK4.out; have := HK5.out; omega
                         case rel => exact ⟨(x7_5), (wrap64 (x11_5 + 1)), (by first | rfl | (simp; done) | (simp [*]; done)), H', ⟨by have := HJ3.out; have := HK2.out; have := HK3.out; have := HK4.out; have := HK5.out; omega⟩, ⟨by (with_reducible repeat (first | apply Ra | apply Rn | apply Rd)); exact HO_7.out⟩, ⟨by repeat (first | (with_reducible first | exact HB.out | apply lA | apply lN | apply lD) | exact HB.out)⟩⟩
                      ·rw [if_neg c29] at H
                       exact absurd H (by simp)
                     ·rw [if_neg c28] at H
                      exact absurd H (by simp)
                    ·replace c27 := Bool.eq_false_iff.mpr c27
                     subst c27
                     have H1 : (lambrequinref20_Lives.l3 k5 l0 a1 a2 x7_5 x9_3 x10_4 (wrap64 (x11_5 + 1))) = some r := by rw [if_neg (show ¬ (false = true) by decide)] at H; exact H
                     clear H
                     have H := H1
                     clear H1
                     have H' := am H
                     clear H
                     obtain ⟨Ao44, co44, eo44⟩ := Kd.R_slice HO_7.out
                     subst eo44
                     have p111 : 0 ≤ (x11_5 : Int) := of_decide_eq_true (by first | (with_reducible assumption) | assumption)
                     have q111 : x11_5 < (x7_5.length : Int) := of_decide_eq_true (by first | (with_reducible assumption) | assumption)
                     obtain ⟨ad111, e111, hx111_0⟩ := Kd.at_bool (Kd.R_reads' HO_7.out).2.2 x11_5 p111 q111
                     (try rw [← Nbq26.out] at hx111_0)
                     cases e111
                     replace p111 := eq_true p111
                     replace q111 := eq_true q111
                     go_wp2
                     go_roundg k5
                     case measure => have := HJ3.out; have := HK2.out; have := HK3.out; have := HK4.out; have := HK5.out; omega
                     case rel => exact ⟨(x7_5), (wrap64 (x11_5 + 1)), (by first | rfl | (simp; done) | (simp [*]; done)), H', ⟨by have := HJ3.out; have := HK2.out; have := HK3.out; have := HK4.out; have := HK5.out; omega⟩, ⟨by (with_reducible repeat (first | apply Ra | apply Rn | apply Rd)); exact HO_7.out⟩, ⟨by repeat (first | (with_reducible first | exact HB.out | apply lA | apply lN | apply lD) | exact HB.out)⟩⟩
                   ·rw [if_neg c25] at H
                    exact absurd H (by simp)
                  ·rw [if_neg c24] at H
                   exact absurd H (by simp)
                 ·rw [if_neg c23] at H
                  have c23b0 : decide (x11_5 < (l0.length : Int)) = false := decide_eq_false c23
                  clear c23
                  have H' := am H
                  clear H
                  go_wp2
                  go_roundg k5
                  case measure => have := HJ3.out; have := HK2.out; have := HK3.out; have := HK4.out; have := HK5.out; omega
                  case rel => exact ⟨(x7_5), (wrap64 (x10_4 + 1)), (by first | rfl | (simp; done) | (simp [*]; done)), H', ⟨by have := HJ3.out; have := HK2.out; have := HK3.out; have := HK4.out; have := HK5.out; omega⟩, ⟨by (with_reducible repeat (first | apply Ra | apply Rn | apply Rd)); exact HO_7.out⟩, ⟨by repeat (first | (with_reducible first | exact HB.out | apply lA | apply lN | apply lD) | exact HB.out)⟩⟩
              ·rw [if_neg c22] at H
               have c22b0 : decide (x10_4 < (l0.length : Int)) = false := decide_eq_false c22
               clear c22
               have H' := am H
               clear H
               go_wp2
               go_roundg k4
               case measure => have := HJ3.out; have := HK2.out; have := HK3.out; have := HK4.out; omega
               case rel => exact ⟨(x7_4), (wrap64 (x9_3 + 1)), (by first | rfl | (simp; done) | (simp [*]; done)), H', ⟨by have := HJ3.out; have := HK2.out; have := HK3.out; have := HK4.out; omega⟩, ⟨by (with_reducible repeat (first | apply Ra | apply Rn | apply Rd)); exact HO_7.out⟩, ⟨by repeat (first | (with_reducible first | exact HB.out | apply lA | apply lN | apply lD) | exact HB.out)⟩⟩
           ·rw [if_neg c21] at H
            have c21b0 : decide (x9_3 < (l0.length : Int)) = false := decide_eq_false c21
            clear c21
            by_cases c45 : 0 ≤ a1
            ·rw [if_pos c45] at H
             have c45b0 : decide (0 ≤ a1) = true := decide_eq_true c45
             clear c45
             by_cases c46 : a1 < (x7_3.length : Int)
             ·rw [if_pos c46] at H
              have c46b0 : decide (a1 < (x7_3.length : Int)) = true := decide_eq_true c46
              clear c46
              obtain rfl := Option.some.inj H
              obtain ⟨Ao47, co47, eo47⟩ := Kd.R_slice HO_7.out
              subst eo47
              have p110 : 0 ≤ (a1 : Int) := of_decide_eq_true (by first | (with_reducible assumption) | assumption)
              have q110 : a1 < (x7_3.length : Int) := of_decide_eq_true (by first | (with_reducible assumption) | assumption)
              obtain ⟨ad110, e110, hx110_0⟩ := Kd.at_bool (Kd.R_reads' HO_7.out).2.2 a1 p110 q110
              cases e110
              replace p110 := eq_true p110
              replace q110 := eq_true q110
              go_wp2
              go_ret
              exact ⟨by first | rfl | (simp [errW_none, errW_some] <;> rfl) | (simp [*, errW_none, errW_some] <;> rfl), by repeat (first | (with_reducible first | exact HB.out | apply lA | apply lN | apply lD) | exact HB.out)⟩
             ·rw [if_neg c46] at H
              exact absurd H (by simp)
            ·rw [if_neg c45] at H
             exact absurd H (by simp)
     ·rw [if_neg c8] at H
      exact absurd H (by simp)
    ·rw [if_neg c7] at H
     exact absurd H (by simp)
end Go.Proofs.Ytnepgcbgkhikkaa.H
/- the document's answers for layer 20 on ways: which definition reaches, what lives -/
namespace Go.Proofs.Ytnepgcbgkhikkaa.H
open Go.RowKit Go.Proofs.YtnepgcbgkhikkaaW.PrintWords
theorem rDefines_eq (st : Stmt) (x : ByteArray) : lambrequinref20_Defines.f st.kind st.x st.y st.z st.op st.n st.a st.b x = some (defB st x) := by
  unfold lambrequinref20_Defines.f defB defN
  by_cases h1 : st.kind ≥ 1
  · rw [if_pos h1]
    by_cases h2 : st.kind ≤ 5
    · rw [if_pos h2, if_pos (by omega)]
      congr 1
      rw [Bool.eq_iff_iff]
      simp [lib_ba_eq]
    · rw [if_neg h2, if_neg (by omega)]
      rfl
  · rw [if_neg h1, if_neg (by omega)]
    rfl
section
variable {β : Type} {g : List Bool → β → List Bool}
theorem fold_up (hg : ∀ t b, leL t (g t b)) : ∀ (ps : List β) (t : List Bool), leL t (ps.foldl g t)
  | [], t => leL.refl t
  | p :: ps, t => (hg t p).trans (fold_up hg ps _)
theorem fold_hit (hg : ∀ t b, leL t (g t b)) {i : Nat} {b : β} {t0 : List Bool} (h : ∀ t, leL t0 t → (g t b)[i]? = some true) : ∀ (ps : List β) (t : List Bool), b ∈ ps → leL t0 t → (ps.foldl g t)[i]? = some true
  | p :: ps, t, hb, ht => by
    rcases List.mem_cons.1 hb with rfl | hb
    · exact (fold_up hg ps _).2 i (h t ht)
    · exact fold_hit hg h ps _ hb (ht.trans (hg t p))
theorem fold_inv {I : List Bool → Prop} : ∀ (ps : List β) (t : List Bool), (∀ t b, b ∈ ps → I t → I (g t b)) → I t → I (ps.foldl g t)
  | [], t, _, h => h
  | p :: ps, t, hg, h => fold_inv ps _ (fun t b hb => hg t b (List.mem_cons_of_mem _ hb)) (hg t p (by simp) h)
end
/-- mark d if s is marked and an edge leads from s to d -/
def mark (E : Nat → Nat → Bool) (t : List Bool) (s d : Nat) : List Bool := if t[s]? = some true ∧ E s d = true then t.set d true else t
theorem mark_up (E : Nat → Nat → Bool) (t : List Bool) (s d : Nat) : leL t (mark E t s d) := by
  unfold mark
  split
  · exact leL.set _ (fun _ => rfl)
  · exact leL.refl _
theorem mark_hit {E : Nat → Nat → Bool} {t0 t : List Bool} {s d : Nat} (ht : leL t0 t) (hs : t0[s]? = some true) (hE : E s d = true) (hd : d < t0.length) : (mark E t s d)[d]? = some true := by
  unfold mark
  rw [if_pos ⟨ht.2 s hs, hE⟩, List.getElem?_set_self (by rw [← ht.1]; exact hd)]
theorem mark_inv {E : Nat → Nat → Bool} {Q : Nat → Prop} {t : List Bool} {s d : Nat} (h : ∀ i : Nat, t[i]? = some true → Q i) (hq : Q s → E s d = true → Q d) : ∀ i : Nat, (mark E t s d)[i]? = some true → Q i := by
  intro i hi
  unfold mark at hi
  split at hi
  · rename_i hc
    rw [List.getElem?_set] at hi
    split at hi
    · rename_i e
      subst e
      exact hq (h s hc.1) hc.2
    · exact h i hi
  · exact h i hi
section
variable (N : Nat) (E : Nat → Nat → Bool)
def rowR (t : List Bool) (a : Nat) : List Bool := (List.range N).foldl (fun t b => mark E t a b) t
def sweepR (t : List Bool) : List Bool := (List.range N).foldl (rowR N E) t
def rowL (t : List Bool) (a : Nat) : List Bool := (List.range N).foldl (fun t b => mark E t b a) t
def sweepL (t : List Bool) : List Bool := (List.range N).foldl (rowL N E) t
theorem rowR_up (t : List Bool) (a : Nat) : leL t (rowR N E t a) := fold_up (fun t b => mark_up E t a b) _ _
theorem rowL_up (t : List Bool) (a : Nat) : leL t (rowL N E t a) := fold_up (fun t b => mark_up E t b a) _ _
theorem sweepR_up (t : List Bool) : leL t (sweepR N E t) := fold_up (fun t b => rowR_up N E t b) _ _
theorem sweepL_up (t : List Bool) : leL t (sweepL N E t) := fold_up (fun t b => rowL_up N E t b) _ _
theorem sweepR_hit {t : List Bool} {s d : Nat} (hl : t.length = N) (hs : t[s]? = some true) (hE : E s d = true) (hd : d < N) : (sweepR N E t)[d]? = some true := by
  have hsl : s < N := by have := (List.getElem?_eq_some_iff.1 hs).1; omega
  refine fold_hit (b := s) (t0 := t) (fun t b => rowR_up N E t b) (fun t1 h1 => ?_) _ _ (List.mem_range.2 hsl) (leL.refl _)
  exact fold_hit (b := d) (t0 := t) (fun t b => mark_up E t s b) (fun t2 h2 => mark_hit h2 hs hE (by omega)) _ _ (List.mem_range.2 hd) h1
theorem sweepL_hit {t : List Bool} {s d : Nat} (hl : t.length = N) (hs : t[s]? = some true) (hE : E s d = true) (hd : d < N) : (sweepL N E t)[d]? = some true := by
  have hsl : s < N := by have := (List.getElem?_eq_some_iff.1 hs).1; omega
  refine fold_hit (b := d) (t0 := t) (fun t b => rowL_up N E t b) (fun t1 h1 => ?_) _ _ (List.mem_range.2 hd) (leL.refl _)
  exact fold_hit (b := s) (t0 := t) (fun t b => mark_up E t b d) (fun t2 h2 => mark_hit h2 hs hE (by omega)) _ _ (List.mem_range.2 hsl) h1
theorem sweepR_inv {Q : Nat → Prop} (hq : ∀ s d, Q s → E s d = true → Q d) {t : List Bool} (h : ∀ i : Nat, t[i]? = some true → Q i) : ∀ i : Nat, (sweepR N E t)[i]? = some true → Q i :=
  fold_inv (I := fun t => ∀ i : Nat, t[i]? = some true → Q i) _ _ (fun t a _ h => fold_inv (I := fun t => ∀ i : Nat, t[i]? = some true → Q i) _ _ (fun t b _ h => mark_inv h (hq a b)) h) h
theorem sweepL_inv {Q : Nat → Prop} (hq : ∀ s d, Q s → E s d = true → Q d) {t : List Bool} (h : ∀ i : Nat, t[i]? = some true → Q i) : ∀ i : Nat, (sweepL N E t)[i]? = some true → Q i :=
  fold_inv (I := fun t => ∀ i : Nat, t[i]? = some true → Q i) _ _ (fun t a _ h => fold_inv (I := fun t => ∀ i : Nat, t[i]? = some true → Q i) _ _ (fun t b _ h => mark_inv h (hq b a)) h) h
end
theorem up_fixed {N : Nat} {f : List Bool → List Bool} (hf : ∀ t, leL t (f t)) {t : List Bool} (ht : t.length = N) : f (itr f (N) t) = itr f (N) t :=
  iter_fixed f (fun t => t.count true) N (fun t => t.length = N) (fun t h => h ▸ List.count_le_length) (fun t h => (hf t).1 ▸ h) (fun t h => (hf t).count) ht N (Nat.le_refl _)
theorem iter_inv {f : List Bool → List Bool} {I : List Bool → Prop} (hf : ∀ t, I t → I (f t)) : ∀ (n : Nat) (t : List Bool), I t → I (itr f (n) t)
  | 0, t, h => h
  | n + 1, t, h => iter_inv hf n (f t) (hf t h)
theorem getD_true {t : List Bool} {i : Nat} : t.getD i false = true ↔ t[i]? = some true := by
  rw [List.getD_eq_getElem?_getD]
  cases t[i]? <;> simp
section
variable (l : List Stmt) (hl : l.length ≤ 25)
def edge (x : ByteArray) (a b : Nat) : Bool := !defB (at_ l a) x && decide ((b : Int) ∈ nxt l a)
theorem edge_iff {x : ByteArray} {a b : Nat} : edge l x a b = true ↔ keepS l x a = true ∧ (b : Int) ∈ nxt l a := by
  simp [edge, keepS]
include hl
theorem rR_l3 (n : Int) (x : ByteArray) (turn a : Nat) (ha : a < l.length) (R : Bool) : ∀ (d b : Nat) (t : List Bool), b + d = l.length → t.length = l.length →
    (∀ t', t' = (List.range' b d).foldl (fun t b => mark (edge l x) t a b) t → Ev (fun k => lambrequinref20_Reaches.l2 k l n x t' turn ((a + 1 : Nat) : Int)) R) → Ev (fun k => lambrequinref20_Reaches.l3 k l n x t turn a b) R
  | 0, b, t, e, ht, go => by
    refine Ev.step (fun k => by rw [lambrequinref20_Reaches.l3]) (Ev.neg (by omega) ?_)
    rw [wrap_up (by omega)]
    exact go t rfl
  | d + 1, b, t, e, ht, go => by
    refine Ev.step (fun k => by rw [lambrequinref20_Reaches.l3]) (Ev.pos (by omega) (Ev.pos (by omega) (Ev.pos (by omega) ?_)))
    rw [wrap_up (n := b) (by omega)]
    have rest : ∀ t', t' = mark (edge l x) t a b → Ev (fun k => lambrequinref20_Reaches.l3 k l n x t' turn a ((b + 1 : Nat) : Int)) R := by
      rintro t' rfl
      refine rR_l3 n x turn a ha R d (b + 1) _ (by omega) (by rw [← (mark_up _ _ _ _).1]; exact ht) (fun t' h => go t' ?_)
      rw [h, List.range'_succ]
      rfl
    obtain ⟨v, hv⟩ : ∃ v, t[a]? = some v := ⟨_, List.getElem?_eq_getElem (by omega)⟩
    rw [show rdOf false t (a : Int) = v from getD_at hv _]
    cases v with
    | false => exact Ev.neg (by simp) (rest t (by unfold mark; rw [if_neg (by simp [hv])]))
    | true =>
      refine Ev.pos rfl (Ev.pos (by omega) (Ev.pure (rDefines_eq (at_ l a) x) ?_))
      cases hd : defB (at_ l a) x with
      | true => exact Ev.pos rfl (rest t (by unfold mark; rw [if_neg (by simp [edge, hd])]))
      | false =>
        refine Ev.neg (by simp) (Ev.bind (Leads_ev l a b) ?_)
        by_cases c : (b : Int) ∈ nxt l a
        · refine Ev.pos (decide_eq_true c) (Ev.pos (by omega) (Ev.pos (by omega) (rest _ ?_)))
          unfold mark
          rw [if_pos ⟨hv, by simp [edge, hd, c]⟩, Int.toNat_natCast]
        · exact Ev.neg (by simpa using c) (rest t (by unfold mark; rw [if_neg (by simp [edge, c])]))
theorem rR_l2 (n : Int) (x : ByteArray) (turn : Nat) (ht0 : turn < l.length) (R : Bool) : ∀ (d a : Nat) (t : List Bool), a + d = l.length → t.length = l.length →
    (∀ t', t' = (List.range' a d).foldl (rowR l.length (edge l x)) t → Ev (fun k => lambrequinref20_Reaches.l1 k l n x t' ((turn + 1 : Nat) : Int)) R) → Ev (fun k => lambrequinref20_Reaches.l2 k l n x t turn a) R
  | 0, a, t, e, ht, go => by
    refine Ev.step (fun k => by rw [lambrequinref20_Reaches.l2]) (Ev.neg (by omega) ?_)
    rw [wrap_up (by omega)]
    exact go t rfl
  | d + 1, a, t, e, ht, go => by
    refine Ev.step (fun k => by rw [lambrequinref20_Reaches.l2]) (Ev.pos (by omega) ?_)
    refine rR_l3 l hl n x turn a (by omega) R l.length 0 t (by omega) ht (fun t' h => ?_)
    rw [← List.range_eq_range'] at h
    refine rR_l2 n x turn ht0 R d (a + 1) t' (by omega) (by rw [h, ← (fold_up (fun t b => mark_up (edge l x) t a b) _ _).1]; exact ht) (fun t2 h2 => go t2 ?_)
    rw [h2, h, List.range'_succ]
    rfl
theorem rR_l1 (n : Nat) (hn : n < l.length) (x : ByteArray) (R : Bool) : ∀ (d turn : Nat) (t : List Bool), turn + d = l.length → t.length = l.length → R = (itr (sweepR l.length (edge l x)) (d) t).getD n false →
    Ev (fun k => lambrequinref20_Reaches.l1 k l n x t turn) R
  | 0, turn, t, e, ht, hR => by
    refine Ev.step (fun k => by rw [lambrequinref20_Reaches.l1]) (Ev.neg (by omega) (Ev.pos (by omega) (Ev.pos (by omega) (Ev.some ?_))))
    rw [hR]
    show t.getD (n : Int).toNat false = _
    rw [Int.toNat_natCast]
    rfl
  | d + 1, turn, t, e, ht, hR => by
    refine Ev.step (fun k => by rw [lambrequinref20_Reaches.l1]) (Ev.pos (by omega) ?_)
    refine rR_l2 l hl n x turn (by omega) R l.length 0 t (by omega) ht (fun t' h => ?_)
    rw [← List.range_eq_range'] at h
    have h' : t' = sweepR l.length (edge l x) t := h
    exact rR_l1 n hn x R d (turn + 1) t' (by omega) (by rw [h', ← (sweepR_up _ _ _).1]; exact ht) (by rw [hR, h']; rfl)
theorem rR_l0 (n : Nat) (hn : n < l.length) (x : ByteArray) (dd : Int) (R : Bool) : ∀ (d m : Nat) (t : List Bool), m + d = l.length → t.length = l.length → (∀ i : Nat, i < m → t[i]? = some (decide ((i : Int) ∈ nxt l dd))) →
    (∀ t', t'.length = l.length → (∀ i : Nat, i < l.length → t'[i]? = some (decide ((i : Int) ∈ nxt l dd))) → Ev (fun k => lambrequinref20_Reaches.l1 k l n x t' 0) R) → Ev (fun k => lambrequinref20_Reaches.l0 k l n x dd t m) R
  | 0, m, t, e, ht, hi, go => by
    refine Ev.step (fun k => by rw [lambrequinref20_Reaches.l0]) (Ev.neg (by omega) ?_)
    exact go t ht (fun i h => hi i (by omega))
  | d + 1, m, t, e, ht, hi, go => by
    refine Ev.step (fun k => by rw [lambrequinref20_Reaches.l0]) (Ev.pos (by omega) (Ev.bind (Leads_ev l dd m) ?_))
    refine Ev.pos (show (0 : Int) ≤ (m : Int) by omega) (Ev.pos (show (m : Int) < (t.length : Int) by omega) ?_)
    rw [wrap_up (by omega), Int.toNat_natCast]
    refine rR_l0 n hn x dd R d (m + 1) _ (by omega) (by simpa using ht) (fun i h => ?_) go
    rw [List.getElem?_set]
    by_cases c : m = i
    · subst c
      rw [if_pos rfl, if_pos (by omega)]
    · rw [if_neg c]
      exact hi i (by omega)
theorem rReaches_ev (n : Int) (x : ByteArray) (d : Int) : ∃ b, Ev (fun k => lambrequinref20_Reaches.f k l n x d) b ∧ (b = true ↔ reachP l n x d) := by
  unfold lambrequinref20_Reaches.f
  have no : ¬ reachP l n x d → ∃ b, Ev (fun k => lambrequinref20_Reaches.j0 k l n x d true) b ∧ (b = true ↔ reachP l n x d) := fun h =>
    ⟨false, Ev.step (fun k => by rw [lambrequinref20_Reaches.j0]) (Ev.pos rfl (Ev.now _)), by simp [h]⟩
  by_cases c1 : n < 0
  · simp only [if_pos c1]
    exact no (fun h => by have := h.1; omega)
  · simp only [if_neg c1]
    by_cases c2 : n ≥ (l.length : Int)
    · simp only [if_pos c2]
      exact no (fun h => by have := h.2.1; omega)
    · simp only [if_neg c2]
      by_cases c3 : d < 0
      · simp only [if_pos c3]
        exact no (fun h => by have := h.2.2.1; omega)
      · simp only [if_neg c3]
        by_cases c4 : d ≥ (l.length : Int)
        · simp only [if_pos c4]
          exact no (fun h => by have := h.2.2.2.1; omega)
        · simp only [if_neg c4, if_pos (show 0 ≤ d by omega), if_pos (show d < (l.length : Int) by omega)]
          have e := rDefines_eq (at_ l d) x
          unfold at_ at e
          rw [e]
          simp only [Option.bind_some]
          cases hd : defB (at_ l d) x with
          | false =>
            have hd' : defB (rd_T30 l d) x = false := hd
            rw [hd']
            exact no (fun h => by have := h.2.2.2.2.1; rw [hd] at this; cases this)
          | true =>
            have hd' : defB (rd_T30 l d) x = true := hd
            rw [hd']
            obtain ⟨m, rfl⟩ : ∃ m : Nat, n = (m : Int) := ⟨n.toNat, by omega⟩
            have hm : m < l.length := by omega
            let t0 : List Bool := (List.range l.length).map fun i : Nat => decide ((i : Int) ∈ nxt l d)
            have ht0 : t0.length = l.length := by simp [t0]
            have h0 : ∀ i : Nat, t0[i]? = some true ↔ (i : Int) ∈ nxt l d := by
              intro i
              by_cases hi : i < l.length
              · simp [t0, hi]
              · rw [List.getElem?_eq_none (by omega)]
                simp
                intro h
                have := nxt_within h
                omega
            let T := itr (sweepR l.length (edge l x)) (l.length) t0
            have hT : T.length = l.length := iter_inv (I := fun t => t.length = l.length) (fun t h => by rw [← (sweepR_up _ _ t).1]; exact h) _ _ ht0
            have hfix : sweepR l.length (edge l x) T = T := up_fixed (sweepR_up _ _) ht0
            have hup : leL t0 T := iter_inv (I := fun t => leL t0 t) (fun t h => h.trans (sweepR_up _ _ t)) _ _ (leL.refl _)
            have hsound : ∀ i : Nat, T[i]? = some true → Rch l (keepS l x) (nxt l d) i := by
              refine iter_inv (I := fun t => ∀ i : Nat, t[i]? = some true → Rch l (keepS l x) (nxt l d) i) (fun t h => sweepR_inv _ _ (fun s q hs hE => ?_) h) _ _ (fun i hi => .base ((h0 i).1 hi))
              obtain ⟨e1, e2⟩ := (edge_iff l).1 hE
              exact .step hs e1 e2
            have hcomp : ∀ q : Int, Rch l (keepS l x) (nxt l d) q → T[q.toNat]? = some true := by
              intro q hq
              induction hq with
              | base h =>
                have hw := nxt_within h
                refine hup.2 _ ((h0 _).2 ?_)
                rwa [Int.toNat_of_nonneg hw.1]
              | step h1 h2 h3 ih =>
                rename_i a b
                have hw := nxt_within h3
                rw [← hfix]
                refine sweepR_hit _ _ hT ih ((edge_iff l).2 ⟨?_, ?_⟩) (by omega)
                · rwa [Int.toNat_of_nonneg hw.2.2.1]
                · rwa [Int.toNat_of_nonneg hw.1, Int.toNat_of_nonneg hw.2.2.1]
            refine ⟨T.getD m false, ?_, ?_⟩
            · refine Ev.step (fun k => by rw [lambrequinref20_Reaches.j0]) (Ev.neg (by simp) (Ev.pos (by omega) (Ev.pos (by omega) ?_)))
              rw [Int.toNat_natCast]
              refine rR_l0 l hl m hm x d _ l.length 0 _ (by omega) (by simp) (by omega) (fun t' ht' hi' => ?_)
              have e' : t' = t0 := by
                apply List.ext_getElem?
                intro i
                by_cases hi : i < l.length
                · rw [hi' i hi]; simp [t0, hi]
                · rw [List.getElem?_eq_none (by omega), List.getElem?_eq_none (by omega)]
              subst e'
              exact rR_l1 l hl m hm x _ l.length 0 t0 (by omega) ht0 rfl
            · rw [getD_true]
              constructor
              · intro h; exact ⟨by omega, by omega, by omega, by omega, hd, hsound m h⟩
              · intro h
                have := hcomp _ h.2.2.2.2.2
                rwa [Int.toNat_natCast] at this
def egdeL (x : ByteArray) (s d : Nat) : Bool := edge l x d s
omit hl in
theorem egdeL_iff {x : ByteArray} {s d : Nat} : egdeL l x s d = true ↔ keepS l x d = true ∧ (s : Int) ∈ nxt l d := edge_iff l
theorem rL_l3 (n : Int) (x : ByteArray) (turn a : Nat) (ha : a < l.length) (R : Bool) : ∀ (d b : Nat) (t : List Bool), b + d = l.length → t.length = l.length →
    (∀ t', t' = (List.range' b d).foldl (fun t b => mark (egdeL l x) t b a) t → Ev (fun k => lambrequinref20_Lives.l2 k l n x t' turn ((a + 1 : Nat) : Int)) R) → Ev (fun k => lambrequinref20_Lives.l3 k l n x t turn a b) R
  | 0, b, t, e, ht, go => by
    refine Ev.step (fun k => by rw [lambrequinref20_Lives.l3]) (Ev.neg (by omega) ?_)
    rw [wrap_up (by omega)]
    exact go t rfl
  | d + 1, b, t, e, ht, go => by
    refine Ev.step (fun k => by rw [lambrequinref20_Lives.l3]) (Ev.pos (by omega) (Ev.pos (by omega) (Ev.pos (by omega) ?_)))
    rw [wrap_up (n := b) (by omega)]
    have rest : ∀ t', t' = mark (egdeL l x) t b a → Ev (fun k => lambrequinref20_Lives.l3 k l n x t' turn a ((b + 1 : Nat) : Int)) R := by
      rintro t' rfl
      refine rL_l3 n x turn a ha R d (b + 1) _ (by omega) (by rw [← (mark_up _ _ _ _).1]; exact ht) (fun t' h => go t' ?_)
      rw [h, List.range'_succ]
      rfl
    obtain ⟨v, hv⟩ : ∃ v, t[b]? = some v := ⟨_, List.getElem?_eq_getElem (by omega)⟩
    rw [show rdOf false t (b : Int) = v from getD_at hv _]
    cases v with
    | false => exact Ev.neg (by simp) (rest t (by unfold mark; rw [if_neg (by simp [hv])]))
    | true =>
      refine Ev.pos rfl (Ev.pos (by omega) (Ev.pos (by omega) (Ev.pure (rDefines_eq (at_ l a) x) ?_)))
      cases hd : defB (at_ l a) x with
      | true => exact Ev.pos rfl (rest t (by unfold mark; rw [if_neg (by simp [egdeL, edge, hd])]))
      | false =>
        refine Ev.neg (by simp) (Ev.bind (Leads_ev l a b) ?_)
        by_cases c : (b : Int) ∈ nxt l a
        · refine Ev.pos (decide_eq_true c) (Ev.pos (show (a : Int) < (t.length : Int) by omega) (rest _ ?_))
          unfold mark
          rw [if_pos ⟨hv, by simp [egdeL, edge, hd, c]⟩, Int.toNat_natCast]
        · exact Ev.neg (by simpa using c) (rest t (by unfold mark; rw [if_neg (by simp [egdeL, edge, c])]))
theorem rL_l2 (n : Int) (x : ByteArray) (turn : Nat) (ht0 : turn < l.length) (R : Bool) : ∀ (d a : Nat) (t : List Bool), a + d = l.length → t.length = l.length →
    (∀ t', t' = (List.range' a d).foldl (rowL l.length (egdeL l x)) t → Ev (fun k => lambrequinref20_Lives.l1 k l n x t' ((turn + 1 : Nat) : Int)) R) → Ev (fun k => lambrequinref20_Lives.l2 k l n x t turn a) R
  | 0, a, t, e, ht, go => by
    refine Ev.step (fun k => by rw [lambrequinref20_Lives.l2]) (Ev.neg (by omega) ?_)
    rw [wrap_up (by omega)]
    exact go t rfl
  | d + 1, a, t, e, ht, go => by
    refine Ev.step (fun k => by rw [lambrequinref20_Lives.l2]) (Ev.pos (by omega) ?_)
    refine rL_l3 l hl n x turn a (by omega) R l.length 0 t (by omega) ht (fun t' h => ?_)
    rw [← List.range_eq_range'] at h
    refine rL_l2 n x turn ht0 R d (a + 1) t' (by omega) (by rw [h, ← (fold_up (fun t b => mark_up (egdeL l x) t b a) _ _).1]; exact ht) (fun t2 h2 => go t2 ?_)
    rw [h2, h, List.range'_succ]
    rfl
theorem rL_l1 (n : Nat) (hn : n < l.length) (x : ByteArray) (R : Bool) : ∀ (d turn : Nat) (t : List Bool), turn + d = l.length → t.length = l.length → R = (itr (sweepL l.length (egdeL l x)) d t).getD n false →
    Ev (fun k => lambrequinref20_Lives.l1 k l n x t turn) R
  | 0, turn, t, e, ht, hR => by
    refine Ev.step (fun k => by rw [lambrequinref20_Lives.l1]) (Ev.neg (by omega) (Ev.pos (by omega) (Ev.pos (by omega) (Ev.some ?_))))
    rw [hR]
    show t.getD (n : Int).toNat false = _
    rw [Int.toNat_natCast]
    rfl
  | d + 1, turn, t, e, ht, hR => by
    refine Ev.step (fun k => by rw [lambrequinref20_Lives.l1]) (Ev.pos (by omega) ?_)
    refine rL_l2 l hl n x turn (by omega) R l.length 0 t (by omega) ht (fun t' h => ?_)
    rw [← List.range_eq_range'] at h
    have h' : t' = sweepL l.length (egdeL l x) t := h
    exact rL_l1 n hn x R d (turn + 1) t' (by omega) (by rw [h', ← (sweepL_up _ _ _).1]; exact ht) (by rw [hR, h']; rfl)
theorem rL_l0 (n : Nat) (hn : n < l.length) (x : ByteArray) (R : Bool) : ∀ (d m : Nat) (t : List Bool), m + d = l.length → t.length = l.length → (∀ i : Nat, i < m → t[i]? = some (mem x (usesS (at_ l i)))) →
    (∀ t', t'.length = l.length → (∀ i : Nat, i < l.length → t'[i]? = some (mem x (usesS (at_ l i)))) → Ev (fun k => lambrequinref20_Lives.l1 k l n x t' 0) R) → Ev (fun k => lambrequinref20_Lives.l0 k l n x t m) R
  | 0, m, t, e, ht, hi, go => by
    refine Ev.step (fun k => by rw [lambrequinref20_Lives.l0]) (Ev.neg (by omega) ?_)
    exact go t ht (fun i h => hi i (by omega))
  | d + 1, m, t, e, ht, hi, go => by
    refine Ev.step (fun k => by rw [lambrequinref20_Lives.l0]) ?_
    refine Ev.pos (by omega) ?_
    refine Ev.pos (by omega) ?_
    refine Ev.bind (rUses_ev (at_ l m)) ?_
    refine Ev.bind (In_ev (usesS (at_ l m)) x (by have := usesS_len (at_ l m); omega)) ?_
    refine Ev.pos (show (m : Int) < (t.length : Int) by omega) ?_
    rw [wrap_up (by omega), Int.toNat_natCast]
    refine rL_l0 n hn x R d (m + 1) _ (by omega) (by simpa using ht) (fun i h => ?_) go
    rw [List.getElem?_set]
    by_cases c : m = i
    · subst c
      rw [if_pos rfl, if_pos (by omega)]
    · rw [if_neg c]
      exact hi i (by omega)
omit hl in
theorem Rch_from {on : Int → Bool} {a b m : Int} (ha : on a = true) (hb : b ∈ nxt l a) (h : Rch l on [b] m) : Rch l on [a] m := by
  induction h with
  | base h =>
    obtain rfl := List.mem_singleton.1 h
    exact .step (.base (by simp)) ha hb
  | step _ h2 h3 ih => exact .step ih h2 h3
theorem rLives_ev (n : Int) (x : ByteArray) : ∃ b, Ev (fun k => lambrequinref20_Lives.f k l n x) b ∧ (b = true ↔ liveP l n x) := by
  unfold lambrequinref20_Lives.f
  have no : ¬ liveP l n x → ∃ b, Ev (fun k => lambrequinref20_Lives.j0 k l n x true) b ∧ (b = true ↔ liveP l n x) := fun h =>
    ⟨false, Ev.step (fun k => by rw [lambrequinref20_Lives.j0]) (Ev.pos rfl (Ev.now _)), by simp [h]⟩
  by_cases c1 : n < 0
  · simp only [if_pos c1]
    exact no (fun h => by have := h.1; omega)
  · simp only [if_neg c1]
    by_cases c2 : n ≥ (l.length : Int)
    · rw [decide_eq_true c2]
      exact no (fun h => by have := h.2.1; omega)
    · rw [decide_eq_false c2]
      obtain ⟨m, rfl⟩ : ∃ m : Nat, n = (m : Int) := ⟨n.toNat, by omega⟩
      have hm : m < l.length := by omega
      let t0 : List Bool := (List.range l.length).map fun i : Nat => mem x (usesS (at_ l i))
      have ht0 : t0.length = l.length := by simp [t0]
      have h0 : ∀ i : Nat, t0[i]? = some true ↔ i < l.length ∧ x ∈ usesS (at_ l i) := by
        intro i
        by_cases hi : i < l.length
        · rw [← mem_iff]; simp [t0, hi]
        · rw [List.getElem?_eq_none (by omega)]
          simp [hi]
      let T := itr (sweepL l.length (egdeL l x)) l.length t0
      have hT : T.length = l.length := iter_inv (I := fun t => t.length = l.length) (fun t h => by rw [← (sweepL_up _ _ t).1]; exact h) _ _ ht0
      have hfix : sweepL l.length (egdeL l x) T = T := up_fixed (sweepL_up _ _) ht0
      have hup : leL t0 T := iter_inv (I := fun t => leL t0 t) (fun t h => h.trans (sweepL_up _ _ t)) _ _ (leL.refl _)
      have hsound : ∀ i : Nat, T[i]? = some true → liveP l i x := by
        refine iter_inv (I := fun t => ∀ i : Nat, t[i]? = some true → liveP l i x) (fun t h => sweepL_inv _ _ (fun s q hs hE => ?_) h) _ _ (fun i hi => ?_)
        · obtain ⟨e1, e2⟩ := (egdeL_iff l).1 hE
          obtain ⟨h1, h2, m', h3, h4⟩ := hs
          have hw := nxt_within e2
          exact ⟨hw.2.2.1, hw.2.2.2, m', Rch_from l e1 e2 h3, h4⟩
        · obtain ⟨h1, h2⟩ := (h0 i).1 hi
          exact ⟨by omega, by omega, i, .base (by simp), h2⟩
      have hcomp : ∀ q : Int, Rch l (keepS l x) [(m : Int)] q → 0 ≤ q → T[q.toNat]? = some true → T[m]? = some true := by
        intro q hq
        induction hq with
        | base h =>
          obtain rfl := List.mem_singleton.1 h
          intro _ h
          rwa [Int.toNat_natCast] at h
        | step h1 h2 h3 ih =>
          rename_i a b
          intro hb0 hb
          have hw := nxt_within h3
          refine ih hw.2.2.1 ?_
          rw [← hfix]
          refine sweepL_hit _ _ hT hb ((egdeL_iff l).2 ⟨?_, ?_⟩) (by omega)
          · rwa [Int.toNat_of_nonneg hw.2.2.1]
          · rwa [Int.toNat_of_nonneg hw.1, Int.toNat_of_nonneg hw.2.2.1]
      refine ⟨T.getD m false, ?_, ?_⟩
      · refine Ev.step (fun k => by rw [lambrequinref20_Lives.j0]) (Ev.neg (by simp) (Ev.pos (by omega) (Ev.pos (by omega) ?_)))
        rw [Int.toNat_natCast]
        refine rL_l0 l hl m hm x _ l.length 0 _ (by omega) (by simp) (by omega) (fun t' ht' hi' => ?_)
        have e' : t' = t0 := by
          apply List.ext_getElem?
          intro i
          by_cases hi : i < l.length
          · rw [hi' i hi]; simp [t0, hi]
          · rw [List.getElem?_eq_none (by omega), List.getElem?_eq_none (by omega)]
        subst e'
        exact rL_l1 l hl m hm x _ l.length 0 t0 (by omega) ht0 rfl
      · rw [getD_true]
        constructor
        · exact hsound m
        · rintro ⟨-, -, q, h1, h2⟩
          have hw := Rch_within (by intro f hf; obtain rfl := List.mem_singleton.1 hf; omega) h1
          refine hcomp q h1 hw.1 (hup.2 _ ((h0 _).2 ⟨by omega, ?_⟩))
          rwa [Int.toNat_of_nonneg hw.1]
end
end Go.Proofs.Ytnepgcbgkhikkaa.H
/- the steps of a flow's taints, in plain words -/
namespace Go.Proofs.Ytnepgcbgkhikkaa.H
open Go.RowKit Go.Proofs.YtnepgcbgkhikkaaW.PrintWords
def idxS (names : List ByteArray) (x : ByteArray) : Int := idxP (fun y => decide (y = x)) names 0
theorem Index_at (l : List ByteArray) (s : ByteArray) (hl : l.length ≤ 9223372036854775807) : ∀ (r : List ByteArray) (n : Nat), l.drop n = r → Ev (fun k => slices_Index_string_string.l0 k l s (l.length : Int) n) (idxP (fun y => decide (y = s)) r n)
  | [], n, h => by
    refine Ev.step (fun k => by rw [slices_Index_string_string.l0]) ?_
    exact Ev.neg (drop_end h) (Ev.now _)
  | y :: r, n, h => by
    obtain ⟨h1, h2, h3, h4, h5⟩ := drop_more h hl
    have ih := Index_at l s hl r (n + 1) h4
    refine Ev.step (fun k => by rw [slices_Index_string_string.l0]) (Ev.pos h1 (Ev.pos h2 (Ev.pos h1 ?_)))
    rw [show rdOf ByteArray.empty l n = y from h3 _, h5]
    by_cases c : s = y
    · rw [show idxP (fun y => decide (y = s)) (y :: r) n = (n : Int) by unfold idxP; rw [if_pos (by simp [c])]]
      exact Ev.pos (by rw [c]) (Ev.now _)
    · rw [show idxP (fun y => decide (y = s)) (y :: r) n = idxP (fun y => decide (y = s)) r (n + 1) by rw [idxP, if_neg (by simpa using fun e => c e.symm)]]
      exact Ev.neg (by rw [lib_ba_eq]; exact c) ih
theorem Index_ev (l : List ByteArray) (s : ByteArray) (hl : l.length ≤ 9223372036854775807) : Ev (fun k => slices_Index_string_string.f k l s) (idxS l s) := Index_at l s hl l 0 rfl
theorem idxS_range (l : List ByteArray) (s : ByteArray) : -1 ≤ idxS l s ∧ idxS l s < (l.length : Int) := by
  have h : ∀ (r : List ByteArray) (i : Nat), -1 ≤ idxP (fun y => decide (y = s)) r i ∧ idxP (fun y => decide (y = s)) r i < ((i + r.length : Nat) : Int) ∨ idxP (fun y => decide (y = s)) r i = -1 := by
    intro r
    induction r with
    | nil => intro i; right; rfl
    | cons y r ih =>
      intro i
      unfold idxP
      split
      · left; simp; omega
      · rcases ih (i + 1) with h | h
        · left; simp at h ⊢; omega
        · right; exact h
  rcases h l 0 with h | h
  · unfold idxS; simp at h; omega
  · unfold idxS; omega
/-- the place of a name ahead of a statement -/
def atP (names : List ByteArray) (n : Int) (x : ByteArray) : Int := n * names.length + idxS names x
/-- the steps from a statement to one to which it leads: of the names that it doesn't define -/
def keptF (names : List ByteArray) (n m : Int) (st : Stmt) (y : ByteArray) : List (Int × Int) := if defB st y = true then [] else [(atP names n y, atP names m y)]
/-- of those that it uses -/
def usedF (names : List ByteArray) (n m : Int) (st : Stmt) (y : ByteArray) : (Int × Int) := (atP names n y, atP names m (defN st).1)
def opK (st : Stmt) : Prop := st.kind = 2 ∨ st.kind = 3
instance (st : Stmt) : Decidable (opK st) := by unfold opK; infer_instance
def stF (names : List ByteArray) (n : Int) (st : Stmt) (m : Int) : List (Int × Int) := names.flatMap (keptF names n m st) ++ (if opK st then (usesS st).map (usedF names n m st) else [])
def srcF (names : List ByteArray) (st : Stmt) (m : Int) : List Int := if st.kind = 4 then [atP names m (defN st).1] else []
def stepsAt (l : List Stmt) (names : List ByteArray) (n : Nat) : List (Int × Int) := (nxt l n).flatMap (stF names n (at_ l n))
def srcsAt (l : List Stmt) (names : List ByteArray) (n : Nat) : List Int := (nxt l n).flatMap (srcF names (at_ l n))
def stepsP (l : List Stmt) (names : List ByteArray) : List (Int × Int) := (List.range l.length).flatMap (stepsAt l names)
def srcsP (l : List Stmt) (names : List ByteArray) : List Int := (List.range l.length).flatMap (srcsAt l names)
theorem flatMap_len {α β : Type} (f : α → List β) (K : Nat) (h : ∀ a, (f a).length ≤ K) : ∀ l : List α, (l.flatMap f).length ≤ l.length * K
  | [] => by simp
  | a :: l => by
    rw [List.flatMap_cons, List.length_append, List.length_cons, Nat.succ_mul]
    have := flatMap_len f K h l
    have := h a
    omega
theorem stF_len (names : List ByteArray) (n : Int) (st : Stmt) (m : Int) : (stF names n st m).length ≤ names.length + 2 := by
  unfold stF
  rw [List.length_append]
  have h1 := flatMap_len (keptF names n m st) 1 (fun y => by unfold keptF; split <;> simp) names
  have h2 := usesS_len st
  split
  · rw [List.length_map]; omega
  · rw [List.length_nil]; omega
theorem srcF_len (names : List ByteArray) (st : Stmt) (m : Int) : (srcF names st m).length ≤ 1 := by
  unfold srcF; split <;> simp
theorem stepsAt_len (l : List Stmt) (names : List ByteArray) (n : Nat) : (stepsAt l names n).length ≤ 2 * (names.length + 2) := by
  unfold stepsAt
  have h1 := flatMap_len (stF names n (at_ l n)) (names.length + 2) (stF_len names n (at_ l n)) (nxt l n)
  have h2 := nxt_len l n
  exact Nat.le_trans h1 (Nat.mul_le_mul_right _ h2)
theorem srcsAt_len (l : List Stmt) (names : List ByteArray) (n : Nat) : (srcsAt l names n).length ≤ 2 := by
  unfold srcsAt
  have h1 := flatMap_len (srcF names (at_ l n)) 1 (srcF_len names (at_ l n)) (nxt l n)
  have h2 := nxt_len l n
  omega
theorem flatMap_take {α β : Type} (f : α → List β) {l : List α} {k : Nat} {y : α} (h : l[k]? = some y) : (l.take (k + 1)).flatMap f = (l.take k).flatMap f ++ f y := by
  rw [List.take_add_one, h]; simp
theorem atP_range {names : List ByteArray} {n : Int} {x : ByteArray} (h0 : 0 ≤ n) (h1 : n ≤ 1000) (hl : names.length ≤ 3000) : -1 ≤ atP names n x ∧ atP names n x ≤ 4000000 := by
  have := idxS_range names x
  unfold atP
  have h2 : 0 ≤ n * (names.length : Int) := Int.mul_nonneg h0 (by omega)
  have h3 : n * (names.length : Int) ≤ 1000 * 3000 := Int.mul_le_mul h1 (by omega) (by omega) (by omega)
  omega
end Go.Proofs.Ytnepgcbgkhikkaa.H
/- breadth first over the steps of taints, in plain words: what is seen is what is tainted -/
namespace Go.Proofs.Ytnepgcbgkhikkaa.H
open Go.RowKit Go.Proofs.YtnepgcbgkhikkaaW.PrintWords
def nextG (steps : List (Int × Int)) (a : Int) : List Int := (steps.filter fun p => decide (p.1 = a)).map Prod.snd
theorem nextG_snoc (steps : List (Int × Int)) (p : Int × Int) (a : Int) : nextG (steps ++ [p]) a = nextG steps a ++ (if p.1 = a then [p.2] else []) := by
  unfold nextG
  rw [List.filter_append, List.map_append]
  by_cases h : p.1 = a <;> simp [h]
theorem mem_nextG {steps : List (Int × Int)} {a b : Int} : b ∈ nextG steps a ↔ (a, b) ∈ steps := by
  unfold nextG
  simp only [List.mem_map, List.mem_filter, decide_eq_true_eq]
  constructor
  · rintro ⟨⟨p, q⟩, ⟨h1, rfl⟩, rfl⟩; exact h1
  · intro h; exact ⟨(a, b), ⟨h, rfl⟩, rfl⟩
def seeV (seen : Int → Bool) (k : Int) : Int → Bool := fun y => if y = k then true else seen y
def tntV (G : Int → List Int) : Nat → (Int → Bool) → List Int → Option (Int → Bool)
  | 0, _, _ => none
  | _ + 1, seen, [] => some seen
  | g + 1, seen, k :: r => if seen k = true then tntV G g seen r else tntV G g (seeV seen k) (r ++ G k)
/-- what is tainted: what comes of a source, step by step -/
inductive Tnt (steps : List (Int × Int)) (srcs : List Int) : Int → Prop
  | base {p : Int} : p ∈ srcs → Tnt steps srcs p
  | step {p q : Int} : Tnt steps srcs p → (p, q) ∈ steps → Tnt steps srcs q
structure Mid (steps : List (Int × Int)) (srcs : List Int) (seen : Int → Bool) (todo : List Int) : Prop where
  t : ∀ k ∈ todo, Tnt steps srcs k
  s : ∀ k, seen k = true → Tnt steps srcs k
  b : ∀ p ∈ srcs, seen p = true ∨ p ∈ todo
  c : ∀ p q, seen p = true → (p, q) ∈ steps → seen q = true ∨ q ∈ todo
theorem Mid.skip {steps : List (Int × Int)} {srcs : List Int} {seen : Int → Bool} {k : Int} {r : List Int} (h : Mid steps srcs seen (k :: r)) (hk : seen k = true) : Mid steps srcs seen r where
  t := fun x hx => h.t x (List.mem_cons_of_mem _ hx)
  s := h.s
  b := fun p hp => by
    rcases h.b p hp with q | q
    · exact .inl q
    · rcases List.mem_cons.1 q with rfl | q
      · exact .inl hk
      · exact .inr q
  c := fun p q hp hq => by
    rcases h.c p q hp hq with z | z
    · exact .inl z
    · rcases List.mem_cons.1 z with rfl | z
      · exact .inl hk
      · exact .inr z
theorem Mid.see {steps : List (Int × Int)} {srcs : List Int} {seen : Int → Bool} {k : Int} {r : List Int} (h : Mid steps srcs seen (k :: r)) : Mid steps srcs (seeV seen k) (r ++ nextG steps k) where
  t := fun x hx => by
    rcases List.mem_append.1 hx with hx | hx
    · exact h.t x (List.mem_cons_of_mem _ hx)
    · exact .step (h.t k (by simp)) (mem_nextG.1 hx)
  s := fun x hx => by
    unfold seeV at hx
    split at hx
    · rename_i e; subst e; exact h.t _ (by simp)
    · exact h.s x hx
  b := fun p hp => by
    unfold seeV
    by_cases e : p = k
    · left; rw [if_pos e]
    · rw [if_neg e]
      rcases h.b p hp with z | z
      · exact .inl z
      · rcases List.mem_cons.1 z with rfl | z
        · exact absurd rfl e
        · exact .inr (List.mem_append_left _ z)
  c := fun p q hp hq => by
    unfold seeV at hp ⊢
    by_cases e : q = k
    · left; rw [if_pos e]
    · rw [if_neg e]
      by_cases e2 : p = k
      · subst e2
        exact .inr (List.mem_append_right _ (mem_nextG.2 hq))
      · rw [if_neg e2] at hp
        rcases h.c p q hp hq with z | z
        · exact .inl z
        · rcases List.mem_cons.1 z with rfl | z
          · exact absurd rfl e
          · exact .inr (List.mem_append_left _ z)
theorem tntV_spec (steps : List (Int × Int)) (srcs : List Int) : ∀ (g : Nat) (seen : Int → Bool) (todo : List Int) (r : Int → Bool), Mid steps srcs seen todo → tntV (nextG steps) g seen todo = some r → ∀ k, r k = true ↔ Tnt steps srcs k
  | 0, seen, todo, r, h, e => by simp [tntV] at e
  | g + 1, seen, [], r, h, e => by
    obtain rfl : seen = r := by simpa [tntV] using e
    intro k
    refine ⟨h.s k, fun ht => ?_⟩
    induction ht with
    | base hp => rcases h.b _ hp with z | z; exact z; simp at z
    | step _ hq ih => rcases h.c _ _ ih hq with z | z; exact z; simp at z
  | g + 1, seen, k :: t, r, h, e => by
    rw [tntV] at e
    by_cases c : seen k = true
    · rw [if_pos c] at e
      exact tntV_spec steps srcs g seen t r (h.skip c) e
    · rw [if_neg c] at e
      exact tntV_spec steps srcs g _ _ r h.see e
/-- how many rounds are left at most -/
def potV (steps : List (Int × Int)) (seen : Int → Bool) (todo : List Int) : Nat := todo.length + (steps.filter fun p => !seen p.1).length
theorem pot_see (steps : List (Int × Int)) (seen : Int → Bool) (k : Int) (r : List Int) (h : seen k = false) : potV steps (seeV seen k) (r ++ nextG steps k) + 1 = potV steps seen (k :: r) := by
  have e : (steps.filter fun p => !seen p.1).length = (steps.filter fun p => !seeV seen k p.1).length + (nextG steps k).length := by
    unfold nextG
    rw [List.length_map]
    induction steps with
    | nil => rfl
    | cons p s ih =>
      by_cases c : p.1 = k
      · have h1 : seen p.1 = false := by rw [c]; exact h
        simp [List.filter_cons, c, h, seeV] at ih ⊢
        omega
      · simp only [List.filter_cons, seeV, if_neg c, c, decide_false, Bool.false_eq_true, if_false]
        cases hs : seen p.1
        · simp [hs] at ih ⊢; simp [seeV] at ih; omega
        · simp [hs] at ih ⊢; simp [seeV] at ih; omega
  unfold potV
  rw [List.length_append, e, List.length_cons]
  omega
theorem tntV_some (steps : List (Int × Int)) : ∀ (g : Nat) (seen : Int → Bool) (todo : List Int), potV steps seen todo < g → ∃ r, tntV (nextG steps) g seen todo = some r
  | 0, seen, todo, h => by omega
  | g + 1, seen, [], h => ⟨seen, rfl⟩
  | g + 1, seen, k :: t, h => by
    rw [tntV]
    by_cases c : seen k = true
    · rw [if_pos c]
      exact tntV_some steps g seen t (by unfold potV at h ⊢; rw [List.length_cons] at h; omega)
    · rw [if_neg c]
      have := pot_see steps seen k t (by simpa using c)
      exact tntV_some steps g _ _ (by omega)
theorem tntV_more (G : Int → List Int) : ∀ (g : Nat) (seen : Int → Bool) (todo : List Int), LeO (tntV G g seen todo) (tntV G (g + 1) seen todo)
  | 0, _, _ => LeO.none _
  | g + 1, seen, [] => LeO.refl _
  | g + 1, seen, k :: t => by
    rw [tntV, tntV.eq_3]
    exact LeO.ite (tntV_more G g _ _) (tntV_more G g _ _)
end Go.Proofs.Ytnepgcbgkhikkaa.H
/- what the steps of taints bring -/
namespace Go.Proofs.Ytnepgcbgkhikkaa.H
open Go.RowKit Go.Proofs.YtnepgcbgkhikkaaW.PrintWords
theorem idxP_mem {α : Type} (p : α → Bool) : ∀ (l : List α) (i : Nat), (∃ x ∈ l, p x = true) → 0 ≤ idxP p l i
  | [], i, h => by obtain ⟨x, hx, -⟩ := h; simp at hx
  | y :: l, i, h => by
    unfold idxP
    split
    · omega
    · rename_i c
      refine idxP_mem p l (i + 1) ?_
      obtain ⟨x, hx, hp⟩ := h
      rcases List.mem_cons.1 hx with rfl | hx
      · exact absurd hp c
      · exact ⟨x, hx, hp⟩
theorem idxP_not {α : Type} (p : α → Bool) : ∀ (l : List α) (i : Nat), (∀ x ∈ l, p x = false) → idxP p l i = -1
  | [], i, h => rfl
  | y :: l, i, h => by
    unfold idxP
    rw [if_neg (by rw [h y (by simp)]; simp)]
    exact idxP_not p l (i + 1) (fun x hx => h x (List.mem_cons_of_mem _ hx))
theorem idxS_mem {names : List ByteArray} {x : ByteArray} : 0 ≤ idxS names x ↔ x ∈ names := by
  constructor
  · intro h
    by_cases c : x ∈ names
    · exact c
    · have := idxP_not (fun y => decide (y = x)) names 0 (fun y hy => by simp; rintro rfl; exact c hy)
      unfold idxS at h
      omega
  · intro h
    exact idxP_mem _ _ _ ⟨x, h, by simp⟩
def TaintP (s : List Stmt) (names : List ByteArray) (n : Int) (x : ByteArray) : Prop := Tnt (stepsP s names) (srcsP s names) (atP names n x)
theorem at_nat {s : List Stmt} {n : Int} (h0 : 0 ≤ n) : ((n.toNat : Nat) : Int) = n := by omega
theorem kept_step {s : List Stmt} {names : List ByteArray} {n m : Int} {y : ByteArray} (h0 : 0 ≤ n) (h1 : n < (s.length : Int)) (hm : m ∈ nxt s n) (hy : y ∈ names) (hd : defB (at_ s n) y = false) (h : TaintP s names n y) : TaintP s names m y := by
  refine .step h ?_
  unfold stepsP stepsAt
  refine List.mem_flatMap.2 ⟨n.toNat, List.mem_range.2 (by omega), ?_⟩
  rw [at_nat (s := s) h0]
  refine List.mem_flatMap.2 ⟨m, hm, ?_⟩
  unfold stF
  refine List.mem_append_left _ (List.mem_flatMap.2 ⟨y, hy, ?_⟩)
  unfold keptF
  rw [if_neg (by rw [hd]; simp)]
  simp
theorem used_step {s : List Stmt} {names : List ByteArray} {n m : Int} {y : ByteArray} (h0 : 0 ≤ n) (h1 : n < (s.length : Int)) (hm : m ∈ nxt s n) (hk : opK (at_ s n)) (hy : y ∈ usesS (at_ s n)) (h : TaintP s names n y) : TaintP s names m (defN (at_ s n)).1 := by
  refine .step h ?_
  unfold stepsP stepsAt
  refine List.mem_flatMap.2 ⟨n.toNat, List.mem_range.2 (by omega), ?_⟩
  rw [at_nat (s := s) h0]
  refine List.mem_flatMap.2 ⟨m, hm, ?_⟩
  unfold stF
  rw [if_pos hk]
  exact List.mem_append_right _ (List.mem_map.2 ⟨y, hy, rfl⟩)
theorem source_step {s : List Stmt} {names : List ByteArray} {n m : Int} (h0 : 0 ≤ n) (h1 : n < (s.length : Int)) (hm : m ∈ nxt s n) (hk : (at_ s n).kind = 4) : TaintP s names m (defN (at_ s n)).1 := by
  refine .base ?_
  unfold srcsP srcsAt
  refine List.mem_flatMap.2 ⟨n.toNat, List.mem_range.2 (by omega), ?_⟩
  rw [at_nat (s := s) h0]
  refine List.mem_flatMap.2 ⟨m, hm, ?_⟩
  unfold srcF
  rw [if_pos hk]
  simp
end Go.Proofs.Ytnepgcbgkhikkaa.H
namespace Go.Proofs.Ytnepgcbgkhikkaa.H
open Go.RowKit Go.Proofs.YtnepgcbgkhikkaaW.PrintWords Go.Proofs.YtnepgcbgkhikkaaW.PrintLast Go.Proofs.YtnepgcbgkhikkaaW.PrintMore
/-- A kind of elements whose cells are told by the element alone (no rows inside). -/
structure Flat {α : Type} (d : Kd α) (c : α → List Value) : Prop where
  M : ∀ {w base ok x cs}, d.M w base ok x cs ↔ cs = c x
  K : ∀ {w x cs}, d.K w x cs ↔ cs = c x
  len : ∀ x, (c x).length = d.sz
  one : ∀ x, ∀ u ∈ c x, u.oneCell' = true
  pos : 0 < d.sz
section
variable {α : Type} {d : Kd α} {c : α → List Value}
theorem Flat.flen (F : Flat d c) : ∀ xs : List α, (xs.flatMap c).length = xs.length * d.sz
  | [] => by simp
  | x :: xs => by rw [List.flatMap_cons, List.length_append, F.len, F.flen xs, List.length_cons, Nat.succ_mul, Nat.add_comm]
theorem Flat.fone (F : Flat d c) (xs : List α) : ∀ u ∈ xs.flatMap c, u.oneCell' = true := fun u hu => by
  obtain ⟨x, _, hx⟩ := List.mem_flatMap.1 hu
  exact F.one x u hx
theorem Flat.fdrop (F : Flat d c) : ∀ (xs : List α) (i : Nat), (xs.flatMap c).drop (i * d.sz) = (xs.drop i).flatMap c
  | xs, 0 => by simp
  | [], i + 1 => by simp
  | x :: xs, i + 1 => by
    rw [List.flatMap_cons, List.drop_append, F.len, List.drop_eq_nil_of_le (by rw [F.len, Nat.succ_mul]; omega), List.nil_append, List.drop_succ_cons, ← F.fdrop xs i]
    congr 1
    rw [Nat.succ_mul]; omega
theorem Flat.ftake (F : Flat d c) : ∀ (xs : List α) (i : Nat), (xs.flatMap c).take (i * d.sz) = (xs.take i).flatMap c
  | xs, 0 => by simp
  | [], i + 1 => by simp
  | x :: xs, i + 1 => by
    rw [List.flatMap_cons, List.take_append, F.len, List.take_of_length_le (by rw [F.len, Nat.succ_mul]; omega), List.take_succ_cons, List.flatMap_cons, ← F.ftake xs i]
    congr 2
    rw [Nat.succ_mul]; omega
theorem Flat.fget (F : Flat d c) {xs : List α} {i : Nat} {x : α} (h : xs[i]? = some x) : ((xs.flatMap c).drop (i * d.sz)).take d.sz = c x := by
  rw [F.fdrop, drop_cons h, List.flatMap_cons, List.take_append_of_le_length (by rw [F.len]; exact Nat.le_refl _), List.take_of_length_le (by rw [F.len]; exact Nat.le_refl _)]
theorem Flat.reps (F : Flat d c) {R : α → List Value → Prop} (hR : ∀ x cs, R x cs ↔ cs = c x) : ∀ {xs : List α} {inner : List Value}, Reps R d.sz xs inner ↔ inner = xs.flatMap c := by
  intro xs inner
  constructor
  · intro h
    apply List.ext_getElem?
    intro q
    by_cases hq : q < xs.length * d.sz
    · have hi : q / d.sz < xs.length := (Nat.div_lt_iff_lt_mul F.pos).2 hq
      have h1 := (hR _ _).1 (h.2 (q / d.sz) _ (List.getElem?_eq_getElem hi))
      have h2 := F.fget (List.getElem?_eq_getElem hi)
      have e : ∀ l : List Value, ((l.drop (q / d.sz * d.sz)).take d.sz)[q % d.sz]? = l[q]? := fun l => by
        rw [List.getElem?_take, if_pos (Nat.mod_lt _ F.pos), List.getElem?_drop, Nat.mul_comm, Nat.div_add_mod]
      rw [← e inner, ← e (xs.flatMap c), h1, h2]
    · rw [List.getElem?_eq_none (by rw [h.1]; omega), List.getElem?_eq_none (by rw [F.flen]; omega)]
  · rintro rfl
    exact ⟨F.flen xs, fun j p hj => (hR _ _).2 (F.fget hj)⟩
/-- what a row of one's own is, told by its block -/
structure Blk (d : Kd α) (c : α → List Value) (e : Nat) (w : World) (base : Nat) (ok : Nat → Prop) (g n cap : Nat) (xs : List α) (cur : Array Value) : Prop where
  len : n = xs.length
  okg : ok g
  bas : base ≤ g
  heap : w.heap[g]? = some (.cells cur e (0, 0))
  le : n ≤ cap
  max : cap ≤ maxLen
  size : cur.size = cap * d.sz
  take : cur.toList.take (n * d.sz) = xs.flatMap c
theorem Flat.blk (F : Flat d c) {e : Nat} {w : World} {base : Nat} {ok : Nat → Prop} {g n cap : Nat} {xs : List α} (h : d.R e w base ok (.slice (some ⟨g, 0, none⟩) n cap) xs) : ∃ cur, Blk d c e w base ok g n cap xs cur := by
  obtain ⟨hn, _, _⟩ := Kd.R_reads' h
  obtain ⟨hok, inner, ⟨hlen, ho⟩, hr⟩ := h
  rcases ho with ⟨he, _⟩ | ⟨g', cap', cur, he, hb, hh, hnc, hcm, hcs, htk⟩
  · cases he
  · cases he
    exact ⟨cur, hn, hok g rfl, hb, hh, by omega, hcm, hcs, by rw [hn, htk]; exact (F.reps (fun _ _ => F.M)).1 hr⟩
theorem Flat.row (F : Flat d c) {e : Nat} {w : World} {base : Nat} {ok : Nat → Prop} {g n cap : Nat} {xs : List α} {cur : Array Value} (h : Blk d c e w base ok g n cap xs cur) : d.R e w base ok (.slice (some ⟨g, 0, none⟩) n cap) xs := by
  have hn := h.len
  subst hn
  refine ⟨fun k hk => ?_, xs.flatMap c, ⟨F.flen xs, .inr ⟨g, cap, cur, rfl, h.bas, h.heap, h.le, h.max, h.size, h.take⟩⟩, (F.reps (fun _ _ => F.M)).2 rfl⟩
  have : g = k := by simpa [Value.ownBlock] using hk
  exact this ▸ h.okg
/-- a row that is read: its cells -/
theorem Flat.cell (F : Flat d c) {w : World} {A : Addr} {n : Nat} {xs : List α} (h : d.C w (some A) n xs) : ∀ j u, (xs.flatMap c)[j]? = some u → w.cell? (A.add j) = some u := by
  intro j u hj
  have hjl : j < xs.length * d.sz := by rw [← F.flen]; exact (List.getElem?_eq_some_iff.1 hj).1
  have hi : j / d.sz < xs.length := (Nat.div_lt_iff_lt_mul F.pos).2 hjl
  obtain ⟨ad, cs, e, hs, hK, hc⟩ := Kd.C_nth h (List.getElem?_eq_getElem hi)
  cases e
  have hk := F.K.1 hK
  have h2 := F.fget (List.getElem?_eq_getElem hi)
  have e : ((xs.flatMap c).drop (j / d.sz * d.sz)).take d.sz = cs := by rw [h2, hk]
  have h3 : cs[j % d.sz]? = some u := by
    rw [← e, List.getElem?_take, if_pos (Nat.mod_lt _ F.pos), List.getElem?_drop, Nat.mul_comm, Nat.div_add_mod]; exact hj
  have := hc _ _ h3
  rwa [Nat.mul_comm, Nat.div_add_mod] at this
end
section
variable {P : Program}
theorem run_copy_sz (w : World) (dT sT ty elem : TypeId) (b o dLen dCap : Nat) (a : Addr) (sLen sCap sz k : Nat) (cs : List Value)
    (hu : P.underlying dT = some (.slice elem)) (hs : (P.info? elem).map (·.size) = some sz) (hk : k = Nat.min sLen dLen) (hn : cs.length = k * sz)
    (hsrc : ∀ j v, cs[j]? = some v → w.cell? (a.add j) = some v) (hc : ∀ j, j < cs.length → (w.cell? ⟨b, o + j, none⟩).isSome = true) (hf : ∀ j, j < cs.length → w.frozen? ⟨b, o + j, none⟩ = false) (h1 : ∀ v ∈ cs, v.oneCell' = true) :
    (Builtin.copy_ #[dT, sT] ty #[.slice (some ⟨b, o, none⟩) dLen dCap, .slice (some a) sLen sCap]).run P w = .ok (goInt k) (w.setCells b o cs) := by
  have hl := run_loadCells_list (P := P) w a cs hsrc
  have hst := run_storeCells_cells (P := P) b o cs 0 w (by simpa using hc) (by simpa using hf) h1
  cases hq : P.info? elem with
  | none => simp [hq] at hs
  | some i =>
    have hi : i.size = sz := by simpa [hq] using hs
    simp [Builtin.copy_, run_underlying hu, Builtin.lenOf, Builtin.firstCells, sizeOf, typeInfo, hq, hi, ← hk, ← hn, hl, hst]
end
/-- the cells of a block behind 'setCells' -/
theorem setCells_heap {g : Nat} {e : TypeId} : ∀ (vs : List Value) (o : Nat) (w : World) (cur : Array Value), w.heap[g]? = some (.cells cur e (0, 0)) → o + vs.length ≤ cur.size →
    ∃ cur' : Array Value, (w.setCells g o vs).heap[g]? = some (.cells cur' e (0, 0)) ∧ cur'.size = cur.size ∧ cur'.toList = cur.toList.take o ++ vs ++ cur.toList.drop (o + vs.length)
  | [], o, w, cur, h, _ => ⟨cur, h, rfl, by simp⟩
  | v :: r, o, w, cur, h, hl => by
    have h1 := blk_set h o v
    obtain ⟨cur', h2, h3, h4⟩ := setCells_heap r (o + 1) _ _ h1 (by simp at hl ⊢; omega)
    refine ⟨cur', h2, by rw [h3]; simp, ?_⟩
    rw [h4]
    have e := list_seg_step cur.toList o v r (by simp at hl ⊢; omega)
    simpa [Array.toList_setIfInBounds, Nat.add_assoc] using e
theorem setCells_grown (g : Nat) : ∀ (vs : List Value) (o : Nat) (w : World), w.grownBy (w.setCells g o vs) (some g)
  | [], o, w => World.grownBy.refl w _
  | v :: r, o, w => grown_trans (grown_set w g o v) (setCells_grown g r (o + 1) _)
theorem seg_take {α : Type} (L C : List α) (a N : Nat) (h : a + C.length ≤ N) (hN : N ≤ L.length) : (L.take a ++ C ++ L.drop (a + C.length)).take N = (L.take N).take a ++ C ++ (L.take N).drop (a + C.length) := by
  have e1 : (L.take a).length = a := by rw [List.length_take]; omega
  have t1 : (L.take a).take N = L.take a := by rw [List.take_take, Nat.min_eq_right (by omega)]
  have t2 : C.take (N - a) = C := List.take_of_length_le (by omega)
  have t3 : (L.take N).take a = L.take a := by rw [List.take_take, Nat.min_eq_left (by omega)]
  rw [t3, List.append_assoc, List.take_append, t1, e1, List.take_append, t2, List.drop_take, List.append_assoc, Nat.sub_sub]
theorem Flat.put {α : Type} {d : Kd α} {c : α → List Value} (F : Flat d c) {e : Nat} {w : World} {base : Nat} {ok : Nat → Prop} {g n cap : Nat} {xs : List α} (h : d.R e w base ok (.slice (some ⟨g, 0, none⟩) n cap) xs) {i : Nat} (hi : i < xs.length) (x : α) :
    d.R e (w.setCells g (i * d.sz) (c x)) base ok (.slice (some ⟨g, 0, none⟩) n cap) (xs.set i x) ∧ w.grownBy (w.setCells g (i * d.sz) (c x)) (some g) := by
  obtain ⟨cur, B⟩ := F.blk h
  have hn := B.len
  subst hn
  have hle : i * d.sz + d.sz ≤ xs.length * d.sz := by rw [← Nat.succ_mul]; exact Nat.mul_le_mul_right _ hi
  have hcs : xs.length * d.sz ≤ cur.size := by rw [B.size]; exact Nat.mul_le_mul_right _ B.le
  obtain ⟨cur', h1, h2, h3⟩ := setCells_heap (c x) (i * d.sz) w cur B.heap (by rw [F.len]; omega)
  refine ⟨F.row ⟨by simp, B.okg, B.bas, h1, B.le, B.max, by rw [h2, B.size], ?_⟩, setCells_grown g _ _ _⟩
  rw [h3, seg_take _ _ _ _ (by rw [F.len]; exact hle) (by simpa using hcs), B.take, F.ftake, F.len, ← Nat.succ_mul, F.fdrop, List.set_eq_take_append_cons_drop, if_pos hi]
  simp
end Go.Proofs.Ytnepgcbgkhikkaa.H
/- cfg.flows' closure: the place of a name ahead of a statement -/
namespace Go.Proofs.Ytnepgcbgkhikkaa.H
open Go.RowKit Go.Proofs.YtnepgcbgkhikkaaW.PrintWords Go.Proofs.YtnepgcbgkhikkaaW.PrintLast Go.Proofs.YtnepgcbgkhikkaaW.PrintMore
set_option maxRecDepth 100000 in
theorem flowAt_calls (g : Nat) (An : Option Addr) (cn : Nat) (names : List ByteArray) (n : Int) (x : ByteArray) (w : World) (hc : w.cell? ⟨g, 0, none⟩ = some (.slice An names.length cn)) (hn : Kd.C Kd.string w An names.length names) (hcn : names.length ≤ cn) (h0 : 0 ≤ n) (h1 : n ≤ 1000) (hl : names.length ≤ 3000) :
    Calls Try.prog 77 #[.int .i64 n, .string x, .pointer (some ⟨g, 0, none⟩)] w fun e w' => e = .returned (.int .i64 (atP names n x)) ∧ ∃ m, w' = w.drewN m := by
  obtain ⟨k, hk⟩ := Ev.rounds (Index_ev names x (by omega))
  have hi := idxS_range names x
  have hm0 : 0 ≤ n * (names.length : Int) := Int.mul_nonneg h0 (by omega)
  have hm1 : n * (names.length : Int) ≤ 1000 * 3000 := Int.mul_le_mul h1 (by omega) (by omega) (by omega)
  have e1 : IntKind.i64.wrap (n * (names.length : Int)) = n * (names.length : Int) := by rw [i64_w]; unfold wrap64; omega
  have e2 : IntKind.i64.wrap (n * (names.length : Int) + idxS names x) = n * (names.length : Int) + idxS names x := by rw [i64_w]; unfold wrap64; omega
  have HK := Aside0.mk hk
  have HN := Aside0.mk hn
  have HC := Aside0.mk hcn
  clear hk hn hcn
  go_enter Try.func77, Try.ntmps77
  go_wp2
  go_quiet ((go_at_call 59; exact Calls.quiet_of ((slices_Index_string_string.calls k _ _ names x _ _ (Kd.C_drewN HN.out _) HC.out HK.out).mono (fun e w' h => ⟨h.1, h.2.out⟩))))
  go_wp2
  go_ret
  exact ⟨rfl, nq, rfl⟩
end Go.Proofs.Ytnepgcbgkhikkaa.H
/- cfg.flows: the steps of taints, and the places that come of sources -/
namespace Go.Proofs.Ytnepgcbgkhikkaa.H
open Go.RowKit Go.Proofs.YtnepgcbgkhikkaaW.PrintWords Go.Proofs.YtnepgcbgkhikkaaW.PrintLast Go.Proofs.YtnepgcbgkhikkaaW.PrintMore
abbrev kP : Kd (Int × Int) := Kd.pair (Kd.int .i64) (Kd.int .i64)
theorem kP_mkM (w : World) (base : Nat) (ok : Nat → Prop) (a b : Int) : kP.M w base ok (a, b) [.int .i64 a, .int .i64 b] := ⟨[.int .i64 a], [.int .i64 b], rfl, rfl, rfl⟩
theorem infoP : (Try.prog.info? 84).map (fun i => (i.zero, i.size, i.bytes)) = some (some (.agg #[.int .i64 0, .int .i64 0]), 2, 16) := by kernel_rfl
theorem infoI : (Try.prog.info? 3).map (fun i => (i.zero, i.size, i.bytes)) = some (some (.int .i64 0), 1, 8) := by kernel_rfl
theorem at_stmt {l : List Stmt} {n : Nat} {st : Stmt} (e : l[n]? = some st) : at_ l (n : Int) = st := by
  unfold at_ rd_T30
  rw [Int.toNat_natCast, List.getD_eq_getElem?_getD, e]
  rfl
set_option maxRecDepth 100000 in
set_option maxHeartbeats 4000000 in
theorem flows_calls (A0 : Option Addr) (c0 : Nat) (l : List Stmt) (An : Option Addr) (cn : Nat) (names : List ByteArray) (w : World) (hr0 : Kd.C k30 w A0 l.length l) (hc0 : l.length ≤ c0) (hn : Kd.C Kd.string w An names.length names) (hcn : names.length ≤ cn) (hl : l.length ≤ 1000) (hnl : names.length ≤ 3000) :
    Calls Try.prog 60 #[.slice A0 l.length c0, .slice An names.length cn] w fun e w' => ∃ v1 v2 : Value, e = .returned (.tuple #[v1, v2]) ∧ Kd.R kP 84 w' w.heap.size (fun _ => True) v1 (stepsP l names) ∧ Kd.R (Kd.int .i64) 3 w' w.heap.size (fun _ => True) v2 (srcsP l names) ∧ Below w.heap.size w w' := by
  have HR0 := Aside0.mk hr0
  have HC0 := Aside0.mk hc0
  have HN := Aside0.mk hn
  have HCN := Aside0.mk hcn
  clear hr0 hc0 hn hcn
  have hus := Try.underlying30
  go_enter Try.func60, Try.ntmps60
  go_wp2
  go_loopg [7, 8, 22] l.length (fun gg s7 s8 s22 wr => ∃ (kk : Nat), kk ≤ l.length ∧ l.length - kk ≤ gg ∧ s22 = .int .i64 kk ∧ Aside0 (Below w.heap.size w wr) ∧ Aside0 (wr.heap[w.heap.size]? = some (.cells #[.slice An names.length cn] 32 (0, 0))) ∧ Aside0 (Kd.R kP 84 wr (w.heap.size + 1) (fun _ => True) s7 ((List.range kk).flatMap (stepsAt l names))) ∧ Aside0 (Kd.R (Kd.int .i64) 3 wr (w.heap.size + 1) (fun _ => True) s8 ((List.range kk).flatMap (srcsAt l names))))
  case atStart => exact ⟨0, Nat.zero_le _, by omega, rfl, ⟨below_alloc (Below.refl _ _) _⟩, ⟨blk_new w _⟩, ⟨Kd.R_nil _ _ _ _ _⟩, ⟨Kd.R_nil _ _ _ _ _⟩⟩
  case round =>
    obtain ⟨kk, hkk, hg, rfl, BW, GN, R7, R8⟩ := hrel
    by_cases hlt : kk < l.length
    · have hltz : (kk : Int) < (l.length : Int) := by omega
      obtain ⟨st, hst⟩ := at_some hlt
      have HL : Aside0 (Kd.C k30 wr A0 l.length l) := ⟨Kd.C_below HR0.out BW.out⟩
      obtain ⟨ad, e1, hx0, hx1, hx2, hx3, hx4, hx5, hx6, hx7⟩ := at_Stmt HL.out hst
      cases e1
      have HST := Aside0.mk hst
      obtain ⟨dx, dk, hd⟩ : ∃ dx dk, defN st = (dx, dk) := ⟨_, _, rfl⟩
      have HD := Aside0.mk hd
      have hkz : (0 : Int) ≤ (kk : Int) := by omega
      clear hst hd
      go_wp2_with (go_at_call 20; go_must (refine (cfg_Def.calls st.kind st.x st.y st.z st.op st.n st.a st.b dx dk _ (by rw [Def_eq, HD.out])).mono ?_); rintro e w2 ⟨rfl, hb2⟩; have B2 := Aside0.mk (Below.then (below_alloc BW.out _) hb2); have G2 := Aside0.mk (blk_below (blk_alloc GN.out _) hb2); have T2 := Aside0.mk (blk_below (blk_new wr _) hb2); have R72 := Aside0.mk (Kd.R_below (Kd.R_alloc R7.out _) hb2); have R82 := Aside0.mk (Kd.R_below (Kd.R_alloc R8.out _) hb2); have hs2 := hb2.size; simp at hs2; clear hb2)
      go_wp2_with (go_at_call 19; go_must (refine (cfg_Next.calls _ c0 l kk (nxt l kk) _ (Kd.C_below HR0.out B2.out) HC0.out (Next_eq l kk)).mono ?_); rintro e w3 ⟨v34, rfl, h34, hb3⟩; have B3 := Aside0.mk (Below.then B2.out hb3); have G3 := Aside0.mk (blk_below G2.out hb3); have T3 := Aside0.mk (blk_below T2.out hb3); have R73 := Aside0.mk (Kd.R_below R72.out hb3); have R83 := Aside0.mk (Kd.R_below R82.out hb3); have H34 := Aside0.mk (Kd.R_bound h34); have hs3 := hb3.size; clear h34 hb3; obtain ⟨A34, c34, e34⟩ := Kd.R_slice H34.out; subst e34)
      have hb7 := Kd.R_base R7.out
      have hl7 := Kd.R_lt R7.out
      have hb8 := Kd.R_base R8.out
      have hl8 := Kd.R_lt R8.out
      have hgn := blk_lt GN.out
      obtain ⟨S2, hS⟩ : ∃ S : Nat → Prop, ∀ k, S k ↔ (u7.ownBlock = some k ∨ u8.ownBlock = some k ∨ w3.heap.size ≤ k) := ⟨_, fun _ => Iff.rfl⟩
      have NF : Aside0 (∀ k, w3.heap.size ≤ k → S2 k) := ⟨fun k h => (hS k).2 (.inr (.inr h))⟩
      have NG : Aside0 (∀ k, k ≤ w.heap.size ∨ k = wr.heap.size ∨ (w2.heap.size ≤ k ∧ k < w3.heap.size) → ¬ S2 k) := ⟨fun k hk h => by
        rcases (hS k).1 h with h | h | h
        · have := hb7 k h; have := hl7 k h; omega
        · have := hb8 k h; have := hl8 k h; omega
        · omega⟩
      have NS : Aside0 (∀ k, S2 k → w.heap.size + 1 ≤ k) := ⟨fun k hk => by
        rcases (hS k).1 hk with h | h | h
        · exact hb7 k h
        · exact hb8 k h
        · omega⟩
      have R7S : Aside0 (Kd.R kP 84 w3 (w.heap.size + 1) S2 u7 ((List.range kk).flatMap (stepsAt l names))) := ⟨Kd.R_reok rfl R73.out (fun k h => (hS k).2 (.inl h))⟩
      have R8S : Aside0 (Kd.R (Kd.int .i64) 3 w3 (w.heap.size + 1) S2 u8 ((List.range kk).flatMap (srcsAt l names))) := ⟨Kd.R_reok rfl R83.out (fun k h => (hS k).2 (.inr (.inl h)))⟩
      clear hS hb7 hl7 hb8 hl8
      have hSl : ((List.range kk).flatMap (stepsAt l names)).length ≤ 6100000 := by
        have h1 := flatMap_len (stepsAt l names) _ (stepsAt_len l names) (List.range kk)
        rw [List.length_range] at h1
        have h2 : kk * (2 * (names.length + 2)) ≤ 1000 * (2 * 3002) := Nat.mul_le_mul (by omega) (by omega)
        omega
      have hRl : ((List.range kk).flatMap (srcsAt l names)).length ≤ 2000 := by
        have h1 := flatMap_len (srcsAt l names) _ (srcsAt_len l names) (List.range kk)
        rw [List.length_range] at h1
        omega
      obtain ⟨S1, hS1⟩ : ∃ S1, S1 = (List.range kk).flatMap (stepsAt l names) := ⟨_, rfl⟩
      obtain ⟨R1, hR1⟩ : ∃ R1, R1 = (List.range kk).flatMap (srcsAt l names) := ⟨_, rfl⟩
      rw [← hS1] at R7S hSl
      rw [← hR1] at R8S hRl
      have HS1 := Aside0.mk hS1
      have HR1 := Aside0.mk hR1
      clear hS1 hR1
      have hnx := nxt_len l kk
      go_loopg [7, 8, 36] (nxt l kk).length (fun gg s7 s8 s36 wx => ∃ (k2 : Nat), k2 ≤ (nxt l kk).length ∧ (nxt l kk).length - k2 ≤ gg ∧ s36 = .int .i64 k2 ∧ Aside0 (Below w.heap.size w wx) ∧ Aside0 (Kept w3 wx S2) ∧ Aside0 (Kd.R kP 84 wx (w.heap.size + 1) S2 s7 (S1 ++ ((nxt l kk).take k2).flatMap (stF names kk st))) ∧ Aside0 (Kd.R (Kd.int .i64) 3 wx (w.heap.size + 1) S2 s8 (R1 ++ ((nxt l kk).take k2).flatMap (srcF names st))))
      case atStart => exact ⟨0, Nat.zero_le _, by omega, rfl, B3, ⟨Kept.refl _ _⟩, ⟨by rw [List.take_zero, List.flatMap_nil, List.append_nil]; exact R7S.out⟩, ⟨by rw [List.take_zero, List.flatMap_nil, List.append_nil]; exact R8S.out⟩⟩
      case round =>
        obtain ⟨k2, hk2, hg2, rfl, B4, K4, R74, R84⟩ := hrel
        by_cases hlt2 : k2 < (nxt l kk).length
        · have hlt2z : (k2 : Int) < ((nxt l kk).length : Int) := by omega
          have hk2z : (0 : Int) ≤ (k2 : Int) := by omega
          obtain ⟨m, hm⟩ := at_some hlt2
          obtain ⟨hm0, hm1, -, -⟩ := nxt_within (List.mem_of_getElem? hm)
          have C34 := Kd.C_kept_own H34.out (S := S2) (fun k hk => NG.out k (.inr (.inr ⟨hk.2.1, hk.2.2.1⟩))) _ K4.out
          obtain ⟨ad34, e34, hx34⟩ := at_int C34 hm
          cases e34
          have HM := Aside0.mk hm
          have G4 := Aside0.mk (blk_kept G3.out K4.out (NG.out _ (.inl (Nat.le_refl _))))
          have T4 := Aside0.mk (blk_kept T3.out K4.out (NG.out _ (.inr (.inl rfl))))
          have hcN := (blk_cell G4.out 0).trans rfl
          clear hm C34
          have hkz2 : (kk : Int) ≤ 1000 := by omega
          have hm2 : m ≤ 1000 := by omega
          have hX7 : (S1 ++ ((nxt l kk).take k2).flatMap (stF names kk st)).length ≤ 6108000 := by
            have h1 := flatMap_len (stF names kk st) _ (stF_len names kk st) ((nxt l kk).take k2)
            rw [List.length_append]
            have h2 : ((nxt l kk).take k2).length * (names.length + 2) ≤ 2 * 3002 := Nat.mul_le_mul (by rw [List.length_take]; omega) (by omega)
            omega
          have hX8 : (R1 ++ ((nxt l kk).take k2).flatMap (srcF names st)).length ≤ 2002 := by
            have h1 := flatMap_len (srcF names st) _ (srcF_len names st) ((nxt l kk).take k2)
            rw [List.length_append]
            rw [List.length_take] at h1
            omega
          obtain ⟨X7, hX7e⟩ : ∃ X, X = S1 ++ ((nxt l kk).take k2).flatMap (stF names kk st) := ⟨_, rfl⟩
          obtain ⟨X8, hX8e⟩ : ∃ X, X = R1 ++ ((nxt l kk).take k2).flatMap (srcF names st) := ⟨_, rfl⟩
          rw [← hX7e] at R74 hX7
          rw [← hX8e] at R84 hX8
          have HX7 := Aside0.mk hX7e
          have HX8 := Aside0.mk hX8e
          clear hX7e hX8e
          go_wp2
          go_loopg [7, 42] names.length (fun gg s7 s42 wx => ∃ (k3 : Nat), k3 ≤ names.length ∧ names.length - k3 ≤ gg ∧ s42 = .int .i64 k3 ∧ Aside0 (Below w.heap.size w wx) ∧ Aside0 (Kept w3 wx S2) ∧ Aside0 (Kd.R kP 84 wx (w.heap.size + 1) S2 s7 (X7 ++ (names.take k3).flatMap (keptF names kk m st))) ∧ Aside0 (Kd.R (Kd.int .i64) 3 wx (w.heap.size + 1) S2 u8 X8))
          case atStart => exact ⟨0, Nat.zero_le _, by omega, rfl, B4, K4, ⟨by rw [List.take_zero, List.flatMap_nil, List.append_nil]; exact R74.out⟩, R84⟩
          case round =>
            obtain ⟨k3, hk3, hg3, rfl, B5, K5, R75, R85⟩ := hrel
            by_cases hlt3 : k3 < names.length
            · have hlt3z : (k3 : Int) < (names.length : Int) := by omega
              have hk3z : (0 : Int) ≤ (k3 : Int) := by omega
              obtain ⟨y, hy⟩ := at_some hlt3
              have HN5 := Aside0.mk (Kd.C_below HN.out B5.out)
              obtain ⟨adN, eN, hxN⟩ := at_str HN5.out hy
              cases eN
              have HY := Aside0.mk hy
              have G5 := Aside0.mk (blk_kept G3.out K5.out (NG.out _ (.inl (Nat.le_refl _))))
              have hcN := (blk_cell G5.out 0).trans rfl
              have hX5 : (X7 ++ (names.take k3).flatMap (keptF names kk m st)).length ≤ 6112000 := by
                have h1 := flatMap_len (keptF names kk m st) 1 (fun y => by unfold keptF; split <;> simp) (names.take k3)
                rw [List.length_append]
                rw [List.length_take] at h1
                omega
              clear hy
              by_cases hdy : dk = true ∧ dx = y
              · obtain ⟨rfl, rfl⟩ := hdy
                go_wp2
                go_roundg (names.length - (k3 + 1))
                case measure => omega
                case rel => exact ⟨k3 + 1, by omega, by omega, by go_num, B5, K5, ⟨by rw [flatMap_take _ HY.out, show keptF names kk m st _ = [] from if_pos (defB_iff.2 ⟨by rw [HD.out], by rw [HD.out]⟩), List.append_nil]; exact R75.out⟩, R85⟩
              · have e5 : Aside0 (keptF names kk m st y = [(atP names kk y, atP names m y)]) := ⟨if_neg (by rw [defB_iff, HD.out]; exact hdy)⟩
                have hq : dk = false ∨ (dk = true ∧ ¬ y = dx) := by
                  cases dk
                  · exact .inl rfl
                  · exact .inr ⟨rfl, fun h => hdy ⟨rfl, h.symm⟩⟩
                clear hdy
                rcases hq with rfl | ⟨rfl, hne⟩
                case' inr => obtain ⟨q1, q2⟩ := ba_bne hne; clear hne
                all_goals
                  go_wp2_with (first
                    | (go_at_call 77; go_must (refine (flowAt_calls w.heap.size _ cn names _ _ _ (by first | exact hcN | exact hcN.trans rfl) (by first | exact HN5.out | exact Kd.C_drewN HN5.out _ | exact Kd.C_drewN (Kd.C_drewN HN5.out _) _) HCN.out (by omega) (by omega) hnl).mono ?_); rintro e wq ⟨rfl, md, rfl⟩)
                    | (at_builtin; go_must (refine Kd.R_append kP (w.heap.size + 1) rfl (.tmp 53) (.tmp 63) 80 84 _ 16 rfl Try.underlying80 infoP rfl (by decide) (by omega) u7 (X7 ++ (names.take k3).flatMap (keptF names kk m st)) (atP names kk y, atP names m y) [.int .i64 _, .int .i64 _] S2 (fun _ => False) (by go_simp) (by go_simp) (kP_mkM _ _ _ _ _) (fun _ h => h.elim) (fun k hk => NF.out k (Nat.le_trans K5.out.1 hk)) (by first | exact R75.out | exact Kd.R_drewN R75.out _ | exact Kd.R_drewN (Kd.R_drewN R75.out _) _) (Below.refl _ _) (by have := blk_lt G5.out; simp; omega) (by omega) ?_); intro v1 w6 h1 hb1 hg1 hat1; have hgx : wr.grownBy w6 (u7).ownBlock := ⟨hg1.os, hg1.tape, hg1.output, hg1.size, hg1.block⟩; have HR6 := Aside0.mk h1; have HB6 := Aside0.mk (pw_below_grown B5.out _ B5.out.size hgx (fun k hk => by have := Kd.R_base R75.out k hk; omega)); have HK6 := Aside0.mk (Kept.of_grown hgx K5.out (fun k hk => .inl (R75.out.1 k hk))); have HO6 := Aside0.mk (Kd.R_over' R85.out (Kd.R_typed R75.out) (by decide) hgx); clear h1 hb1 hg1 hat1 hgx))
                  go_roundg (names.length - (k3 + 1))
                  case measure => omega
                  case rel => exact ⟨k3 + 1, by omega, by omega, by go_num, HB6, HK6, ⟨by rw [flatMap_take _ HY.out, e5.out, ← List.append_assoc]; exact HR6.out⟩, HO6⟩
            · have hlt3z : ¬ (k3 : Int) < (names.length : Int) := by omega
              obtain rfl : k3 = names.length := by omega
              have R7n : Aside0 (Kd.R kP 84 wr (w.heap.size + 1) S2 u7 (X7 ++ names.flatMap (keptF names kk m st))) := ⟨by have := R75.out; rwa [List.take_length] at this⟩
              have T5 := Aside0.mk (blk_kept T3.out K5.out (NG.out _ (.inr (.inl rfl))))
              have G5 := Aside0.mk (blk_kept G3.out K5.out (NG.out _ (.inl (Nat.le_refl _))))
              have hcN := (blk_cell G5.out 0).trans rfl
              have hk0 := (blk_cell T5.out 0).trans rfl
              have HN5 := Aside0.mk (Kd.C_below HN.out B5.out)
              have hX5 : (X7 ++ names.flatMap (keptF names kk m st)).length ≤ 6112000 := by
                have h1 := flatMap_len (keptF names kk m st) 1 (fun y => by unfold keptF; split <;> simp) names
                rw [List.length_append]
                omega
              clear R75
              have done7 : Aside0 (¬ opK st → S1 ++ ((nxt l kk).take (k2 + 1)).flatMap (stF names kk st) = X7 ++ names.flatMap (keptF names kk m st)) := ⟨fun h => by rw [flatMap_take _ HM.out, ← List.append_assoc, ← HX7.out]; unfold stF; rw [if_neg h, List.append_nil]⟩
              have done7o : Aside0 (opK st → S1 ++ ((nxt l kk).take (k2 + 1)).flatMap (stF names kk st) = (X7 ++ names.flatMap (keptF names kk m st)) ++ (usesS st).map (usedF names kk m st)) := ⟨fun h => by rw [flatMap_take _ HM.out, ← List.append_assoc, ← HX7.out]; unfold stF; rw [if_pos h, List.append_assoc]⟩
              have done8 : Aside0 (st.kind ≠ 4 → R1 ++ ((nxt l kk).take (k2 + 1)).flatMap (srcF names st) = X8) := ⟨fun h => by rw [flatMap_take _ HM.out, ← List.append_assoc, ← HX8.out]; unfold srcF; rw [if_neg h, List.append_nil]⟩
              have done8s : Aside0 (st.kind = 4 → R1 ++ ((nxt l kk).take (k2 + 1)).flatMap (srcF names st) = X8 ++ [atP names m dx]) := ⟨fun h => by rw [flatMap_take _ HM.out, ← List.append_assoc, ← HX8.out]; unfold srcF; rw [if_pos h, HD.out]⟩
              by_cases k4 : st.kind = 4
              · have KD := Aside0.mk k4
                rw [k4] at hk0
                clear k4
                go_wp2_with (first
                  | (go_at_call 77; go_must (refine (flowAt_calls w.heap.size _ cn names _ _ _ (by first | exact hcN | exact hcN.trans rfl) (by first | exact HN5.out | exact Kd.C_drewN HN5.out _ | exact Kd.C_drewN (Kd.C_drewN HN5.out _) _) HCN.out (by omega) (by omega) hnl).mono ?_); rintro e wq ⟨rfl, md, rfl⟩)
                  | (at_builtin; go_must (refine Kd.R_append (Kd.int .i64) (w.heap.size + 1) rfl (.tmp 69) (.tmp 74) 25 3 _ 8 rfl Try.underlying25 infoI rfl (by decide) (by omega) u8 (X8) (atP names m dx) [.int .i64 _] S2 (fun _ => False) (by go_simp) (by go_simp) rfl (fun _ h => h.elim) (fun k hk => NF.out k (Nat.le_trans K5.out.1 hk)) (by first | exact R85.out | exact Kd.R_drewN R85.out _ | exact Kd.R_drewN (Kd.R_drewN R85.out _) _) (Below.refl _ _) (by have := blk_lt G5.out; simp; omega) (by omega) ?_); intro v1 w6 h1 hb1 hg1 hat1; have hgx : wr.grownBy w6 (u8).ownBlock := ⟨hg1.os, hg1.tape, hg1.output, hg1.size, hg1.block⟩; have HR6 := Aside0.mk h1; have HB6 := Aside0.mk (pw_below_grown B5.out _ B5.out.size hgx (fun k hk => by have := Kd.R_base R85.out k hk; omega)); have HK6 := Aside0.mk (Kept.of_grown hgx K5.out (fun k hk => .inl (R85.out.1 k hk))); have HO6 := Aside0.mk (Kd.R_over' R7n.out (Kd.R_typed R85.out) (by decide) hgx); clear h1 hb1 hg1 hat1 hgx; have hk6 := (blk_cell (blk_kept T3.out HK6.out (NG.out _ (.inr (.inl rfl)))) 0).trans rfl; rw [KD.out] at hk6))
                go_roundg ((nxt l kk).length - (k2 + 1))
                case measure => omega
                case rel => exact ⟨k2 + 1, by omega, by omega, by go_num, HB6, HK6, ⟨by rw [done7.out (by unfold opK; rw [KD.out]; decide)]; exact HO6.out⟩, ⟨by rw [done8s.out KD.out]; exact HR6.out⟩⟩
              · by_cases ko : opK st
                · rcases ko with k | k
                  all_goals
                    have KO := Aside0.mk k
                    have hk1 := (blk_cell T5.out 1).trans rfl
                    have hk2c := (blk_cell T5.out 2).trans rfl
                    have hk3c := (blk_cell T5.out 3).trans rfl
                    have hk4c := (blk_cell T5.out 4).trans rfl
                    have hk5c := (blk_cell T5.out 5).trans rfl
                    have hk6c := (blk_cell T5.out 6).trans rfl
                    have hk7c := (blk_cell T5.out 7).trans rfl
                    rw [k] at hk0
                    have HU : Aside0 (cfg_Uses.f _ st.x st.y st.z st.op st.n st.a st.b = some (usesS st)) := ⟨k ▸ Uses_eq st⟩
                    have K4N := Aside0.mk k4
                    clear k k4
                    go_wp2_with (go_at_call 22; go_must (refine (cfg_Uses.calls _ _ _ _ _ _ _ _ (usesS st) _ HU.out).mono ?_); rintro e w7 ⟨v85, rfl, h85, hb7⟩; have B7 := Aside0.mk (Below.then B5.out hb7); have K7 := Aside0.mk (Kept.below K5.out hb7); have G7 := Aside0.mk (blk_below G5.out hb7); have R77 := Aside0.mk (Kd.R_below R7n.out hb7); have R87 := Aside0.mk (Kd.R_below R85.out hb7); have H85 := Aside0.mk (Kd.R_bound h85); have hs7 := hb7.size; clear h85 hb7; obtain ⟨A85, c85, e85⟩ := Kd.R_slice H85.out; subst e85)
                    have hb7u := Kd.R_base R7n.out
                    have hl7u := Kd.R_lt R7n.out
                    obtain ⟨S4, hS4⟩ : ∃ S : Nat → Prop, ∀ k, S k ↔ (u7.ownBlock = some k ∨ w7.heap.size ≤ k) := ⟨_, fun _ => Iff.rfl⟩
                    have NF4 : Aside0 (∀ k, w7.heap.size ≤ k → S4 k) := ⟨fun k h => (hS4 k).2 (.inr h)⟩
                    have hgn5 := blk_lt G5.out
                    have NG4 : Aside0 (∀ k, k ≤ w.heap.size ∨ (wr.heap.size ≤ k ∧ k < w7.heap.size) → ¬ S4 k) := ⟨fun k hk h => by
                      rcases (hS4 k).1 h with h | h
                      · have := hb7u k h; have := hl7u k h; omega
                      · omega⟩
                    have NS4 : Aside0 (∀ k, S4 k → S2 k) := ⟨fun k h => by
                      rcases (hS4 k).1 h with h | h
                      · exact R7n.out.1 k h
                      · exact NF.out k (Nat.le_trans K7.out.1 h)⟩
                    have R7S4 : Aside0 (Kd.R kP 84 w7 (w.heap.size + 1) S4 u7 (X7 ++ names.flatMap (keptF names kk m st))) := ⟨Kd.R_reok rfl R77.out (fun k h => (hS4 k).2 (.inl h))⟩
                    clear hS4 hb7u hl7u
                    have hul := usesS_len st
                    obtain ⟨Y7, hY7e⟩ : ∃ X, X = X7 ++ names.flatMap (keptF names kk m st) := ⟨_, rfl⟩
                    rw [← hY7e] at R7S4 hX5
                    have HY7 := Aside0.mk hY7e
                    clear hY7e
                    go_loopg [7, 87] (usesS st).length (fun gg s7 s87 wx => ∃ (k4 : Nat), k4 ≤ (usesS st).length ∧ (usesS st).length - k4 ≤ gg ∧ s87 = .int .i64 k4 ∧ Aside0 (Below w.heap.size w wx) ∧ Aside0 (Kept w7 wx S4) ∧ Aside0 (Kd.R kP 84 wx (w.heap.size + 1) S4 s7 (Y7 ++ ((usesS st).take k4).map (usedF names kk m st))) ∧ Aside0 (Kd.R (Kd.int .i64) 3 wx (w.heap.size + 1) S2 u8 X8))
                    case atStart => exact ⟨0, Nat.zero_le _, by omega, rfl, B7, ⟨Kept.refl _ _⟩, ⟨by rw [List.take_zero, List.map_nil, List.append_nil]; exact R7S4.out⟩, R87⟩
                    case round =>
                      obtain ⟨k4, hk4, hg4, rfl, B8, K8, R78, R88⟩ := hrel
                      by_cases hlt4 : k4 < (usesS st).length
                      · have hlt4z : (k4 : Int) < ((usesS st).length : Int) := by omega
                        have hk4z : (0 : Int) ≤ (k4 : Int) := by omega
                        obtain ⟨y, hy⟩ := at_some hlt4
                        have C85 := Kd.C_kept_own H85.out (S := S4) (fun k hk => NG4.out k (.inr ⟨hk.2.1, hk.2.2.1⟩)) _ K8.out
                        obtain ⟨ad85, e85, hx85⟩ := at_str C85 hy
                        cases e85
                        have HY := Aside0.mk hy
                        have HN8 := Aside0.mk (Kd.C_below HN.out B8.out)
                        have G8 := Aside0.mk (blk_kept G7.out K8.out (NG4.out _ (.inl (Nat.le_refl _))))
                        have hcN := (blk_cell G8.out 0).trans rfl
                        have hX9 : (Y7 ++ ((usesS st).take k4).map (usedF names kk m st)).length ≤ 6112002 := by
                          rw [List.length_append, List.length_map, List.length_take]
                          omega
                        clear hy C85
                        go_wp2_with (first
                          | (go_at_call 77; go_must (refine (flowAt_calls w.heap.size _ cn names _ _ _ (by first | exact hcN | exact hcN.trans rfl) (by first | exact HN8.out | exact Kd.C_drewN HN8.out _ | exact Kd.C_drewN (Kd.C_drewN HN8.out _) _) HCN.out (by omega) (by omega) hnl).mono ?_); rintro e wq ⟨rfl, md, rfl⟩)
                          | (at_builtin; go_must (refine Kd.R_append kP (w.heap.size + 1) rfl (.tmp 91) (.tmp 101) 80 84 _ 16 rfl Try.underlying80 infoP rfl (by decide) (by omega) u7 (Y7 ++ ((usesS st).take k4).map (usedF names kk m st)) (atP names kk y, atP names m dx) [.int .i64 _, .int .i64 _] S4 (fun _ => False) (by go_simp) (by go_simp) (kP_mkM _ _ _ _ _) (fun _ h => h.elim) (fun k hk => NF4.out k (Nat.le_trans K8.out.1 hk)) (by first | exact R78.out | exact Kd.R_drewN R78.out _ | exact Kd.R_drewN (Kd.R_drewN R78.out _) _) (Below.refl _ _) (by have := blk_lt G8.out; simp; omega) (by omega) ?_); intro v1 w6 h1 hb1 hg1 hat1; have hgx : wr.grownBy w6 (u7).ownBlock := ⟨hg1.os, hg1.tape, hg1.output, hg1.size, hg1.block⟩; have HR6 := Aside0.mk h1; have HB6 := Aside0.mk (pw_below_grown B8.out _ B8.out.size hgx (fun k hk => by have := Kd.R_base R78.out k hk; omega)); have HK6 := Aside0.mk (Kept.of_grown hgx K8.out (fun k hk => .inl (R78.out.1 k hk))); have HO6 := Aside0.mk (Kd.R_over' R88.out (Kd.R_typed R78.out) (by decide) hgx); clear h1 hb1 hg1 hat1 hgx))
                        go_roundg ((usesS st).length - (k4 + 1))
                        case measure => omega
                        case rel => exact ⟨k4 + 1, by omega, by omega, by go_num, HB6, HK6, ⟨by rw [List.take_add_one, HY.out, List.map_append, ← List.append_assoc, show (some y).toList.map (usedF names kk m st) = [(atP names kk y, atP names m dx)] from by simp [usedF, HD.out]]; exact HR6.out⟩, HO6⟩
                      · have hlt4z : ¬ (k4 : Int) < ((usesS st).length : Int) := by omega
                        obtain rfl : k4 = (usesS st).length := by omega
                        go_wp2
                        go_roundg ((nxt l kk).length - (k2 + 1))
                        case measure => omega
                        case rel => exact ⟨k2 + 1, by omega, by omega, by go_num, B8, ⟨Kept.then_ K7.out K8.out (fun k h => .inl (NS4.out k h))⟩, ⟨by rw [done7o.out (by unfold opK; have := KO.out; omega), ← HY7.out]; have := R78.out; rw [List.take_length] at this; exact Kd.R_mono this NS4.out⟩, ⟨by rw [done8.out K4N.out]; exact R88.out⟩⟩
                · have n2 : (st.kind != 2) = true := bne_iff_ne.2 (fun h => ko (.inl h))
                  have n3 : (st.kind != 3) = true := bne_iff_ne.2 (fun h => ko (.inr h))
                  have j4 : (st.kind == 4) = false := beq_eq_false_iff_ne.2 k4
                  have K4N := Aside0.mk k4
                  have KON := Aside0.mk ko
                  clear k4 ko
                  go_wp2
                  go_roundg ((nxt l kk).length - (k2 + 1))
                  case measure => omega
                  case rel => exact ⟨k2 + 1, by omega, by omega, by go_num, B5, K5, ⟨by rw [done7.out KON.out]; exact R7n.out⟩, ⟨by rw [done8.out K4N.out]; exact R85.out⟩⟩
        · have hlt2z : ¬ (k2 : Int) < ((nxt l kk).length : Int) := by omega
          obtain rfl : k2 = (nxt l kk).length := by omega
          have e7 : Aside0 ((List.range (kk + 1)).flatMap (stepsAt l names) = S1 ++ ((nxt l kk).take (nxt l kk).length).flatMap (stF names kk st)) := ⟨by rw [List.range_succ, List.flatMap_append, ← HS1.out, List.take_length]; simp only [List.flatMap_cons, List.flatMap_nil, List.append_nil, stepsAt, at_stmt HST.out]⟩
          have e8 : Aside0 ((List.range (kk + 1)).flatMap (srcsAt l names) = R1 ++ ((nxt l kk).take (nxt l kk).length).flatMap (srcF names st)) := ⟨by rw [List.range_succ, List.flatMap_append, ← HR1.out, List.take_length]; simp only [List.flatMap_cons, List.flatMap_nil, List.append_nil, srcsAt, at_stmt HST.out]⟩
          go_wp2
          go_roundg (l.length - (kk + 1))
          case measure => omega
          case rel => exact ⟨kk + 1, by omega, by omega, by go_num, B4, ⟨blk_kept G3.out K4.out (NG.out _ (.inl (Nat.le_refl _)))⟩, ⟨by rw [e7.out]; exact Kd.R_mono R74.out (fun _ _ => trivial)⟩, ⟨by rw [e8.out]; exact Kd.R_mono R84.out (fun _ _ => trivial)⟩⟩
    · have hltz : ¬ (kk : Int) < (l.length : Int) := by omega
      obtain rfl : kk = l.length := by omega
      go_wp2
      exact bodyPost_ret (v := .tuple #[u7, u8]) (by simp [results, Try.results60, go_sem]) rfl ⟨_, _, rfl, Kd.R_lower R7.out (Nat.le_succ _), Kd.R_lower R8.out (Nat.le_succ _), BW.out⟩
end Go.Proofs.Ytnepgcbgkhikkaa.H
/- a map of the call's own, by whole numbers, as a function to values -/
namespace Go.Proofs.Ytnepgcbgkhikkaa.H
open Go.RowKit Go.Proofs.YtnepgcbgkhikkaaW.PrintWords
def asHeld (v : Value) : Option (DataW Value × List MemPlace) := some (.held v, [])
/-- block b is a map of at most n entries: of the number x it has f x (z: what it has of a number that was never put) -/
def MapV (P : Program) (w : World) (k : TypeId) (z : Value) (b n : Nat) (f : Int → Value) : Prop :=
  ∃ D : DataW Value, w.ownsMap P k asHeld b n D ∧ Maps.IsMap D ∧ ∀ x : Int, D.atKey (.int .i64 x) (.held z) = .held (f x)
section
variable {P : Program} {w w' : World} {k t e : TypeId} {z : Value} {b n : Nat} {f : Int → Value}
theorem MapV.made (w : World) (P : Program) (k : TypeId) (z : Value) : MapV P (w.alloc (.map #[] 0)) k z w.heap.size 0 (fun _ => z) :=
  ⟨.map [], World.ownsMap_made w P k asHeld, Maps.isMap_empty, fun _ => rfl⟩
theorem MapV.lt (h : MapV P w k z b n f) : b < w.heap.size := by obtain ⟨D, h1, -⟩ := h; exact h1.lt
theorem MapV.kept {row : Option Nat} (h : MapV P w k z b n f) (hg : w.grownBy w' row) (hne : some b ≠ row) : MapV P w' k z b n f := by
  obtain ⟨D, h1, h2⟩ := h
  exact ⟨D, h1.kept hg hne, h2⟩
theorem MapV.below (h : MapV P w k z b n f) (hb : Below w.heap.size w w') : MapV P w' k z b n f := h.kept (grown_of_below hb none) (by simp)
theorem MapV.mono (h : MapV P w k z b n f) {m : Nat} (hm : n ≤ m) : MapV P w k z b m f := by
  obtain ⟨D, h1, h2⟩ := h
  exact ⟨D, h1.mono hm, h2⟩
theorem MapV.look (h : MapV P w k z b n f) (hk : P.underlying k = some (.int .i64)) (ht : P.underlying t = some (.map k e)) (hz : (zeroValue e).run P w = .ok z w) (x : Int) (hx : (Lit.int .i64 x).wf = true) :
    (Instr.lookup t (.map (some b)) (.int .i64 x) false).run P w = .ok (f x) w := by
  obtain ⟨D, h1, h2, h3⟩ := h
  obtain ⟨v, ps, hr, hv⟩ := h1.lookup (Maps.int_keyed hk) ht hz (show asHeld z = some (.held z, []) from rfl) (Maps.keyOf_int_mk hk hx)
  rw [h3 x] at hv
  have e1 : v = f x := by
    have := Option.some.inj hv
    injection this with q _
    injection q
  rw [hr, e1]
theorem MapV.put (h : MapV P w k z b n f) (hk : P.underlying k = some (.int .i64)) (ht : P.underlying t = some (.map k e)) (hn : n < maxLen) (x : Int) (hx : (Lit.int .i64 x).wf = true) (v : Value) :
    ∃ w', (Instr.mapUpdate t (.map (some b)) (.int .i64 x) v).run P w = .ok () w' ∧ MapV P w' k z b (n + 1) (fun y => if y = x then v else f y) ∧ w.grownBy w' (some b) := by
  obtain ⟨D, h1, h2, h3⟩ := h
  obtain ⟨w', hr, h4, h5⟩ := h1.update (Maps.int_keyed hk) ht hn (Maps.keyOf_int_mk hk hx) (show asHeld v = some (.held v, []) from rfl)
  refine ⟨w', hr, ⟨_, h4, h2.put _ _, fun y => ?_⟩, h5⟩
  show _ = DataW.held (if y = x then v else f y)
  by_cases c : y = x
  · subst c
    rw [if_pos rfl]
    exact Maps.atKey_put_same h2 (by trivial) _ _
  · rw [if_neg c, Maps.atKey_put_other (by intro q; injection q with _ q; exact c q)]
    exact h3 y
end
end Go.Proofs.Ytnepgcbgkhikkaa.H
/- the places among the steps of taints are small -/
namespace Go.Proofs.Ytnepgcbgkhikkaa.H
open Go.RowKit Go.Proofs.YtnepgcbgkhikkaaW.PrintWords
def smallP (p : Int) : Prop := -1 ≤ p ∧ p ≤ 4000000
theorem stepsP_small {l : List Stmt} {names : List ByteArray} (hl : l.length ≤ 1000) (hn : names.length ≤ 3000) : ∀ p ∈ stepsP l names, smallP p.1 ∧ smallP p.2 := by
  intro p hp
  unfold stepsP stepsAt at hp
  obtain ⟨n, hn', hp⟩ := List.mem_flatMap.1 hp
  obtain ⟨m, hm, hp⟩ := List.mem_flatMap.1 hp
  obtain ⟨hm0, hm1, -, -⟩ := nxt_within hm
  have hn2 := List.mem_range.1 hn'
  have A : ∀ x, smallP (atP names (n : Int) x) := fun x => atP_range (by omega) (by omega) hn
  have B : ∀ x, smallP (atP names m x) := fun x => atP_range (by omega) (by omega) hn
  unfold stF at hp
  rcases List.mem_append.1 hp with hp | hp
  · obtain ⟨y, hy, hp⟩ := List.mem_flatMap.1 hp
    unfold keptF at hp
    split at hp
    · simp at hp
    · obtain rfl := List.mem_singleton.1 hp
      exact ⟨A y, B y⟩
  · split at hp
    · obtain ⟨y, hy, rfl⟩ := List.mem_map.1 hp
      exact ⟨A y, B _⟩
    · simp at hp
theorem srcsP_small {l : List Stmt} {names : List ByteArray} (hl : l.length ≤ 1000) (hn : names.length ≤ 3000) : ∀ p ∈ srcsP l names, smallP p := by
  intro p hp
  unfold srcsP srcsAt at hp
  obtain ⟨n, hn', hp⟩ := List.mem_flatMap.1 hp
  obtain ⟨m, hm, hp⟩ := List.mem_flatMap.1 hp
  obtain ⟨hm0, hm1, -, -⟩ := nxt_within hm
  unfold srcF at hp
  split at hp
  · obtain rfl := List.mem_singleton.1 hp
    exact atP_range (by omega) (by omega) hn
  · simp at hp
theorem smallP_wf {p : Int} (h : smallP p) : (Lit.int .i64 p).wf = true := by
  obtain ⟨h0, h1⟩ := h
  have e1 : IntKind.i64.min = -9223372036854775808 := by decide
  have e2 : IntKind.i64.max = 9223372036854775807 := by decide
  simp only [Lit.wf, e1, e2, Bool.and_eq_true, decide_eq_true_eq]
  omega
theorem stepsP_len {l : List Stmt} {names : List ByteArray} (hl : l.length ≤ 1000) (hn : names.length ≤ 3000) : (stepsP l names).length ≤ 6100000 := by
  have h1 := flatMap_len (stepsAt l names) _ (stepsAt_len l names) (List.range l.length)
  rw [List.length_range] at h1
  have h2 : l.length * (2 * (names.length + 2)) ≤ 1000 * (2 * 3002) := Nat.mul_le_mul hl (by omega)
  unfold stepsP
  omega
theorem srcsP_len {l : List Stmt} {names : List ByteArray} (hl : l.length ≤ 1000) : (srcsP l names).length ≤ 2000 := by
  have h1 := flatMap_len (srcsAt l names) _ (srcsAt_len l names) (List.range l.length)
  rw [List.length_range] at h1
  unfold srcsP
  omega
theorem pot_skip (steps : List (Int × Int)) (seen : Int → Bool) (k : Int) (r : List Int) : potV steps seen r + 1 = potV steps seen (k :: r) := by
  unfold potV
  rw [List.length_cons]
  omega
theorem nextG_take (steps : List (Int × Int)) {n : Nat} {p : Int × Int} (h : steps[n]? = some p) (x : Int) : nextG (steps.take (n + 1)) x = nextG (steps.take n) x ++ (if p.1 = x then [p.2] else []) := by
  rw [List.take_add_one, h]
  exact nextG_snoc _ _ _
theorem nextG_mem_small {steps : List (Int × Int)} (h : ∀ p ∈ steps, smallP p.1 ∧ smallP p.2) (x : Int) : ∀ y ∈ nextG steps x, smallP y := by
  intro y hy
  exact (h _ (mem_nextG.1 hy)).2
theorem nextG_len (steps : List (Int × Int)) (x : Int) : (nextG steps x).length ≤ steps.length := by
  unfold nextG
  rw [List.length_map]
  exact List.length_filter_le _ _
end Go.Proofs.Ytnepgcbgkhikkaa.H
/- cfg.Taints, whole -/
namespace Go.Proofs.Ytnepgcbgkhikkaa.H
open Go.RowKit Go.Proofs.YtnepgcbgkhikkaaW.PrintWords Go.Proofs.YtnepgcbgkhikkaaW.PrintLast Go.Proofs.YtnepgcbgkhikkaaW.PrintMore
def cfg_Taints.f (k : Nat) (l : List Stmt) (n : Int) (x : ByteArray) : Option Bool :=
  if l.length ≤ 1000 then
    (if withinB l.length n = true ∧ 0 ≤ idxS (setS (l.flatMap namesOf)) x then (tntV (nextG (stepsP l (setS (l.flatMap namesOf)))) k (fun _ => false) (srcsP l (setS (l.flatMap namesOf)))).bind fun seen => some (seen (atP (setS (l.flatMap namesOf)) n x)) else some false)
  else none
theorem cfg_Taints.mono : ∀ a0 a1 a2 k, LeO (cfg_Taints.f k a0 a1 a2) (cfg_Taints.f (k + 1) a0 a1 a2) := by
  intro a0 a1 a2 k
  unfold cfg_Taints.f
  exact LeO.ite (LeO.ite (LeO.bind (tntV_more _ _ _ _) (fun _ => LeO.refl _)) (LeO.refl _)) (LeO.refl _)
section
variable (A0 : Option Addr) (c0 : Nat) (l0 : List Stmt) (a1 : Int) (a2 : ByteArray) (w : World) (hr0 : Kd.C k30 w A0 l0.length l0) (hc0 : l0.length ≤ c0) (hl : l0.length ≤ 1000)
include hr0 hc0 hl
set_option maxHeartbeats 4000000 in
set_option maxRecDepth 100000 in
theorem taints_no (hno : ¬ (withinB l0.length a1 = true ∧ 0 ≤ idxS (setS (l0.flatMap namesOf)) a2)) :
    Calls Try.prog 40 #[.slice A0 l0.length c0, .int .i64 a1, .string a2] w fun e w' => e = .returned (.bool false) ∧ Below w.heap.size w w' := by
  obtain ⟨K, hn⟩ := Ev.rounds (Names_ev l0 hl)
  have hnl := names_len l0
  generalize hN : setS (l0.flatMap namesOf) = names at hn hnl hno
  clear hN
  obtain ⟨K2, hi⟩ := Ev.rounds (Index_ev names a2 (by omega))
  have hb := within_eq l0 a1
  generalize withinB l0.length a1 = b at hb hno
  generalize idxS names a2 = i at hi hno
  have HN := Aside0.mk hn
  have HI := Aside0.mk hi
  have HW := Aside0.mk hb
  have HR0 := Aside0.mk hr0
  have HC0 := Aside0.mk hc0
  have hi0 : b = true → i < 0 := fun h => by
    rcases Int.lt_or_le i 0 with q | q
    · exact q
    · exact absurd ⟨h, q⟩ hno
  clear hn hi hb hr0 hc0 hno
  cases b
  case' true => have hi := hi0 rfl
  all_goals clear hi0
  all_goals go_enter Try.func40, Try.ntmps40
  all_goals go_wp2_with (first
    | (go_at_call 31; go_must (refine (cfg_Names.calls K _ _ l0 names _ HR0.out HC0.out HN.out).mono ?_); rintro e w1 ⟨v0, rfl, ho0, hb⟩; have HO := Aside0.mk ho0; have HB := Aside0.mk hb; clear ho0 hb; obtain ⟨Ao, co, eo⟩ := Kd.R_slice HO.out; subst eo)
    | (go_at_call 59; go_must (refine (slices_Index_string_string.calls K2 _ _ names a2 i _ (Kd.R_reads' HO.out).2.2 (Kd.R_reads' HO.out).2.1 HI.out).mono ?_); rintro e w2 ⟨rfl, nd, rfl⟩)
    | (go_at_call 42; go_must (refine (cfg_within.calls _ _ l0 a1 _ _ (Kd.C_drewN (Kd.C_below HR0.out HB.out) _) HC0.out HW.out).mono ?_); rintro e w3 ⟨rfl, ne, rfl⟩))
  all_goals (go_ret; exact ⟨rfl, pw_below_drewN HB.out _⟩)
end
theorem zeroRow (w : World) : (zeroValue 25).run Try.prog w = .ok (.slice none 0 0) w := by kernel_rfl
theorem zeroB (w : World) : (zeroValue 4).run Try.prog w = .ok (.bool false) w := by kernel_rfl
theorem at_P {w : World} {A : Option Addr} {n : Nat} {xs : List (Int × Int)} (h : Kd.C kP w A n xs) {i : Nat} {y : Int × Int} (hy : xs[i]? = some y) : ∃ ad, A = some ad ∧ w.cell? (ad.add (i * 2)) = some (.int .i64 y.1) ∧ w.cell? ⟨(ad.add (i * 2)).block, (ad.add (i * 2)).off + 1, none⟩ = some (.int .i64 y.2) := by
  obtain ⟨ad, c, e, -, ⟨c0, c1, rfl, h0, h1⟩, hc⟩ := Kd.C_nth h hy
  have e0 : c0 = [.int .i64 y.1] := h0
  have e1 : c1 = [.int .i64 y.2] := h1
  subst e0 e1
  exact ⟨ad, e, hc 0 _ rfl, by rw [← add_field _ _ 1 (by omega)]; exact hc 1 _ rfl⟩
/-- the rows of the map of steps, told apart by an owner -/
def RowsOf (w : World) (base : Nat) (own : Nat → Int) (f : Int → Value) (G : Int → List Int) : Prop :=
  ∀ x, Kd.R (Kd.int .i64) 3 w base (fun j => own j = x) (f x) (G x)
theorem RowsOf.start {w : World} {base : Nat} : RowsOf w base (fun _ => 0) (fun _ => .slice none 0 0) (nextG []) := fun x => Kd.R_nil _ _ _ _ _
theorem RowsOf.below {w w1 : World} {base : Nat} {own : Nat → Int} {f : Int → Value} {G : Int → List Int} (h : RowsOf w base own f G) (hb : Below w.heap.size w w1) : RowsOf w1 base own f G := fun x => Kd.R_below (h x) hb
theorem RowsOf.mine {w : World} {base : Nat} {own : Nat → Int} {f : Int → Value} {G : Int → List Int} (h : RowsOf w base own f G) (a : Int) : RowsOf w base (fun j => if w.heap.size ≤ j then a else own j) f G := fun x =>
  Kd.R_mono (Kd.R_bound (h x)) (fun k hk => by
    have h1 := hk.1
    have h2 := hk.2.2.1
    show (if w.heap.size ≤ k then a else own k) = x
    rw [if_neg (by omega)]
    exact h1)
theorem RowsOf.put {w w1 w2 : World} {base b : Nat} {own : Nat → Int} {f : Int → Value} {G : Int → List Int} {a : Int} {v : Value} {r : List Int} (h : RowsOf w base own f G) (hg : w.grownBy w1 (f a).ownBlock) (hv : Kd.R (Kd.int .i64) 3 w1 base (fun j => own j = a) v r) (hg2 : w1.grownBy w2 (some b)) (hb : b < base) :
    RowsOf w2 base own (fun y => if y = a then v else f y) (fun y => if y = a then r else G y) := by
  have far : ∀ {x : Int} {u : Value} {q : List Int}, Kd.R (Kd.int .i64) 3 w1 base (fun j => own j = x) u q → Kd.R (Kd.int .i64) 3 w2 base (fun j => own j = x) u q := fun hr =>
    Kd.R_mono (Kd.R_grown (Kd.R_bound hr) hg2 (fun k hk e => by have := hk.2.1; injection e with e; omega)) (fun _ hk => hk.1)
  intro x
  by_cases c : x = a
  · subst c
    simp only [if_true]
    exact far hv
  · simp only [if_neg c]
    refine far (Kd.R_grown (h x) hg (fun k hk e => c ?_))
    have h1 := (h a).1 k e.symm
    have h2 : own k = x := hk
    have h3 : own k = a := h1
    omega
theorem RowsOf.next {w : World} {base : Nat} {own : Nat → Int} {f : Int → Value} {steps : List (Int × Int)} {kk : Nat} {a b : Int} (hs : steps[kk]? = some (a, b)) (h : RowsOf w base own f (fun y => if y = a then nextG (steps.take kk) a ++ [b] else nextG (steps.take kk) y)) : RowsOf w base own f (nextG (steps.take (kk + 1))) := by
  intro x
  have := h x
  rw [nextG_take steps hs x]
  by_cases c : x = a
  · subst c
    simpa using this
  · simp only [if_neg c] at this
    have c' : ¬ a = x := fun e => c e.symm
    simpa [if_neg c'] using this
section
variable (A0 : Option Addr) (c0 : Nat) (l0 : List Stmt) (a1 : Int) (a2 : ByteArray) (w : World) (hr0 : Kd.C k30 w A0 l0.length l0) (hc0 : l0.length ≤ c0) (hl : l0.length ≤ 1000)
include hr0 hc0 hl
set_option maxHeartbeats 4000000 in
set_option maxRecDepth 100000 in
theorem taints_yes (hb : withinB l0.length a1 = true) (hi0 : 0 ≤ idxS (setS (l0.flatMap namesOf)) a2) (k : Nat) (seen : Int → Bool) (hs : tntV (nextG (stepsP l0 (setS (l0.flatMap namesOf)))) k (fun _ => false) (srcsP l0 (setS (l0.flatMap namesOf))) = some seen) :
    Calls Try.prog 40 #[.slice A0 l0.length c0, .int .i64 a1, .string a2] w fun e w' => e = .returned (.bool (seen (atP (setS (l0.flatMap namesOf)) a1 a2))) ∧ Below w.heap.size w w' := by
  obtain ⟨K, hn⟩ := Ev.rounds (Names_ev l0 hl)
  have hnl := names_len l0
  generalize hN : setS (l0.flatMap namesOf) = names at hn hnl hi0 hs ⊢
  clear hN
  obtain ⟨K2, hi⟩ := Ev.rounds (Index_ev names a2 (by omega))
  have hw := within_eq l0 a1
  rw [hb] at hw
  have hir := idxS_range names a2
  have HN := Aside0.mk hn
  have HI := Aside0.mk hi
  have HW := Aside0.mk hw
  have HR0 := Aside0.mk hr0
  have HC0 := Aside0.mk hc0
  obtain ⟨ST, hST⟩ : ∃ ST, stepsP l0 names = ST := ⟨_, rfl⟩
  obtain ⟨SR, hSR⟩ : ∃ SR, srcsP l0 names = SR := ⟨_, rfl⟩
  rw [hST, hSR] at hs
  have hST1 := stepsP_small hl (show names.length ≤ 3000 by omega)
  have hST2 := stepsP_len hl (show names.length ≤ 3000 by omega)
  have hSR1 := srcsP_small hl (show names.length ≤ 3000 by omega)
  have hSR2 := srcsP_len (names := names) hl
  rw [hST] at hST1 hST2
  rw [hSR] at hSR1 hSR2
  have HS := Aside0.mk hs
  have HST := Aside0.mk hST
  have HSR := Aside0.mk hSR
  have HST1 := Aside0.mk hST1
  have HSR1 := Aside0.mk hSR1
  clear hST hSR hST1 hSR1
  have hin : ¬ idxS names a2 < 0 := by omega
  have hat : smallP (atP names a1 a2) := by
    have h1 : 0 ≤ a1 ∧ a1 < (l0.length : Int) := by simpa [withinB] using hb
    exact atP_range h1.1 (by omega) (by omega)
  have ew1 : IntKind.i64.wrap (a1 * (names.length : Int)) = a1 * (names.length : Int) := by
    have h1 : 0 ≤ a1 ∧ a1 < (l0.length : Int) := by simpa [withinB] using hb
    have h2 : 0 ≤ a1 * (names.length : Int) := Int.mul_nonneg h1.1 (by omega)
    have h3 : a1 * (names.length : Int) ≤ 1000 * 3000 := Int.mul_le_mul (by omega) (by omega) (by omega) (by omega)
    rw [i64_w]; unfold wrap64; omega
  have ew2 : IntKind.i64.wrap (a1 * (names.length : Int) + idxS names a2) = a1 * (names.length : Int) + idxS names a2 := by
    have := hat
    unfold smallP atP at this
    rw [i64_w]; unfold wrap64; omega
  have hmm := @run_makeMap Try.prog
  clear hn hi hb hw hr0 hc0 hs
  go_enter Try.func40, Try.ntmps40
  go_wp2_with (first
    | (go_at_call 31; go_must (refine (cfg_Names.calls K _ _ l0 names _ HR0.out HC0.out HN.out).mono ?_); rintro e w1 ⟨v0, rfl, ho0, hb⟩; have HO := Aside0.mk ho0; have HB := Aside0.mk hb; clear ho0 hb; obtain ⟨Ao, co, eo⟩ := Kd.R_slice HO.out; subst eo)
    | (go_at_call 59; go_must (refine (slices_Index_string_string.calls K2 _ _ names a2 _ _ (Kd.R_reads' HO.out).2.2 (Kd.R_reads' HO.out).2.1 HI.out).mono ?_); rintro e w2 ⟨rfl, nd, rfl⟩)
    | (go_at_call 42; go_must (refine (cfg_within.calls _ _ l0 a1 _ _ (Kd.C_drewN (Kd.C_below HR0.out HB.out) _) HC0.out HW.out).mono ?_); rintro e w3 ⟨rfl, ne, rfl⟩)
    | (go_at_call 60; go_must (refine (flows_calls _ _ l0 _ _ names _ (by first | exact Kd.C_drewN (Kd.C_below HR0.out HB.out) _ | exact Kd.C_drewN (Kd.C_drewN (Kd.C_below HR0.out HB.out) _) _) HC0.out (by first | exact Kd.C_drewN (Kd.R_reads' HO.out).2.2 _ | exact Kd.C_drewN (Kd.C_drewN (Kd.R_reads' HO.out).2.2 _) _) (Kd.R_reads' HO.out).2.1 hl (by omega)).mono ?_); rintro e w4 ⟨v9, v10, rfl, h9, h10, hb4⟩; rw [HST.out] at h9; rw [HSR.out] at h10; have H9 := Aside0.mk (Kd.R_bound h9); have H10 := Aside0.mk (Kd.R_bound h10); have B4 := Aside0.mk (below_then HB.out HB.out.size (pw_below_grown (pw_below_drewN (Below.refl _ _) _) none (by simp) (grown_of_below hb4 none) (by simp))); clear h9 h10 hb4; obtain ⟨A9, c9, e9⟩ := Kd.R_slice H9.out; subst e9; obtain ⟨A10, c10, e10⟩ := Kd.R_slice H10.out; subst e10))
  go_loopg [39] ST.length (fun gg s39 wr => ∃ (kk : Nat) (f : Int → Value) (own : Nat → Int), kk ≤ ST.length ∧ ST.length - kk ≤ gg ∧ s39 = .int .i64 kk ∧ Aside0 (Below w.heap.size w wr) ∧ Aside0 (Kept w4 wr (fun i => w4.heap.size ≤ i)) ∧ Aside0 (MapV Try.prog wr 3 (.slice none 0 0) w4.heap.size kk f) ∧ Aside0 (RowsOf wr (w4.heap.size + 1) own f (nextG (ST.take kk))))
  case atStart => exact ⟨0, _, _, Nat.zero_le _, by omega, rfl, ⟨below_alloc B4.out _⟩, ⟨Kept.alloc (Kept.refl _ _) _⟩, ⟨MapV.made _ _ _ _⟩, ⟨RowsOf.start⟩⟩
  case round =>
    obtain ⟨kk, f, own, hkk, hg, rfl, BW, KW, MW, RW⟩ := hrel
    by_cases hlt : kk < ST.length
    · have hltz : (kk : Int) < (ST.length : Int) := by omega
      have hkz : (0 : Int) ≤ (kk : Int) := by omega
      obtain ⟨⟨pa, pb⟩, hp⟩ := at_some hlt
      have hC9 := Kd.C_kept_own H9.out (S := fun i => w4.heap.size ≤ i) (fun k hk => by have := hk.2.2.1; omega) _ KW.out
      obtain ⟨ad9, e9, hx0, hx1⟩ := at_P hC9 hp
      cases e9
      clear hC9
      obtain ⟨hs1, hs2⟩ := HST1.out _ (List.mem_of_getElem? hp)
      have HP := Aside0.mk hp
      have hWa := Aside0.mk (smallP_wf hs1)
      clear hp
      dsimp only at hx0 hx1 hs1 hs2
      have hmb := MW.out.lt
      go_wp2
      obtain ⟨ww, hww⟩ : ∃ ww, ww = (wr.alloc (.cells #[.int .i64 pa, .int .i64 pb] 84)).drew := ⟨_, rfl⟩
      have bAD : Below wr.heap.size wr ww := hww ▸ below_drew1 (below_alloc (Below.refl _ _) _)
      have ZW := Aside0.mk (show ww.heap.size = wr.heap.size + 1 by rw [hww]; simp)
      have BWW := Aside0.mk (below_then BW.out BW.out.size bAD)
      have MWW := Aside0.mk (MapV.below MW.out bAD)
      have RWW := Aside0.mk (RowsOf.mine (RowsOf.below RW.out bAD) pa)
      have KWW := Aside0.mk (Kept.below KW.out bAD)
      have GWW : Aside0 (ww.heap[wr.heap.size]? = some (.cells #[.int .i64 pa, .int .i64 pb] 84 (0, 0))) := ⟨hww ▸ blk_new wr _⟩
      have hS0 : ((ww.cell? ⟨wr.heap.size, 0, none⟩ = some (.int .i64 pa) ∧ ww.cell? ⟨wr.heap.size, 1, none⟩ = some (.int .i64 pb)) ∧ (Instr.lookup 83 (.map (some w4.heap.size)) (.int .i64 pa) false).run Try.prog ww = .ok (f pa) ww) :=
        ⟨⟨(blk_cell GWW.out 0).trans rfl, (blk_cell GWW.out 1).trans rfl⟩, MWW.out.look Try.underlying3 Try.underlying83 (zeroRow ww) pa hWa.out⟩
      have HWW := Aside0.mk hww
      rw [hww] at hS0
      clear bAD hww
      refine start_ (n := 12) (S := fun w' => (w'.cell? ⟨wr.heap.size, 0, none⟩ = some (.int .i64 pa) ∧ w'.cell? ⟨wr.heap.size, 1, none⟩ = some (.int .i64 pb)) ∧ (Instr.lookup 83 (.map (some w4.heap.size)) (.int .i64 pa) false).run Try.prog w' = .ok (f pa) w') (ds := [11]) (bl 12 0) (by kernel_rfl) rfl rfl hS0 (fun hHeld => ?_)
      clear hS0
      rw [← HWW.out] at hHeld ⊢
      refine pure_ (i := 0) (N := some 43) (v := ?_) (a' := ?_) (bl 12 1) rfl rfl (by kernel_rfl) (fun _ _ _ h => h) (Or.inl ⟨by rfl, ?_⟩) ?_ ?_
      rotate_left
      · intro w'
        go_simp
        with_reducible rfl
      rotate_left
      · simp only [Act.put, sA, sZ, sS]
        rfl
      refine pure_ (i := 1) (N := some 44) (v := ?_) (a' := ?_) (bl 12 3) rfl rfl (by kernel_rfl) (fun _ _ _ h => h) (Or.inl ⟨by rfl, ?_⟩) ?_ ?_
      rotate_left
      · intro w'
        go_simp
        with_reducible rfl
      rotate_left
      · simp only [Act.put, sA, sZ, sS]
        rfl
      refine pure_ (i := 3) (N := some 46) (v := ?_) (a' := ?_) (bl 12 11) rfl rfl (by kernel_rfl) (fun _ _ _ h => h) (Or.inl ⟨by rfl, ?_⟩) ?_ ?_
      rotate_left
      · intro w'
        go_simp
        with_reducible rfl
      rotate_left
      · simp only [Act.put, sA, sZ, sS]
        rfl
      refine pure_ (i := 4) (N := some 47) (v := ?_) (a' := ?_) (bl 12 27) rfl rfl (by kernel_rfl) (fun _ _ _ h => h) (Or.inl ⟨by rfl, ?_⟩) ?_ ?_
      rotate_left
      · intro w'
        go_simp
        with_reducible rfl
      rotate_left
      · simp only [Act.put, sA, sZ, sS]
        rfl
      refine pure_ (i := 7) (N := some 50) (v := ?_) (a' := ?_) (bl 12 155) rfl rfl (by kernel_rfl) (fun _ _ _ h => h) (Or.inl ⟨by rfl, ?_⟩) ?_ ?_
      rotate_left
      · intro w'
        go_simp
        with_reducible rfl
      rotate_left
      · simp only [Act.put, sA, sZ, sS]
        rfl
      refine take_ (i := 2) (N := some 45) (v := ?_) (a' := ?_) (bl 12 159) rfl rfl (by kernel_rfl) (fun _ _ _ h => h) (Or.inl ⟨by rfl, ?_⟩) hHeld ?_ ?_
      rotate_left
      · intro w' hSw
        (try dsimp only at hSw)
        go_split_ands
        go_simp
        with_reducible rfl
      rotate_left
      · simp only [Act.put, sA, sZ, sS]
        rfl
      refine take_ (i := 5) (N := some 48) (v := ?_) (a' := ?_) (bl 12 191) rfl rfl (by kernel_rfl) (fun _ _ _ h => h) (Or.inl ⟨by rfl, ?_⟩) hHeld ?_ ?_
      rotate_left
      · intro w' hSw
        (try dsimp only at hSw)
        go_split_ands
        go_simp
        with_reducible rfl
      rotate_left
      · simp only [Act.put, sA, sZ, sS]
        rfl
      refine take_ (i := 8) (N := some 51) (v := ?_) (a' := ?_) (bl 12 447) rfl rfl (by kernel_rfl) (fun _ _ _ h => h) (Or.inl ⟨by rfl, ?_⟩) hHeld ?_ ?_
      rotate_left
      · intro w' hSw
        (try dsimp only at hSw)
        go_split_ands
        go_simp
        with_reducible rfl
      rotate_left
      · simp only [Act.put, sA, sZ, sS]
        rfl
      refine take_ (i := 6) (N := some 49) (v := ?_) (a' := ?_) (bl 12 511) rfl rfl (by kernel_rfl) (fun _ _ _ h => h) (Or.inl ⟨by rfl, ?_⟩) hHeld ?_ ?_
      rotate_left
      · intro w' hSw
        (try dsimp only at hSw)
        go_split_ands
        go_simp
        with_reducible rfl
      rotate_left
      · simp only [Act.put, sA, sZ, sS]
        rfl
      refine one_ (i := 9) (N := some 52) (bl 12 1023) rfl rfl (by kernel_rfl) (by decide) (fun K hK => ?_)
      refine value_ (v := .slice (some ⟨ww.heap.size, 0, none⟩) 1 1) (w1 := ww.alloc (.cells #[.int .i64 pb] 3)) (by rfl) rfl ?_ ?_
      · go_simp
      refine hK.out _ _ ?_ (fun hHeld => ?_)
      · have hb9 := below_alloc (Below.refl ww.heap.size ww) (.cells #[.int .i64 pb] 3)
        exact ⟨⟨(blk_cell (blk_below GWW.out hb9) 0).trans rfl, (blk_cell (blk_below GWW.out hb9) 1).trans rfl⟩, (MWW.out.below hb9).look Try.underlying3 Try.underlying83 (zeroRow _) pa hWa.out⟩
      clear hK K
      refine norm_ (a' := ?_) ?_ ?_
      rotate_left
      · show Act.put _ (some 52) _ = _
        simp only [Act.put, sA, sZ, sS]
        rfl
      have hne1 : some wr.heap.size ≠ (f pa).ownBlock := fun e => by have := Kd.R_lt (RW.out pa) _ e.symm; omega
      have hne2 : some w4.heap.size ≠ (f pa).ownBlock := fun e => by have := Kd.R_base (RW.out pa) _ e.symm; omega
      have hnl2 : (nextG (ST.take kk) pa).length ≤ 6100000 := by
        have := nextG_len (ST.take kk) pa
        rw [List.length_take] at this
        omega
      have hww4 : w4.heap.size + 1 ≤ ww.heap.size := by rw [ZW.out]; omega
      refine one_ (i := 10) (N := some 53) (bl 12 2047) rfl rfl (by kernel_rfl) (by decide) (fun K hK => ?_)
      refine Kd.R_append_step (Kd.int .i64) (w0 := ww) (w4.heap.size + 1) (by rfl) (.tmp 49) (.tmp 52) 25 3 (.int .i64 0) 8 (by rfl) Try.underlying25 infoI rfl (by decide) (by omega) (f pa) (nextG (ST.take kk) pa) pb [.int .i64 pb] (fun j => (if ww.heap.size ≤ j then pa else own j) = pa) (fun _ => False) (by rfl) (by rfl) rfl (fun _ h => h.elim) (fun k hk => by show (if ww.heap.size ≤ k then pa else own k) = pa; rw [if_pos hk]) (RWW.out pa) (Below.refl _ _) hww4 (by omega) ?_
      intro v1 w6 h1 hb1 hg1 hat1
      have M6 := MWW.out.kept hg1 hne2
      have g6 := (hg1.block wr.heap.size (blk_lt GWW.out) hne1).trans GWW.out
      refine hK.out _ _ ⟨⟨(blk_cell g6 0).trans rfl, (blk_cell g6 1).trans rfl⟩, M6.look Try.underlying3 Try.underlying83 (zeroRow _) pa hWa.out⟩ (fun hHeld => ?_)
      clear hK K g6 hHeld
      refine norm_ (a' := ?_) ?_ ?_
      rotate_left
      · show Act.put _ (some 53) _ = _
        simp only [Act.put, sA, sZ, sS]
        rfl
      obtain ⟨w7, hr7, M7, hg7⟩ := M6.put (e := 25) Try.underlying3 Try.underlying83 (by unfold maxLen; omega) pa hWa.out v1
      refine last_ (i := 11) (N := none) (bl 12 4095) rfl rfl (by kernel_rfl) (by decide) (fun K hK => ?_)
      refine skip_ (w1 := w7) (by rfl) rfl ?_ ?_
      · go_simp
      refine hK.out _ _ ?_
      clear hK K hr7
      refine done_ (by kernel_rfl) ?_
      have hb4 := B4.out.size
      have hrow : ∀ k, (f pa).ownBlock = some k → w4.heap.size ≤ k := fun k hk => by have := Kd.R_base (RW.out pa) k hk; omega
      have B7 := Aside0.mk (pw_below_grown (pw_below_grown BWW.out _ BWW.out.size hg1 (fun k hk => by have := hrow k hk; omega)) _ (by have := BWW.out.size; have := hg1.size; omega) hg7 (fun k hk => by injection hk with hk; omega))
      have K7 := Aside0.mk (Kept.of_grown hg7 (Kept.of_grown hg1 KWW.out (fun k hk => .inl (hrow k hk))) (fun k hk => .inl (by injection hk with hk; show w4.heap.size ≤ k; omega)))
      have R7 := Aside0.mk (RowsOf.next HP.out (RowsOf.put RWW.out hg1 h1 hg7 (by omega)))
      have M7' := Aside0.mk M7
      clear M7 h1 hb1 hg1 hat1 hg7 M6
      go_wp2
      go_roundg (ST.length - (kk + 1))
      case measure => omega
      case rel => exact ⟨kk + 1, _, _, by omega, by omega, by go_num, B7, K7, M7', R7⟩
    · have hltz : ¬ (kk : Int) < (ST.length : Int) := by omega
      obtain rfl : kk = ST.length := by omega
      have hRW := RW.out
      rw [List.take_length] at hRW
      have RN := Aside0.mk hRW
      clear hRW RW
      have hmb := MW.out.lt
      go_wp2_with (go_at_call 61; go_must (refine (slices_Clone_int_int.calls _ _ SR SR _ (Kd.C_alloc (Kd.C_kept_own H10.out (S := fun i => w4.heap.size ≤ i) (fun k hk => by have := hk.2.2.1; omega) _ KW.out) _) (Kd.R_reads' H10.out).2.1 (by unfold slices_Clone_int_int.f; rw [if_pos (by omega)])).mono ?_); rintro e w6 ⟨v15, rfl, h15, hb6⟩; have H15 := Aside0.mk h15; have B6 := Aside0.mk hb6; clear h15 hb6)
      obtain ⟨wo, rfl⟩ : ∃ wo : World, wo = wr := ⟨_, rfl⟩
      have hb0 : w.heap.size ≤ wo.heap.size := BW.out.size
      have e15 : (wo.alloc (.map #[] 0)).heap.size = wo.heap.size + 1 := by simp
      have BA : Aside0 (Below wo.heap.size wo w6) := ⟨below_then (below_alloc (Below.refl _ _) _) (by rw [e15]; omega) B6.out⟩
      have MA : Aside0 (MapV Try.prog w6 3 (.bool false) wo.heap.size 0 (fun _ => .bool false)) := ⟨MapV.below (MapV.made _ _ _ _) B6.out⟩
      have QA : Aside0 (Kd.Q (Kd.int .i64) 3 w6 (wo.heap.size + 1) (fun _ => True) v15 SR) := ⟨by have := Kd.Q_of_R H15.out; rwa [e15] at this⟩
      have P0 : Aside0 (0 + potV ST (fun _ => false) SR ≤ 6102000) := ⟨by
        have := List.length_filter_le (fun p : Int × Int => !(fun _ => false : Int → Bool) p.1) ST
        unfold potV
        omega⟩
      clear H15 B6 e15
      go_loopg [15] k (fun gg s15 wx => ∃ (sn : Int → Bool) (x : List Int) (n : Nat), Aside0 (tntV (nextG ST) gg sn x = some seen) ∧ Aside0 (n + potV ST sn x ≤ 6102000) ∧ Aside0 (∀ y ∈ x, smallP y) ∧ Aside0 (MapV Try.prog wx 3 (.bool false) wo.heap.size n (fun y => .bool (sn y))) ∧ Aside0 (Below wo.heap.size wo wx) ∧ Aside0 (Kd.Q (Kd.int .i64) 3 wx (wo.heap.size + 1) (fun _ => True) s15 x))
      case atStart => exact ⟨_, SR, 0, HS, P0, HSR1, MA, BA, QA⟩
      case round =>
        clear P0 MA BA QA
        obtain ⟨sn, x, n, HT, HP2, HTD, MS, BX, QX⟩ := hrel
        cases gk with
        | zero => exact absurd HT.out (by simp [tntV])
        | succ g1 =>
        cases x with
        | nil =>
          obtain ⟨Aq, cq, eq, -⟩ := Kd.Q_slice QX.out
          subst eq
          have hbx := BX.out.size
          have es : sn = seen := by have := HT.out; simpa [tntV] using this
          have hl1 := MS.out.look (t := 85) (e := 4) Try.underlying3 Try.underlying85 (zeroB _) (a1 * (names.length : Int) + idxS names a2) (smallP_wf hat)
          rw [es] at hl1
          clear es
          have q0 : decide (0 < (([] : List Int).length : Int)) = false := by decide
          go_wp2
          go_ret
          exact ⟨rfl, below_then BW.out BW.out.size BX.out⟩
        | cons k1 r =>
          obtain ⟨Aq, cq, eq, -⟩ := Kd.Q_slice QX.out
          subst eq
          have hxl : (k1 :: r).length = r.length + 1 := rfl
          have hT0 := HT.out
          have hP0 := HP2.out
          have hk1 := HTD.out k1 (by simp)
          have hrs : ∀ y ∈ r, smallP y := fun y hy => HTD.out y (List.mem_cons_of_mem _ hy)
          have hps := pot_skip ST sn k1 r
          have hps2 := pot_see ST sn k1 r
          have hms := MS.out.lt
          rw [tntV] at hT0
          have hd1 : r = (k1 :: r).drop (1 : Int).toNat := rfl
          have hg1 : (k1 :: r)[0]? = some k1 := rfl
          clear HT HP2 HTD
          generalize k1 :: r = x at QX hxl hd1 hg1 hP0 hps hps2 ⊢
          have HD1 := Aside0.mk hd1
          have HXL := Aside0.mk hxl
          have HRS := Aside0.mk hrs
          have hx0 : decide (0 < (x.length : Int)) = true := decide_eq_true (by omega)
          have hx1 : decide (0 < x.length) = true := decide_eq_true (by omega)
          have hx2 : 0 < x.length := by omega
          have hx3 : (0 : Int) < (x.length : Int) := by omega
          obtain ⟨ad1, ea1, hc1⟩ := at_int (Kd.Q_reads' QX.out).2.2 hg1
          rw [Addr.add_zero'] at hc1
          cases ea1
          have q18 : (1 : Int) ≤ (x.length : Int) := by omega
          obtain ⟨i018, hi018, _, hsz18, _⟩ := info_parts info3
          have hcut18 := cut_from (P := Try.prog) 25 3 .i64 Try.underlying25 hi018 1 hsz18 (some ad1) x.length cq 1 (by omega) q18
          have hr18 := Kd.Q_drop (k := (1 : Int).toNat) QX.out (by omega)
          obtain ⟨A18, hA18⟩ : ∃ A1, A1 = (if cq = (1 : Int).toNat then (some ad1) else ((some ad1) : Option Addr).map (·.add ((1 : Int).toNat * 1))) := ⟨_, rfl⟩
          obtain ⟨c18, hc18⟩ : ∃ c1, c1 = cq - (1 : Int).toNat := ⟨_, rfl⟩
          have hy18 : r.length = x.length - (1 : Int).toNat := by rw [hd1, List.length_drop]
          rw [← hd1] at hr18
          rw [← hy18, ← hA18, ← hc18] at hcut18
          replace hr18 : Kd.Q (Kd.int .i64) 3 wr (wo.heap.size + 1) (fun _ => True) (.slice A18 r.length c18) r := (by rw [hA18, hc18, hy18]; exact hr18)
          have QR := Aside0.mk hr18
          clear hy18 hi018 hsz18 QX hA18 hc18 hr18 hg1 hd1 hxl hrs
          have hl1 := MS.out.look (t := 85) (e := 4) Try.underlying3 Try.underlying85 (zeroB _) k1 (smallP_wf hk1)
          have hbx := BX.out.size
          cases hb : sn k1
          case true =>
            rw [hb] at hl1
            rw [if_pos hb] at hT0
            have HT1 := Aside0.mk hT0
            have HP1 : Aside0 (n + potV ST sn r ≤ 6102000) := ⟨by omega⟩
            clear hT0 hps hP0 hb hps2
            go_wp2
            go_roundg g1
            case measure => omega
            case rel => exact ⟨sn, r, n, HT1, HP1, HRS, MS, BX, QR⟩
          case false =>
            rw [hb] at hl1
            rw [if_neg (by rw [hb]; simp)] at hT0
            replace hps2 := hps2 hb
            have HT1 := Aside0.mk hT0
            have HP1 : Aside0 (n + 1 + potV ST (seeV sn k1) (r ++ nextG ST k1) ≤ 6102000) := ⟨by omega⟩
            have hlen2 : r.length + (nextG ST k1).length ≤ 6102000 := by
              have := HP1.out
              unfold potV at this
              rw [List.length_append] at this
              omega
            have hnm : n < maxLen := by unfold maxLen; omega
            obtain ⟨w7, hr7, hM7, hg7⟩ := MS.out.put (e := 4) Try.underlying3 Try.underlying85 hnm k1 (smallP_wf hk1) (.bool true)
            have hM7' : MapV Try.prog w7 3 (.bool false) wo.heap.size (n + 1) (fun y => .bool (seeV sn k1 y)) := by
              have e : (fun y => if y = k1 then Value.bool true else .bool (sn y)) = fun y => .bool (seeV sn k1 y) := by
                funext y
                unfold seeV
                split <;> rfl
              rwa [e] at hM7
            have M7 := Aside0.mk hM7'
            have hB7 : Below wo.heap.size wo w7 := pw_below_grown BX.out _ hbx hg7 (fun k hk => by injection hk with hk; omega)
            have B7 := Aside0.mk hB7
            have hl2 := (MW.out.below hB7).look (t := 83) (e := 25) Try.underlying3 Try.underlying83 (zeroRow _) k1 (smallP_wf hk1)
            have RK := Aside0.mk (Kd.R_below (RN.out k1) hB7)
            obtain ⟨Ak, ck, ek⟩ := Kd.R_slice RK.out
            rw [ek] at hl2
            have hRK := RK.out
            rw [ek] at hRK
            have CK := Aside0.mk (Kd.R_reads' hRK).2.2
            have Q7 := Aside0.mk (Kd.Q_grown2 QR.out rfl hg7 (fun k hk e => by have := Kd.Q_base QR.out k e.symm; injection hk with hk; omega))
            have hz7 := hg7.size
            clear hps hP0 hb hT0 hps2 hM7 hM7' hB7 hg7 ek hRK
            go_wp2_with (at_builtin; go_must (refine Kd.Q_append_rows (Kd.int .i64) (w0 := w7) (wo.heap.size + 1) rfl (.tmp 72) (.tmp 75) 25 3 (.int .i64 0) 8 rfl Try.underlying25 infoI rfl (by decide) (by omega) (.slice A18 r.length c18) r (nextG ST k1) _ _ _ (fun _ => True) (fun _ => False) rfl rfl Q7.out CK.out (fun _ _ h => h) (fun _ h => h.elim) (fun _ _ => trivial) (Below.refl _ _) (by omega) (by omega) ?_); intro v16 w8 hq8 hb8 hg8 hat8)
            have hne : ∀ k, (Value.slice A18 r.length c18).ownBlock = some k → wo.heap.size + 1 ≤ k := Kd.Q_base Q7.out
            have M8 := Aside0.mk (M7.out.kept hg8 (fun e => by have := hne _ e.symm; omega))
            have B8 := Aside0.mk (pw_below_grown B7.out _ (by omega) hg8 (fun k hk => by have := hne _ hk; omega))
            have Q8 := Aside0.mk hq8
            have HS8 : Aside0 (∀ y ∈ r ++ nextG ST k1, smallP y) := ⟨fun y hy => by
              rcases List.mem_append.1 hy with hy | hy
              · exact HRS.out y hy
              · exact nextG_mem_small HST1.out k1 y hy⟩
            clear hq8 hb8 hg8 hat8 hne
            go_roundg g1
            case measure => omega
            case rel => exact ⟨seeV sn k1, r ++ nextG ST k1, n + 1, HT1, HP1, HS8, M8, B8, Q8⟩
end
theorem cfg_Taints.calls (k : Nat) (A0 : Option Addr) (c0 : Nat) (l0 : List Stmt) (a1 : Int) (a2 : ByteArray) (r : Bool) (w : World) (hr0 : Kd.C k30 w A0 l0.length l0) (hc0 : l0.length ≤ c0) (h : cfg_Taints.f k l0 a1 a2 = some r) :
    Calls Try.prog 40 #[.slice A0 l0.length c0, .int .i64 a1, .string a2] w fun e w' => e = .returned (.bool r) ∧ Below w.heap.size w w' := by
  unfold cfg_Taints.f at h
  by_cases hl : l0.length ≤ 1000
  · rw [if_pos hl] at h
    by_cases c : withinB l0.length a1 = true ∧ 0 ≤ idxS (setS (l0.flatMap namesOf)) a2
    · rw [if_pos c] at h
      obtain ⟨seen, hs, h⟩ := Option.bind_eq_some_iff.1 h
      obtain rfl := Option.some.inj h
      exact taints_yes A0 c0 l0 a1 a2 w hr0 hc0 hl c.1 c.2 k seen hs
    · rw [if_neg c] at h
      obtain rfl := Option.some.inj h
      exact taints_no A0 c0 l0 a1 a2 w hr0 hc0 hl c
  · rw [if_neg hl] at h
    cases h
end Go.Proofs.Ytnepgcbgkhikkaa.H
/- cfg.Taints' plain word tells what is tainted -/
namespace Go.Proofs.Ytnepgcbgkhikkaa.H
open Go.RowKit Go.Proofs.YtnepgcbgkhikkaaW.PrintWords
theorem tnt_ev (steps : List (Int × Int)) (srcs : List Int) : ∃ r, Ev (fun k => tntV (nextG steps) k (fun _ => false) srcs) r ∧ ∀ q, r q = true ↔ Tnt steps srcs q := by
  obtain ⟨r, hr⟩ := tntV_some steps (potV steps (fun _ => false) srcs + 1) (fun _ => false) srcs (by omega)
  have hup : ∀ d, tntV (nextG steps) (potV steps (fun _ => false) srcs + 1 + d) (fun _ => false) srcs = some r := by
    intro d
    induction d with
    | zero => exact hr
    | succ d ih => exact tntV_more _ _ _ _ _ ih
  refine ⟨r, ⟨potV steps (fun _ => false) srcs + 1, fun k hk => ?_⟩, tntV_spec steps srcs _ _ _ r ⟨fun k hk => .base hk, fun k hk => (by cases hk), fun p hp => .inr hp, fun p q hp => (by cases hp)⟩ hr⟩
  obtain ⟨d, rfl⟩ : ∃ d, k = potV steps (fun _ => false) srcs + 1 + d := ⟨k - (potV steps (fun _ => false) srcs + 1), by omega⟩
  exact hup d
def nmsT (l : List Stmt) : List ByteArray := setS (l.flatMap namesOf)
def taintP (l : List Stmt) (n : Int) (x : ByteArray) : Prop := 0 ≤ n ∧ n < (l.length : Int) ∧ x ∈ nmsT l ∧ TaintP l (nmsT l) n x
theorem Taints_ev (l : List Stmt) (n : Int) (x : ByteArray) (hl : l.length ≤ 1000) : ∃ b, Ev (fun k => cfg_Taints.f k l n x) b ∧ (b = true ↔ taintP l n x) := by
  unfold cfg_Taints.f
  have w : withinB l.length n = true ↔ 0 ≤ n ∧ n < (l.length : Int) := by simp [withinB]
  by_cases c : withinB l.length n = true ∧ 0 ≤ idxS (setS (l.flatMap namesOf)) x
  · obtain ⟨r, hr, hs⟩ := tnt_ev (stepsP l (setS (l.flatMap namesOf))) (srcsP l (setS (l.flatMap namesOf)))
    refine ⟨r (atP (setS (l.flatMap namesOf)) n x), Ev.pos hl (Ev.pos c (Ev.bind hr (Ev.now _))), ?_⟩
    rw [hs]
    have h1 := w.1 c.1
    have h2 := idxS_mem.1 c.2
    constructor
    · intro h; exact ⟨h1.1, h1.2, h2, h⟩
    · intro h; exact h.2.2.2
  · refine ⟨false, Ev.pos hl (Ev.neg c (Ev.now _)), ⟨fun h => (by cases h), fun h => absurd ⟨w.2 ⟨h.1, h.2.1⟩, idxS_mem.2 h.2.2.1⟩ c⟩⟩
theorem Taints_yes (l : List Stmt) (n : Int) (x : ByteArray) (hl : l.length ≤ 1000) (h0 : 0 ≤ n) (h1 : n < (l.length : Int)) (hx : x ∈ nmsT l) (ht : TaintP l (nmsT l) n x) : Ev (fun k => cfg_Taints.f k l n x) true := by
  obtain ⟨b, hb, e⟩ := Taints_ev l n x hl
  have : b = true := e.2 ⟨h0, h1, hx, ht⟩
  exact this ▸ hb
end Go.Proofs.Ytnepgcbgkhikkaa.H
/- of what comes that a name is tainted -/
namespace Go.Proofs.Ytnepgcbgkhikkaa.H
open Go.RowKit Go.Proofs.YtnepgcbgkhikkaaW.PrintWords
theorem idxP_at {α : Type} (p : α → Bool) : ∀ (l : List α) (i : Nat), 0 ≤ idxP p l i → ∃ k y, idxP p l i = ((i + k : Nat) : Int) ∧ l[k]? = some y ∧ p y = true
  | [], i, h => by simp [idxP] at h
  | y :: l, i, h => by
    unfold idxP at h ⊢
    by_cases c : p y = true
    · rw [if_pos c]
      exact ⟨0, y, by simp, rfl, c⟩
    · rw [if_neg c] at h ⊢
      obtain ⟨k, z, h1, h2, h3⟩ := idxP_at p l (i + 1) h
      exact ⟨k + 1, z, by rw [h1]; congr 1; omega, h2, h3⟩
theorem idxS_at {names : List ByteArray} {x : ByteArray} (h : x ∈ names) : ∃ k : Nat, idxS names x = (k : Int) ∧ names[k]? = some x ∧ k < names.length := by
  obtain ⟨k, y, h1, h2, h3⟩ := idxP_at (fun y => decide (y = x)) names 0 (idxS_mem.2 h)
  have e : y = x := by simpa using h3
  subst e
  exact ⟨k, by unfold idxS; rw [h1]; simp, h2, (List.getElem?_eq_some_iff.1 h2).1⟩
theorem place_inj {M : Nat} {n n' : Int} {i i' : Nat} (hi : i < M) (hi' : i' < M) (h : n * (M : Int) + i = n' * (M : Int) + i') : n = n' ∧ i = i' := by
  have h1 : (n - n') * (M : Int) = (i' : Int) - i := by rw [Int.sub_mul]; omega
  have h2 : n - n' = 0 := by
    rcases Int.lt_trichotomy (n - n') 0 with q | q | q
    · have : (n - n') * (M : Int) ≤ (-1) * (M : Int) := Int.mul_le_mul_of_nonneg_right (by omega) (by omega)
      omega
    · exact q
    · have : 1 * (M : Int) ≤ (n - n') * (M : Int) := Int.mul_le_mul_of_nonneg_right (by omega) (by omega)
      omega
  rw [h2, Int.zero_mul] at h1
  omega
theorem atP_inj {names : List ByteArray} {n n' : Int} {x x' : ByteArray} (hx : x ∈ names) (hx' : x' ∈ names) (h : atP names n x = atP names n' x') : n = n' ∧ x = x' := by
  obtain ⟨k, h1, h2, h3⟩ := idxS_at hx
  obtain ⟨k', g1, g2, g3⟩ := idxS_at hx'
  unfold atP at h
  rw [h1, g1] at h
  obtain ⟨e1, e2⟩ := place_inj h3 g3 h
  subst e2
  rw [h2] at g2
  exact ⟨e1, Option.some.inj g2⟩
theorem at_mem' {s : List Stmt} {n : Int} (h0 : 0 ≤ n) (h1 : n < (s.length : Int)) : at_ s n ∈ s := by
  have e : at_ s n = s[n.toNat]'(by omega) := by
    unfold at_ rd_T30
    rw [List.getD_eq_getElem?_getD, List.getElem?_eq_getElem (by omega)]
    rfl
  rw [e]
  exact List.getElem_mem _
theorem mem_nmsT {s : List Stmt} {x : ByteArray} : x ∈ nmsT s ↔ ∃ st ∈ s, x ∈ namesOf st := by
  unfold nmsT
  rw [mem_setS, List.mem_flatMap]
theorem def_nm {s : List Stmt} {n : Int} (h0 : 0 ≤ n) (h1 : n < (s.length : Int)) {x : ByteArray} (h : defB (at_ s n) x = true) : x ∈ nmsT s := by
  obtain ⟨e1, e2⟩ := defB_iff.1 h
  exact mem_nmsT.2 ⟨_, at_mem' h0 h1, by simp [namesOf, e1, e2]⟩
theorem use_nm {s : List Stmt} {n : Int} (h0 : 0 ≤ n) (h1 : n < (s.length : Int)) {x : ByteArray} (h : x ∈ usesS (at_ s n)) : x ∈ nmsT s :=
  mem_nmsT.2 ⟨_, at_mem' h0 h1, by simp [namesOf, h]⟩
theorem defN_of {st : Stmt} (h : st.kind = 4 ∨ opK st) : defN st = (st.x, true) := by
  unfold defN
  rw [if_pos (by unfold opK at h; omega)]
/-- what a statement hands on of a name to one to which it leads -/
def hands (s : List Stmt) (m : Int) (x : ByteArray) (T : Int → ByteArray → Prop) : Prop :=
  (defB (at_ s m) x = true ∧ (at_ s m).kind = 4) ∨ (defB (at_ s m) x = false ∧ T m x) ∨ (defB (at_ s m) x = true ∧ opK (at_ s m) ∧ ∃ u ∈ usesS (at_ s m), T m u)
theorem taint_ind {s : List Stmt} {P : Int → ByteArray → Prop} (hP : ∀ m n x, n ∈ nxt s m → hands s m x (fun m u => P m u ∧ taintP s m u) → P n x) {n : Int} {x : ByteArray} (h : taintP s n x) : P n x := by
  obtain ⟨h0, h1, hx, hT⟩ := h
  unfold TaintP at hT
  have key : ∀ q, Tnt (stepsP s (nmsT s)) (srcsP s (nmsT s)) q → ∀ (n : Int) (x : ByteArray), 0 ≤ n → n < (s.length : Int) → x ∈ nmsT s → q = atP (nmsT s) n x → P n x := by
    intro q hq
    induction hq with
    | base hp =>
      intro n x h0 h1 hx e
      unfold srcsP srcsAt at hp
      obtain ⟨a, ha, hp⟩ := List.mem_flatMap.1 hp
      obtain ⟨m, hm, hp⟩ := List.mem_flatMap.1 hp
      have ha := List.mem_range.1 ha
      unfold srcF at hp
      split at hp
      · rename_i hk
        obtain rfl := List.mem_singleton.1 hp
        have hd := defN_of (.inl hk)
        have hdB : defB (at_ s a) (defN (at_ s a)).1 = true := defB_iff.2 ⟨by rw [hd], rfl⟩
        obtain ⟨rfl, rfl⟩ := atP_inj (def_nm (by omega) (by omega) hdB) hx e
        exact hP a _ _ hm (.inl ⟨hdB, hk⟩)
      · simp at hp
    | step hp hs ih =>
      rename_i p q
      intro n x h0 h1 hx e
      unfold stepsP stepsAt at hs
      obtain ⟨a, ha, hs⟩ := List.mem_flatMap.1 hs
      obtain ⟨m, hm, hs⟩ := List.mem_flatMap.1 hs
      have ha := List.mem_range.1 ha
      unfold stF at hs
      rcases List.mem_append.1 hs with hs | hs
      · obtain ⟨y, hy, hs⟩ := List.mem_flatMap.1 hs
        unfold keptF at hs
        split at hs
        · simp at hs
        · rename_i hd
          have e2 := List.mem_singleton.1 hs
          injection e2 with e3 e4
          rw [e4] at e
          obtain ⟨rfl, rfl⟩ := atP_inj hy hx e
          exact hP a _ _ hm (.inr (.inl ⟨by simpa using hd, ih a y (by omega) (by omega) hy e3, by omega, by omega, hy, by unfold TaintP; rw [← e3]; exact hp⟩))
      · split at hs
        · rename_i hk
          obtain ⟨y, hy, e2⟩ := List.mem_map.1 hs
          unfold usedF at e2
          injection e2 with e3 e4
          have hd := defN_of (.inr hk)
          have hdB : defB (at_ s a) (defN (at_ s a)).1 = true := defB_iff.2 ⟨by rw [hd], rfl⟩
          rw [← e4] at e
          obtain ⟨rfl, rfl⟩ := atP_inj (def_nm (by omega) (by omega) hdB) hx e
          exact hP a _ _ hm (.inr (.inr ⟨hdB, hk, y, hy, ih a y (by omega) (by omega) (use_nm (by omega) (by omega) hy) e3.symm, by omega, by omega, use_nm (by omega) (by omega) hy, by unfold TaintP; rw [e3]; exact hp⟩))
        · simp at hs
  exact key _ hT n x h0 h1 hx rfl
theorem taint_iff {s : List Stmt} {n : Int} {x : ByteArray} : taintP s n x ↔ ∃ m, n ∈ nxt s m ∧ hands s m x (taintP s) := by
  constructor
  · intro h
    refine taint_ind (P := fun n x => ∃ m, n ∈ nxt s m ∧ hands s m x (taintP s)) (fun m n x hm hh => ⟨m, hm, ?_⟩) h
    rcases hh with h | ⟨h1, h2⟩ | ⟨h1, h2, u, h3, h4⟩
    · exact .inl h
    · exact .inr (.inl ⟨h1, h2.2⟩)
    · exact .inr (.inr ⟨h1, h2, u, h3, h4.2⟩)
  · rintro ⟨m, hm, h⟩
    have hw := nxt_within hm
    rcases h with ⟨h1, h2⟩ | ⟨h1, h2⟩ | ⟨h1, h2, u, h3, h4⟩
    · have := source_step (names := nmsT s) hw.2.2.1 hw.2.2.2 hm h2
      rw [(defB_iff.1 h1).2] at this
      exact ⟨hw.1, hw.2.1, def_nm hw.2.2.1 hw.2.2.2 h1, this⟩
    · exact ⟨hw.1, hw.2.1, h2.2.2.1, kept_step hw.2.2.1 hw.2.2.2 hm h2.2.2.1 h1 h2.2.2.2⟩
    · have := used_step (names := nmsT s) hw.2.2.1 hw.2.2.2 hm h2 h3 h4.2.2.2
      rw [(defB_iff.1 h1).2] at this
      exact ⟨hw.1, hw.2.1, def_nm hw.2.2.1 hw.2.2.2 h1, this⟩
theorem taint_source {s : List Stmt} {n : Int} {x : ByteArray} (h : taintP s n x) : ∃ st ∈ s, st.kind = 4 := by
  obtain ⟨-, -, -, hT⟩ := h
  have key : ∀ q, Tnt (stepsP s (nmsT s)) (srcsP s (nmsT s)) q → ∃ st ∈ s, st.kind = 4 := by
    intro q hq
    induction hq with
    | base hp =>
      unfold srcsP srcsAt at hp
      obtain ⟨a, ha, hp⟩ := List.mem_flatMap.1 hp
      obtain ⟨m, hm, hp⟩ := List.mem_flatMap.1 hp
      have ha := List.mem_range.1 ha
      unfold srcF at hp
      split at hp
      · rename_i hk
        exact ⟨_, at_mem' (by omega) (by omega), hk⟩
      · simp at hp
    | step _ _ ih => exact ih
  exact key _ hT
end Go.Proofs.Ytnepgcbgkhikkaa.H

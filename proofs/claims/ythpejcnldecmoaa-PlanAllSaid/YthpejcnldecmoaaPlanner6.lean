import Derived.Test.YthpejcnldecmoaaPlanner4
import Derived.Test.YthpejcnldecmoaaPlanner5
import Derived.Test.YthpejcnldecmoaaPlanSpecD
namespace Go.Proofs.Ythpejcnldecmoaa.H
open Go.RowKit Go.Proofs.YthpejcnldecmoaaW.PrintWords Go.Proofs.YthpejcnldecmoaaW.PrintLast Go.Proofs.YthpejcnldecmoaaW.PrintMore
set_option linter.unusedVariables false

theorem order1 (w : World) (l : List Liter) : PredA Try.prog 39 #[] kLiter odd w l := by
  intro W y cs hm hb hK
  obtain ⟨A2, c2, rfl, l2, g2⟩ := kLiter_open hK
  have hu := Try.underlying47
  clear hm hK g2 l2
  by_cases h1 : y.kind < 1
  · have HQ := Aside0.mk (show odd y = true by simp [odd, h1])
    go_enter Try.func39, Try.ntmps39
    go_wp2
    go_ret
    exact ⟨by rw [HQ.out]; rfl, below_alloc (Below.refl _ _) _⟩
  · have HQ := Aside0.mk (show odd y = decide (3 < y.kind) by simp [odd, h1])
    go_enter Try.func39, Try.ntmps39
    go_wp2
    go_ret
    exact ⟨by rw [HQ.out]; rfl, below_alloc (Below.refl _ _) _⟩

section
variable {w0 W w1 : World} {B : Nat} {A0 : Option Addr} {c0 : Nat} {body : List Liter} {s : Plan} {vl vb vo v1 : Value}
theorem Pl.grow (h : Pl w0 W B A0 c0 body s vl vb vo) {i : Nat} (hr : Kd.R (Kd.int .i64) 3 w1 w0.heap.size (fun k => k ≠ B ∧ some k ≠ vo.ownBlock) v1 (ints s.left ++ [(i : Int)])) (hb : Below w0.heap.size w0 w1) (hg : W.grownBy w1 vl.ownBlock)
    (hat : v1.ownBlock = vl.ownBlock ∨ ∃ b, v1.ownBlock = some b ∧ W.heap.size ≤ b) : Pl w0 (w1.setCell ⟨B, 1, none⟩ v1) B A0 c0 body { s with left := s.left ++ [i] } v1 vb vo := by
  have hB : some B ≠ vl.ownBlock := fun e => (h.left.1 B e.symm).1 rfl
  have hblk : w1.heap[B]? = some (.cells #[.slice A0 body.length c0, vl, vb, vo] 78 (0, 0)) := blk_grown h.blk hg hB
  refine ⟨blk_put hblk 1 v1 rfl, h.ge, below_set hb h.ge, ?_, ?_, ?_⟩
  · have : ints (s.left ++ [i]) = ints s.left ++ [(i : Int)] := by simp [ints]
    rw [this]
    exact Kd.R_far (p := ⟨B, 1, none⟩) hr (fun k hk => hk.1) _
  · exact Kd.R_far (p := ⟨B, 1, none⟩) (Kd.R_over h.bound h.left (by decide) hg) (fun k hk => hk) _
  · exact Kd.R_far (p := ⟨B, 1, none⟩) (Kd.R_after h.order hg hat) (fun k hk => hk.1) _
end
theorem planner_new (w W : World) (A0 : Option Addr) (c0 : Nat) (body : List Liter) (hb : Below w.heap.size w W) :
    Pl w (W.alloc (.cells #[.slice A0 body.length c0, .slice none 0 0, .slice none 0 0, .slice none 0 0] 78)) W.heap.size A0 c0 body ⟨[], [], []⟩ (.slice none 0 0) (.slice none 0 0) (.slice none 0 0) :=
  ⟨blk_new W _, hb.size, below_alloc hb _, Kd.R_nil _ _ _ _ _, Kd.R_nil _ _ _ _ _, Kd.R_nil _ _ _ _ _⟩

def OrderPost (w : World) (body : List Liter) (first : Int) (e : Ending) (w' : World) : Prop :=
  ∃ v, e = .returned (.tuple #[v, .int .i64 (orderOf body first).2]) ∧ Kd.R (Kd.int .i64) 3 w' w.heap.size (fun _ => True) v (ints (orderOf body first).1) ∧ Below w.heap.size w w'

set_option maxHeartbeats 8000000 in
set_option maxRecDepth 100000 in
theorem plan_Order_bad (w : World) (p : ByteArray) (Ah : Option Addr) (nh ch : Nat) (A0 : Option Addr) (c0 : Nat) (body : List Liter) (first : Int) (hbody : Kd.C kLiter w A0 body.length body) (hbad : badFirst body first = true) :
    Calls Try.prog 17 #[.agg #[.string p, .slice Ah nh ch, .slice A0 body.length c0], .int .i64 first] w (OrderPost w body first) := by
  have hu := Try.underlying27
  have hu2 := Try.underlying47
  have hlen := hbody.2.1
  have HBd := Aside0.mk hbody
  have eg := enters_of Try.func39 (by kernel_rfl) rfl
  have HO : Aside0 (orderOf body first = ([], 1)) := ⟨by rw [orderOf, if_pos hbad]⟩
  have fin : Aside0 (∀ w', Below w.heap.size w w' → OrderPost w body first (.returned (.tuple #[.slice none 0 0, .int .i64 1])) w') := ⟨fun w' hb => ⟨_, by rw [HO.out], by rw [HO.out]; exact Kd.R_nil _ _ _ _ _, hb⟩⟩
  cases h1 : body.any odd with
  | true =>
    have H1 := Aside0.mk h1
    clear h1 hbody hbad
    go_enter Try.func17, Try.ntmps17
    go_wp2_with (go_at_call 40; go_must (refine (ContainsFuncLiter 39 #[] eg odd _ _ _ _ (Kd.C_alloc HBd.out _) (order1 _ _)).mono ?_); rintro e w1 ⟨rfl, hb⟩; rw [H1.out]; have HB := Aside0.mk (Below.then (below_alloc (Below.refl _ _) _) hb); clear hb)
    go_ret2
    exact fin.out _ HB.out
  | false =>
    have H1 := Aside0.mk h1
    by_cases h2 : first < -1
    · clear h1 hbody hbad
      go_enter Try.func17, Try.ntmps17
      go_wp2_with (go_at_call 40; go_must (refine (ContainsFuncLiter 39 #[] eg odd _ _ _ _ (Kd.C_alloc HBd.out _) (order1 _ _)).mono ?_); rintro e w1 ⟨rfl, hb⟩; rw [H1.out]; have HB := Aside0.mk (Below.then (below_alloc (Below.refl _ _) _) hb); have hr2 := Below.old hb (a := ⟨w.heap.size, 2, none⟩) (v := .slice A0 body.length c0) (by go_simp); clear hb)
      go_ret2
      exact fin.out _ HB.out
    · by_cases h3 : (body.length : Int) ≤ first
      · clear h1 hbody hbad
        go_enter Try.func17, Try.ntmps17
        go_wp2_with (go_at_call 40; go_must (refine (ContainsFuncLiter 39 #[] eg odd _ _ _ _ (Kd.C_alloc HBd.out _) (order1 _ _)).mono ?_); rintro e w1 ⟨rfl, hb⟩; rw [H1.out]; have HB := Aside0.mk (Below.then (below_alloc (Below.refl _ _) _) hb); have hr2 := Below.old hb (a := ⟨w.heap.size, 2, none⟩) (v := .slice A0 body.length c0) (by go_simp); clear hb)
        go_ret2
        exact fin.out _ HB.out
      · have h4 : 0 ≤ first ∧ (lit body first.toNat).kind ≠ 1 := by
          simp only [badFirst, h1, Bool.false_or, Bool.or_eq_true, Bool.and_eq_true, decide_eq_true_eq] at hbad
          rcases hbad with (hbad | hbad) | hbad
          · omega
          · omega
          · exact hbad
        obtain ⟨h4, h5⟩ := h4
        obtain ⟨k, rfl⟩ := Int.eq_ofNat_of_zero_le h4
        rw [Int.toNat_natCast] at h5
        have hk : k < body.length := by omega
        have hq : ((lit body k).kind != 1) = true := bne_iff_ne.2 h5
        obtain ⟨yad, yA2, yc2, ye1, yhx0, yhx1, yhx2, yhx3, yhx4, yhx5, yhx6, yhx7, yhx8, yhx9, yhx10, yhx11, yhx12, yhx13, yl2, yg2⟩ := at_Liter hbody (lit_at hk)
        cases ye1
        clear h1 hbody hbad h5 yhx1 yhx2 yhx3 yhx4 yhx5 yhx6 yhx7 yhx8 yhx9 yhx10 yhx11 yhx12 yhx13 yg2 yl2
        go_enter Try.func17, Try.ntmps17
        go_wp2_with (go_at_call 40; go_must (refine (ContainsFuncLiter 39 #[] eg odd _ _ _ _ (Kd.C_alloc HBd.out _) (order1 _ _)).mono ?_); rintro e w1 ⟨rfl, hb⟩; rw [H1.out]; have HB := Aside0.mk (Below.then (below_alloc (Below.refl _ _) _) hb); have hr2 := Below.old hb (a := ⟨w.heap.size, 2, none⟩) (v := .slice (some yad) body.length c0) (by go_simp); clear hb; have hx0 := Below.old HB.out yhx0)
        go_ret2
        exact fin.out _ HB.out
end Go.Proofs.Ythpejcnldecmoaa.H

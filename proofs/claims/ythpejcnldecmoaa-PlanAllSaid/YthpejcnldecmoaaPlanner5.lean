import Derived.Test.YthpejcnldecmoaaPlanner3
import Derived.Deep.RegionLaw
import Derived.Deep.DeepCutAuto
import Derived.Deep.CutBlock
import Derived.BigQuiet
import Derived.Deep.QuietTactic
namespace Go.Proofs.Ythpejcnldecmoaa.H
open Go.RowKit Go.Proofs.YthpejcnldecmoaaW.PrintWords Go.Proofs.YthpejcnldecmoaaW.PrintLast Go.Proofs.YthpejcnldecmoaaW.PrintMore
set_option linter.unusedVariables false

theorem cell_far {w : World} {a b : Addr} {u : Value} (h : w.cell? b = some u) (hne : a.block ≠ b.block) (v : Value) : (w.setCell a v).cell? b = some u :=
  (World.cell?_setCell_other w a b v (fun e => hne (by rw [e]))).trans h
theorem take1 (w : World) (row : Option Nat) (Bi i : Nat) (l : List Nat) (h0 : w.cell? ⟨Bi, 0, none⟩ = some (.int .i64 i)) (hne : some Bi ≠ row) :
    PredG Try.prog 56 #[.pointer (some ⟨Bi, 0, none⟩)] (Value.int .i64) (fun x => x == (i : Int)) w row (ints l) := by
  intro W x hx hg
  have e1 := hg.cell h0 hne
  go_enter Try.func56, Try.ntmps56
  go_wp2
  go_ret
  exact ⟨rfl, Below.refl _ _⟩

section
variable {w0 W w1 : World} {B : Nat} {A0 : Option Addr} {c0 : Nat} {body : List Liter} {s : Plan} {vl vb vo v1 : Value}
theorem Pl.push (h : Pl w0 W B A0 c0 body s vl vb vo) {i : Nat} (hr : Kd.R (Kd.int .i64) 3 w1 w0.heap.size (fun k => k ≠ B ∧ some k ≠ vl.ownBlock) v1 (ints s.order ++ [(i : Int)])) (hb : Below w0.heap.size w0 w1) (hg : W.grownBy w1 vo.ownBlock)
    (hat : v1.ownBlock = vo.ownBlock ∨ ∃ b, v1.ownBlock = some b ∧ W.heap.size ≤ b) : Pl w0 (w1.setCell ⟨B, 3, none⟩ v1) B A0 c0 body { s with order := s.order ++ [i] } vl vb v1 := by
  have hB : some B ≠ vo.ownBlock := fun e => (h.order.1 B e.symm).1 rfl
  have hblk : w1.heap[B]? = some (.cells #[.slice A0 body.length c0, vl, vb, vo] 78 (0, 0)) := blk_grown h.blk hg hB
  refine ⟨blk_put hblk 3 v1 rfl, h.ge, below_set hb h.ge, ?_, ?_, ?_⟩
  · exact Kd.R_far (p := ⟨B, 3, none⟩) (Kd.R_after h.left hg hat) (fun k hk => hk.1) _
  · exact Kd.R_far (p := ⟨B, 3, none⟩) (Kd.R_over h.bound h.order (by decide) hg) (fun k hk => hk) _
  · have : ints (s.order ++ [i]) = ints s.order ++ [(i : Int)] := by simp [ints]
    rw [this]
    exact Kd.R_far (p := ⟨B, 3, none⟩) hr (fun k hk => hk.1) _
theorem Pl.cut (h : Pl w0 W B A0 c0 body s vl vb vo) {l : List Nat} (hr : Kd.R (Kd.int .i64) 3 w1 w0.heap.size (fun k => k ≠ B ∧ some k ≠ vo.ownBlock) v1 (ints l)) (hg : W.grownBy w1 vl.ownBlock)
    (hat : v1.ownBlock = vl.ownBlock) : Pl w0 (w1.setCell ⟨B, 1, none⟩ v1) B A0 c0 body { s with left := l } v1 vb vo := by
  have hB : some B ≠ vl.ownBlock := fun e => (h.left.1 B e.symm).1 rfl
  have hblk : w1.heap[B]? = some (.cells #[.slice A0 body.length c0, vl, vb, vo] 78 (0, 0)) := blk_grown h.blk hg hB
  have hb : Below w0.heap.size w0 w1 := pw_below_grown h.below _ h.below.size hg (fun k hk => Kd.R_base h.left k hk)
  refine ⟨blk_put hblk 1 v1 rfl, h.ge, below_set hb h.ge, ?_, ?_, ?_⟩
  · exact Kd.R_far (p := ⟨B, 1, none⟩) hr (fun k hk => hk.1) _
  · exact Kd.R_far (p := ⟨B, 1, none⟩) (Kd.R_over h.bound h.left (by decide) hg) (fun k hk => hk) _
  · rw [hat]
    exact Kd.R_far (p := ⟨B, 1, none⟩) (Kd.R_grown h.order hg (fun k hk => hk.2)) (fun k hk => hk.1) _
theorem Pl.bind (h : Pl w0 W B A0 c0 body s vl vb vo) {l : List ByteArray} (hr : Kd.R Kd.string 9 w1 w0.heap.size (fun k => k ≠ B) v1 l) (hb : Below w0.heap.size w0 w1) (hg : W.grownBy w1 vb.ownBlock) :
    Pl w0 (w1.setCell ⟨B, 2, none⟩ v1) B A0 c0 body { s with bound := l } vl v1 vo := by
  have hB : some B ≠ vb.ownBlock := fun e => (h.bound.1 B e.symm) rfl
  have hblk : w1.heap[B]? = some (.cells #[.slice A0 body.length c0, vl, vb, vo] 78 (0, 0)) := blk_grown h.blk hg hB
  refine ⟨blk_put hblk 2 v1 rfl, h.ge, below_set hb h.ge, ?_, ?_, ?_⟩
  · exact Kd.R_far (p := ⟨B, 2, none⟩) (Kd.R_over h.left h.bound (by decide) hg) (fun k hk => hk.1) _
  · exact Kd.R_far (p := ⟨B, 2, none⟩) hr (fun k hk => hk) _
  · exact Kd.R_far (p := ⟨B, 2, none⟩) (Kd.R_over h.order h.bound (by decide) hg) (fun k hk => hk.1) _
end

theorem filter_ints (l : List Nat) (i : Nat) : ((ints l).filter fun x => !(x == (i : Int))) = ints (l.filter fun k => !decide (k = i)) := by
  unfold ints
  rw [List.filter_map]
  congr 1
  apply List.filter_congr
  intro k _
  by_cases h : k = i
  · subst h; simp
  · have : ¬ ((k : Int) = (i : Int)) := by omega
    simp [h, this]

set_option maxHeartbeats 8000000 in
set_option maxRecDepth 100000 in
theorem planner_take (w0 w : World) (B i : Nat) (A0 : Option Addr) (c0 : Nat) (body : List Liter) (s : Plan) (vl vb vo : Value) (hP : Pl w0 w B A0 c0 body s vl vb vo) (hF : Fine body s) (hi : i < body.length) (hbody : Kd.C kLiter w0 A0 body.length body)
    (hlo : s.order.length ≤ 1000) (hlb : s.bound.length ≤ 1000000000) :
    Calls Try.prog 41 #[.pointer (some ⟨B, 0, none⟩), .int .i64 i] w fun e w' => e = .returned (.tuple #[]) ∧ ∃ vl' vb' vo', Pl w0 w' B A0 c0 body (takeOf body s i) vl' vb' vo' := by
  have hu := Try.underlying45
  have hu2 := Try.underlying24
  have hu3 := Try.underlying47
  have eg := enters_of Try.func56 (by kernel_rfl) rfl
  have hiz : (i : Int) < (body.length : Int) := by omega
  have hP1 := hP.then (below_alloc (Below.refl w.heap.size w) (.cells #[.int .i64 i] 3))
  have HP := Aside0.mk hP1
  have hbs := blk_lt hP.blk
  have hc3 := hP.cell3
  have hfz3 := hP.fz 3
  have hsz := hP.below.size
  have HF := Aside0.mk hF
  have hord := hP.order
  have hlef := hP.left
  have HBd := Aside0.mk hbody
  clear hP hP1 hF hbody
  go_enter Try.func41, Try.ntmps41
  go_upto_region 1 with (fail)
  have hcB : (w.alloc (.cells #[.int .i64 i] 3)).cell? ⟨B, 3, none⟩ = some vo := HP.out.cell3
  have hci : (w.alloc (.cells #[.int .i64 i] 3)).cell? ⟨w.heap.size, 0, none⟩ = some (.int .i64 i) := (blk_cell (blk_new w _) 0).trans rfl
  have hws : (w.alloc (.cells #[.int .i64 i] 3)).heap.size = w.heap.size + 1 := by simp
  have hbi : (w.alloc (.cells #[.int .i64 i] 3)).heap[w.heap.size]? = some (.cells #[.int .i64 i] 3 (0, 0)) := blk_new w _
  have hdl0 : vl.ownBlock ≠ some w.heap.size := fun e => by have := Kd.R_lt hlef _ e; omega
  have hdi0 : vo.ownBlock ≠ some w.heap.size := fun e => by have := Kd.R_lt hord _ e; omega
  clear hord hlef
  generalize w.alloc (.cells #[.int .i64 i] 3) = W1 at *
  have hW1 : B < W1.heap.size := by omega
  have HD := Aside0.mk (HP.out.then (below_drew (Below.refl _ _)))
  have hdi : Aside0 (vo.ownBlock ≠ some w.heap.size) := ⟨hdi0⟩
  have hfr : Aside0 (∀ k, W1.drew.heap.size ≤ k → (k ≠ B ∧ some k ≠ vl.ownBlock)) := ⟨fun k hk => ⟨by simp at hk; omega, fun e => by have := Kd.R_lt HP.out.left k e.symm; simp at hk; omega⟩⟩
  have hle : Aside0 (w0.heap.size ≤ W1.drew.heap.size) := ⟨by simp; omega⟩
  have hll : Aside0 (((ints s.order).length + 1) * 8 ≤ 140737488355328) := ⟨by rw [ints_len]; omega⟩
  have hdl : Aside0 (vl.ownBlock ≠ some w.heap.size) := ⟨hdl0⟩
  go_cut [] (fun wc => ∃ (A1 : Option Addr) (c1 : Nat), Aside0 (Pl w0 wc B A0 c0 body { s with order := s.order ++ [i] } vl vb (.slice A1 (s.order.length + 1) c1)) ∧ Aside0 (wc.cell? ⟨w.heap.size, 0, none⟩ = some (.int .i64 i)) ∧ Aside0 (vl.ownBlock ≠ some w.heap.size))
  case first =>
    go_region_law (refine Kd.R_append_step (Kd.int .i64) (w0 := w0) (W := W1.drew) w0.heap.size (by rfl) (.tmp 8) (.tmp 10) 31 3 (.int .i64 0) 8 (by rfl) Try.underlying31 infoInt rfl (by decide) (by omega) vo (ints s.order) (i : Int) [.int .i64 i] (fun k => k ≠ B ∧ some k ≠ vl.ownBlock) (fun _ => False) (by simp [Act.eval]) (by simp [Act.eval, hws]) rfl (fun _ h => h.elim) hfr.out (Kd.R_drew HP.out.order) (below_drew HP.out.below) hle.out hll.out ?_; intro v1 w1 ho1 hb1 hg1 hat1; obtain ⟨Ao1, co1, rfl, -, -⟩ := Kd.R_reads ho1; have HP1 := Aside0.mk (HD.out.push ho1 hb1 hg1 hat1); have hc3' := hg1.cell HD.out.cell3 (fun e => (HD.out.order.1 B e.symm).1 rfl); have hfz3' := blk_frozen (blk_grown HD.out.blk hg1 (fun e => (HD.out.order.1 B e.symm).1 rfl)) 3; have hci1 := hg1.cell (a := ⟨w.heap.size, 0, none⟩) (v := .int .i64 i) hci (fun e => hdi.out e.symm); clear ho1 hb1 hg1 hat1)
    all_goals
      go_wp2
      go_meet
      exact ⟨Ao1, co1, by simpa [ints_len] using HP1, ⟨cell_far hci1 (by show B ≠ w.heap.size; omega) _⟩, hdl⟩
  case rest =>
    obtain ⟨A1, c1, HP1, HC1, HV1⟩ := hcut
    clear HP HD hdi hfr hle hll hcB hci hbi
    have hc1 := HP1.out.cell1
    have hcs := World.block_lt_of_cell? wc _ HC1.out
    have hBc := blk_lt HP1.out.blk
    obtain ⟨Al1, cl1, rfl, -, -⟩ := Kd.R_reads HP1.out.left
    go_upto_region 3 with (go_at_call 55; go_must (refine (DeleteFuncInt 56 #[.pointer (some ⟨w.heap.size, 0, none⟩)] eg (fun x => x == (i : Int)) _ _ _ _ _ HP1.out.left (take1 _ _ _ _ _ HC1.out (fun e => HV1.out e.symm))).mono ?_); rintro e w2 ⟨v', rfl, hr, hg, hat⟩; simp only [filter_ints] at hr; obtain ⟨Al2, cl2, rfl, -, -⟩ := Kd.R_reads hr; have HP2 := Aside0.mk (HP1.out.cut hr hg hat); have hne2 : some B ≠ (Value.slice Al1 (ints s.left).length cl1).ownBlock := fun e => (HP1.out.left.1 B e.symm).1 rfl; have hb1 := hg.cell (a := ⟨B, 1, none⟩) hc1 hne2; have hfz1 := blk_frozen (blk_grown HP1.out.blk hg hne2) 1; have hci2 := hg.cell HC1.out (fun e => HV1.out e.symm); have hgs := hg.size; clear hr hg hat hne2)
    have hci3 := cell_far (a := ⟨B, 1, none⟩) hci2 (by show B ≠ w.heap.size; omega) (Value.slice Al2 (ints (s.left.filter fun k => !decide (k = i))).length cl2)
    have hB2 := blk_lt HP2.out.blk
    clear hci2 hb1 hfz1 hc1 HP1 HC1 HV1
    generalize w2.setCell ⟨B, 1, none⟩ (Value.slice Al2 (ints (s.left.filter fun k => !decide (k = i))).length cl2) = w3 at *
    have hc0 := HP2.out.cell0
    have hbel := HP2.out.below
    obtain ⟨yad, yA2, yc2, ye1, yhx0, yhx1, yhx2, yhx3, yhx4, yhx5, yhx6, yhx7, yhx8, yhx9, yhx10, yhx11, yhx12, yhx13, yl2, yg2⟩ := at_Liter HBd.out (lit_at hi)
    cases ye1
    have hx0 := Below.old hbel yhx0
    have hx1 := Below.old hbel yhx1
    have hx2 := Below.old hbel yhx2
    have HG := Aside0.mk (Kd.C_below yg2 hbel)
    have hargs := HF.out.args _ (lit_mem hi)
    clear yhx0 yhx1 yhx2 yhx3 yhx4 yhx5 yhx6 yhx7 yhx8 yhx9 yhx10 yhx11 yhx12 yhx13 yg2 yl2 hbel
    by_cases hk1 : (lit body i).kind = 1
    · have hq : ((lit body i).kind == 1) = true := beq_iff_eq.2 hk1
      have HK := Aside0.mk hk1
      clear hk1
      go_quiet (fail)
      rename_i nq
      go_upto_region 4 with (fail)
      have HP3 := Aside0.mk (HP2.out.then (W := w3.drewN nq) (pw_below_drewN (Below.refl _ _) nq))
      have hci4 : (w3.drewN nq).cell? ⟨w.heap.size, 0, none⟩ = some (.int .i64 i) := hci3
      have HG3 := Aside0.mk (Kd.C_drewN HG.out nq)
      have hx1' : (w3.drewN nq).cell? _ = _ := hx1
      have hx2' : (w3.drewN nq).cell? _ = _ := hx2
      clear HP2 hci3 HG hx0 hx1 hx2 hc0
      generalize w3.drewN nq = w4 at *
      have hnl : Aside0 ((s.bound.length + (names (lit body i).atom.args).length) * 16 ≤ 140737488355328) := ⟨by have := names_len (lit body i).atom.args; omega⟩
      have hc02 := HP3.out.cell0
      have hc22 := HP3.out.cell2
      have h84 : (lit body i).atom.args.length ≤ 8796093022207 := by omega
      have hbd : Aside0 (Below w4.heap.size w4 w4.drew) := ⟨below_drew (Below.refl _ _)⟩
      go_region_law (first
        | (refine goes_ (N := some 45) Try.func31 (by kernel_rfl) rfl #[.agg #[.string (lit body i).atom.pred, .slice yA2 (lit body i).atom.args.length yc2]] (by rfl) (by rfl) (by rfl) (by simp [Act.eval]) ((safe_Vars _ _ _ _ _ (Kd.C_drew HG3.out) h84).mono ?_); rintro e w5 ⟨v5, rfl, hr5, hb5⟩; refine ⟨_, rfl, ?_⟩; obtain ⟨A5, c5, rfl, -, hC5⟩ := Kd.R_reads hr5; have HC5 := Aside0.mk hC5; have HP5 := Aside0.mk (HP3.out.then (Below.then hbd.out hb5)); have hc25 := HP5.out.cell2; have hfz25 := HP5.out.fz 2; clear hr5 hC5 hb5)
        | (refine Kd.R_append_rows_step Kd.string (Rr := Kd.string.K w5) (w0 := w0) (W := w5) w0.heap.size (by rfl) (.tmp 36) (.tmp 45) 28 9 (.string ⟨#[]⟩) 16 (by rfl) Try.underlying28 infoStr rfl (by decide) (by omega) vb s.bound (names (lit body i).atom.args) A5 (names (lit body i).atom.args).length c5 (fun k => k ≠ B) (fun _ => False) (by simp [Act.eval]) (by simp [Act.eval]) HP5.out.bound HC5.out (fun _ _ h => h) (fun _ h => h.elim) (fun k hk => by have := blk_lt HP5.out.blk; omega) HP5.out.below HP5.out.below.size hnl.out ?_; intro v6 w6 hr6 hb6 hg6 hat6; obtain ⟨A6, c6, rfl, -, -⟩ := Kd.R_reads hr6; have HP6 := Aside0.mk (HP5.out.bind hr6 hb6 hg6); have hne6 : some B ≠ vb.ownBlock := (fun e => (HP5.out.bound.1 B e.symm) rfl); have hc26 := hg6.cell hc25 hne6; have hfz26 := blk_frozen (blk_grown HP5.out.blk hg6 hne6) 2; clear hr6 hb6 hg6 hat6 hne6))
      all_goals
        go_wp2
        go_end0
        exact ⟨rfl, _, _, _, by have h6 := HP6.out; rw [List.length_append] at h6; rw [takeOf, if_pos HK.out]; exact h6⟩
    · have hq : ((lit body i).kind == 1) = false := beq_eq_false_iff_ne.2 hk1
      have HK := Aside0.mk hk1
      clear hk1
      go_quiet (fail)
      go_wp2
      go_end0
      exact ⟨rfl, _, _, _, by rw [takeOf, if_neg HK.out]; exact HP2.out.then (pw_below_drewN (Below.refl _ _) _)⟩
end Go.Proofs.Ythpejcnldecmoaa.H

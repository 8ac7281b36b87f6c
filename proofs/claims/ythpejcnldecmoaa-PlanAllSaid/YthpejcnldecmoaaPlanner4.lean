import Derived.Test.YthpejcnldecmoaaPlanner3
namespace Go.Proofs.Ythpejcnldecmoaa.H
open Go.RowKit Go.Proofs.YthpejcnldecmoaaW.PrintWords Go.Proofs.YthpejcnldecmoaaW.PrintLast Go.Proofs.YthpejcnldecmoaaW.PrintMore
set_option linter.unusedVariables false

abbrev SeesB (w : World) (B : Nat) (ad : Addr) (k : Nat) (A0 : Option Addr) (n c0 : Nat) (vb : Value) (y : Liter) (A2 : Option Addr) (c2 : Nat) (w' : World) : Prop :=
  Below w.heap.size w w' ∧ w'.cell? ⟨B, 0, none⟩ = some (.slice A0 n c0) ∧ w'.cell? ⟨B, 2, none⟩ = some vb ∧ w'.cell? ⟨(ad.add (k * 14)).block, (ad.add (k * 14)).off + 1, none⟩ = some (.string y.atom.pred) ∧ w'.cell? ⟨(ad.add (k * 14)).block, (ad.add (k * 14)).off + 2, none⟩ = some (.slice A2 y.atom.args.length c2)

set_option maxHeartbeats 8000000 in
set_option maxRecDepth 100000 in
theorem planner_best (w0 w : World) (B : Nat) (A0 : Option Addr) (c0 : Nat) (body : List Liter) (s : Plan) (vl vb vo : Value) (hP : Pl w0 w B A0 c0 body s vl vb vo) (hF : Fine body s) (hbody : Kd.C kLiter w0 A0 body.length body) :
    Calls Try.prog 43 #[.pointer (some ⟨B, 0, none⟩)] w fun e w' => e = .returned (.int .i64 (optInt (bestOf body s))) ∧ Below w.heap.size w w' := by
  have HP := Aside0.mk hP
  have hu := Try.underlying45
  have hu2 := Try.underlying24
  have hu3 := Try.underlying47
  obtain ⟨Al, cl, rfl, hll, hCl⟩ := Kd.R_reads hP.left
  obtain ⟨Ab, cb, rfl, hlb, hCb⟩ := Kd.R_reads hP.bound
  have hlen := hCl.2.1
  have HC := Aside0.mk hCl
  have HCb := Aside0.mk hCb
  have hb1 := hP.cell1
  have hBs := blk_lt hP.blk
  have HF := Aside0.mk hF
  have HBd := Aside0.mk hbody
  clear hP hCl hCb hF hbody
  go_enter Try.func43, Try.ntmps43
  go_wp2
  go_loopg [3, 4, 6, 7, 13] (ints s.left).length (fun gg s3 s4 _ _ s13 wr => ∃ (kk : Nat) (b : Option Nat) (m : Int), kk ≤ s.left.length ∧ (ints s.left).length - kk ≤ gg ∧ s3 = .int .i64 (optInt b) ∧ s4 = .int .i64 m ∧ s13 = .int .i64 kk ∧ Aside0 (Below w.heap.size w wr) ∧ Aside0 (bestOf body s = (bestGo body s.bound (s.left.drop kk) (b, m)).1))
  case atStart => exact ⟨0, none, -1, Nat.zero_le _, by omega, rfl, rfl, rfl, ⟨Below.refl _ w⟩, ⟨rfl⟩⟩
  case round =>
    obtain ⟨kk, b, m, hkk, hgg, rfl, rfl, rfl, BW, A⟩ := hrel
    by_cases hlt : kk < s.left.length
    · have hltz : (kk : Int) < ((ints s.left).length : Int) := by rw [ints_len]; omega
      obtain ⟨k, hk⟩ := at_some hlt
      obtain ⟨ad1, e1, hx⟩ := at_int HC.out (ints_at hk)
      cases e1
      replace hx := Below.old BW.out hx
      have hkl := HF.out.left k (List.mem_of_getElem? hk)
      have hklz : (k : Int) < (body.length : Int) := by omega
      have HP2 := Aside0.mk (HP.out.then BW.out)
      have hc0 := HP2.out.cell0
      have hc2 := HP2.out.cell2
      have hbel := HP2.out.below
      have hargs := HF.out.args _ (lit_mem hkl)
      obtain ⟨yad, yA2, yc2, ye1, yhx0, yhx1, yhx2, yhx3, yhx4, yhx5, yhx6, yhx7, yhx8, yhx9, yhx10, yhx11, yhx12, yhx13, yl2, yg2⟩ := at_Liter HBd.out (lit_at hkl)
      cases ye1
      have HA := Aside0.mk (A.out.trans (by rw [drop_cons hk]))
      clear A hk
      have hx0 := Below.old hbel yhx0
      have hx1 := Below.old hbel yhx1
      have hx2 := Below.old hbel yhx2
      have HG := Aside0.mk (Kd.C_below yg2 hbel)
      have HCB := Aside0.mk (Kd.C_below HCb.out BW.out)
      clear yhx0 yhx1 yhx2 yhx3 yhx4 yhx5 yhx6 yhx7 yhx8 yhx9 yhx10 yhx11 yhx12 yhx13 yg2 yl2 hbel
      by_cases hk1 : (lit body k).kind = 1
      · have hq : ((lit body k).kind != 1) = false := bne_eq_false_iff_eq.2 hk1
        have HK := Aside0.mk hk1
        clear hk1
        have hbd : Below wr.heap.size wr wr.drew := below_drew (Below.refl _ _)
        have KS : Aside0 (∀ w', Below wr.heap.size wr w' → SeesB wr B yad k (some yad) body.length c0 (.slice Ab s.bound.length cb) (lit body k) yA2 yc2 w') := ⟨fun w' hb => ⟨hb, Below.old hb hc0, Below.old hb hc2, Below.old hb hx1, Below.old hb hx2⟩⟩
        go_wp2
        go_region_held3 (fun w' => SeesB wr B yad k (some yad) body.length c0 (.slice Ab s.bound.length cb) (lit body k) yA2 yc2 w') (first | exact KS.out _ (below_drew (Below.refl _ _)) | exact KS.out _ (Below.then (by assumption) (by assumption))) ((go_at_call 20; go_must (refine (plan_Cols _ _ _ _ _ _ _ _ (Kd.C_below HG.out (by assumption)) (Kd.C_below HCB.out (by assumption)) (by omega)).mono ?_); rintro e w2 ⟨v, rfl, hr, hb⟩; obtain ⟨Av, cv, rfl, hlv, hCv⟩ := Kd.R_reads hr; have hlv2 := hCv.2.1; clear hr hCv))
        have HB := Aside0.mk (Below.then BW.out (Below.then hbd hb))
        clear hb hbd KS
        have hnl : (cols s.bound (lit body k).atom.args).length ≤ 1000 := by have := colsGo_len s.bound (lit body k).atom.args 0; unfold cols; omega
        have HA2 := HA.out
        simp only [bestGo, HK.out, true_and] at HA2
        generalize hnn : (cols s.bound (lit body k).atom.args).length = n at *
        clear hnn
        by_cases hgt : m < (n : Int)
        · rw [if_pos hgt] at HA2
          have HA := Aside0.mk HA2
          clear HA2
          go_wp2
          go_roundg ((ints s.left).length - (kk + 1))
          case measure => omega
          case rel => exact ⟨kk + 1, some k, n, by omega, by omega, rfl, rfl, by go_num, HB, HA⟩
        · rw [if_neg hgt] at HA2
          have HA := Aside0.mk HA2
          clear HA2
          go_wp2
          go_roundg ((ints s.left).length - (kk + 1))
          case measure => omega
          case rel => exact ⟨kk + 1, b, m, by omega, by omega, rfl, rfl, by go_num, HB, HA⟩
      · have hq : ((lit body k).kind != 1) = true := bne_iff_ne.2 hk1
        have HK := Aside0.mk hk1
        clear hk1
        go_wp2
        go_roundg ((ints s.left).length - (kk + 1))
        case measure => omega
        case rel => exact ⟨kk + 1, b, m, by omega, by omega, rfl, rfl, by go_num, BW, ⟨by rw [HA.out]; simp only [bestGo, HK.out, false_and, if_false]⟩⟩
    · have hltz : ¬ (kk : Int) < ((ints s.left).length : Int) := by rw [ints_len]; omega
      obtain rfl : kk = s.left.length := by omega
      go_wp2
      go_ret
      exact ⟨by rw [A.out, drop_all]; rfl, BW.out⟩
end Go.Proofs.Ythpejcnldecmoaa.H

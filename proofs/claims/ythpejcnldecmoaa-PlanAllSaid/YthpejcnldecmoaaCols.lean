import Derived.Test.YthpejcnldecmoaaNames
import Derived.Test.YthpejcnldecmoaaPlanSpec
namespace Go.Proofs.Ythpejcnldecmoaa.H
open Go.RowKit Go.Proofs.YthpejcnldecmoaaW.PrintWords Go.Proofs.YthpejcnldecmoaaW.PrintLast Go.Proofs.YthpejcnldecmoaaW.PrintMore
set_option linter.unusedVariables false
set_option maxHeartbeats 2000000 in
theorem plan_Cols (p : ByteArray) (A0 : Option Addr) (c0 : Nat) (l0 : List Term) (A1 : Option Addr) (c1 : Nat) (l1 : List ByteArray) (w : World) (hr0 : Kd.C kTerm w A0 l0.length l0) (hr1 : Kd.C Kd.string w A1 l1.length l1) (hl : l0.length ≤ 8796093022207) :
    Calls Try.prog 20 #[.agg #[.string p, .slice A0 l0.length c0], .slice A1 l1.length c1] w fun e w' => ∃ v, e = .returned v ∧ Kd.R (Kd.int .i64) 3 w' w.heap.size (fun _ => True) v (cols l1 l0) ∧ Below w.heap.size w w' := by
  have hu := Try.underlying45
  have hu2 := Try.underlying24
  have HR := Aside0.mk hr0
  have HS := Aside0.mk hr1
  clear hr0 hr1
  go_enter Try.func20, Try.ntmps20
  go_wp2
  go_loopg [5, 11] l0.length (fun gg v5 s11 wr => ∃ (kk : Nat) (acc : List Int), kk ≤ l0.length ∧ l0.length - kk ≤ gg ∧ s11 = .int .i64 kk ∧ Aside0 (acc ++ colsGo l1 (l0.drop kk) kk = cols l1 l0) ∧ acc.length ≤ kk ∧ Aside0 (Kd.R (Kd.int .i64) 3 wr w.heap.size (fun _ => True) v5 acc) ∧ Aside0 (Below w.heap.size w wr))
  case atStart => exact ⟨0, [], Nat.zero_le _, by omega, rfl, ⟨rfl⟩, Nat.zero_le _, ⟨Kd.R_nil _ _ _ _ _⟩, ⟨below_alloc (Below.refl _ _) _⟩⟩
  case round =>
    obtain ⟨kk, acc, hkk, hg, rfl, A, hal, HO, HB⟩ := hrel
    by_cases hlt : kk < l0.length
    · have hltz : (kk : Int) < (l0.length : Int) := by omega
      obtain ⟨y, hy⟩ := at_some hlt
      obtain ⟨ad, e1, hx0, hx1, hx2, hx3, hx4⟩ := at_Term HR.out hy
      cases e1
      replace hx0 := Below.old HB.out hx0
      replace hx1 := Below.old HB.out hx1
      replace hx2 := Below.old HB.out hx2
      replace hx3 := Below.old HB.out hx3
      replace hx4 := Below.old HB.out hx4
      have HA := Aside0.mk (A.out.symm.trans (by rw [drop_cons hy]))
      clear A hy
      obtain ⟨Ao, co, rfl, hlc, hc1⟩ := Kd.R_reads HO.out
      have HS1 := Aside0.mk (Kd.C_below HS.out HB.out)
      have hsz := HB.out.size
      clear hc1
      have fin : ∀ {W : World}, True := trivial
      cases hv : y.isVar with
      | false =>
        rw [hv] at hx0
        have hq : (!y.isVar || mem y.name l1) = true := by rw [hv]; rfl
        have HQ := Aside0.mk hq
        clear hq hv
        go_wp2_with (at_builtin; go_must (refine Kd.R_append (Kd.int .i64) (w0 := w) w.heap.size rfl (.tmp 25) (.tmp 27) 31 3 (.int .i64 0) 8 rfl Try.underlying31 infoInt rfl (by decide) (by omega) (.slice Ao acc.length co) acc (kk : Int) [.int .i64 (kk : Int)] (fun _ => True) (fun _ => False) rfl (by go_simp) rfl (fun _ h => h.elim) (fun _ _ => trivial) (Kd.R_alloc HO.out _) (below_alloc HB.out _) (by simp; omega) (by omega) ?_); intro v1 w1 ho1 hb1 hg1 hat1; have HO1 := Aside0.mk ho1; have HB1 := Aside0.mk hb1; clear ho1 hb1 hg1 hat1)
        go_roundg (l0.length - (kk + 1))
        case measure => omega
        case rel => exact ⟨kk + 1, acc ++ [(kk : Int)], by omega, by omega, by go_num, ⟨by rw [HA.out, colsGo, if_pos HQ.out, List.append_assoc]; rfl⟩, by simp; omega, HO1, HB1⟩
      | true =>
        rw [hv] at hx0
        cases hm : mem y.name l1 with
        | true =>
          have hq : (!y.isVar || mem y.name l1) = true := by rw [hv, hm]; rfl
          have HQ := Aside0.mk hq
          have HM := Aside0.mk hm
          clear hq hv hm
          go_wp2_with (first
            | (go_at_call 45; go_must (refine (ContainsString _ _ _ _ _ (Kd.C_alloc HS1.out _)).mono ?_); rintro e w' ⟨rfl, rfl⟩; rw [HM.out])
            | (at_builtin; go_must (refine Kd.R_append (Kd.int .i64) (w0 := w) w.heap.size rfl (.tmp 25) (.tmp 27) 31 3 (.int .i64 0) 8 rfl Try.underlying31 infoInt rfl (by decide) (by omega) (.slice Ao acc.length co) acc (kk : Int) [.int .i64 (kk : Int)] (fun _ => True) (fun _ => False) rfl (by go_simp) rfl (fun _ h => h.elim) (fun _ _ => trivial) (Kd.R_alloc HO.out _) (below_alloc HB.out _) (by simp; omega) (by omega) ?_); intro v1 w1 ho1 hb1 hg1 hat1; have HO1 := Aside0.mk ho1; have HB1 := Aside0.mk hb1; clear ho1 hb1 hg1 hat1))
          go_roundg (l0.length - (kk + 1))
          case measure => omega
          case rel => exact ⟨kk + 1, acc ++ [(kk : Int)], by omega, by omega, by go_num, ⟨by rw [HA.out, colsGo, if_pos HQ.out, List.append_assoc]; rfl⟩, by simp; omega, HO1, HB1⟩
        | false =>
          have hq : (!y.isVar || mem y.name l1) = false := by rw [hv, hm]; rfl
          have HQ := Aside0.mk hq
          have HM := Aside0.mk hm
          clear hq hv hm
          go_wp2_with (go_at_call 45; go_must (refine (ContainsString _ _ _ _ _ (Kd.C_alloc HS1.out _)).mono ?_); rintro e w' ⟨rfl, rfl⟩; rw [HM.out])
          go_roundg (l0.length - (kk + 1))
          case measure => omega
          case rel => exact ⟨kk + 1, acc, by omega, by omega, by go_num, ⟨by rw [HA.out, colsGo, if_neg (by rw [HQ.out]; decide)]⟩, by omega, ⟨Kd.R_alloc HO.out _⟩, ⟨below_alloc HB.out _⟩⟩
    · have hltz : ¬ (kk : Int) < (l0.length : Int) := by omega
      obtain rfl : kk = l0.length := by omega
      go_wp2
      go_ret
      exact ⟨_, rfl, by rw [← A.out, drop_all, colsGo, List.append_nil]; exact HO.out, HB.out⟩
end Go.Proofs.Ythpejcnldecmoaa.H

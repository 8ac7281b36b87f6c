import Derived.Test.YthpejcnldecmoaaStr
import Derived.Test.YthpejcnldecmoaaSafeSpec
namespace Go.Proofs.Ythpejcnldecmoaa.H
open Go.RowKit Go.Proofs.YthpejcnldecmoaaW.PrintWords Go.Proofs.YthpejcnldecmoaaW.PrintLast Go.Proofs.YthpejcnldecmoaaW.PrintMore
set_option linter.unusedVariables false
theorem infoStr : (Try.prog.info? 9).map (fun i => (i.zero, i.size, i.bytes)) = some (some (.string ⟨#[]⟩), 1, 16) := by kernel_rfl
theorem infoInt : (Try.prog.info? 3).map (fun i => (i.zero, i.size, i.bytes)) = some (some (.int .i64 0), 1, 8) := by kernel_rfl

set_option maxHeartbeats 200000 in
theorem safe_names (A0 : Option Addr) (c0 : Nat) (l0 : List Term) (w : World) (hr0 : Kd.C kTerm w A0 l0.length l0) (hl : l0.length ≤ 8796093022207) :
    Calls Try.prog 51 #[.slice A0 l0.length c0] w fun e w' => ∃ v, e = .returned v ∧ Kd.R Kd.string 9 w' w.heap.size (fun _ => True) v (names l0) ∧ Below w.heap.size w w' := by
  have hu := Try.underlying45
  have HR := Aside0.mk hr0
  clear hr0
  go_enter Try.func51, Try.ntmps51
  go_wp2
  go_loopg [3, 8] l0.length (fun gg v3 s8 wr => ∃ (kk : Nat) (acc : List ByteArray), kk ≤ l0.length ∧ l0.length - kk ≤ gg ∧ s8 = .int .i64 kk ∧ Aside0 (namesGo acc (l0.drop kk) = names l0) ∧ acc.length ≤ kk ∧ Aside0 (Kd.R Kd.string 9 wr w.heap.size (fun _ => True) v3 acc) ∧ Aside0 (Below w.heap.size w wr))
  case atStart => exact ⟨0, [], Nat.zero_le _, by omega, rfl, ⟨rfl⟩, Nat.zero_le _, ⟨Kd.R_nil _ _ _ _ _⟩, ⟨Below.refl _ _⟩⟩
  case round =>
    obtain ⟨kk, acc, hkk, hg, rfl, A, hal, HO, HB⟩ := hrel
    by_cases hlt : kk < l0.length
    · have hltz : (kk : Int) < (l0.length : Int) := by omega
      obtain ⟨y, hy⟩ := at_some hlt
      obtain ⟨ad, e1, hx0, hx1, hx2, hx3, hx4⟩ := at_Term HR.out hy
      cases e1
      replace hx0 := Below.old HB.out hx0
      replace hx1 := Below.old HB.out hx1
      replace hx2 := Below.old HB.out hx2
      replace hx3 := Below.old HB.out hx3
      replace hx4 := Below.old HB.out hx4
      have HA := Aside0.mk (A.out.symm.trans (by rw [drop_cons hy]))
      clear A hy
      obtain ⟨A1, c1, rfl, hlc, hc1⟩ := Kd.R_reads HO.out
      have HC := Aside0.mk hc1
      clear hc1
      cases hv : y.isVar with
      | false =>
        rw [hv] at hx0
        have hq : (y.isVar && !mem y.name acc) = false := by rw [hv]; rfl
        have HQ := Aside0.mk hq
        clear hq hv
        go_wp2
        go_roundg (l0.length - (kk + 1))
        case measure => omega
        case rel =>
          exact ⟨kk + 1, acc, by omega, by omega, by go_num, ⟨by rw [HA.out, namesGo, if_neg (by rw [HQ.out]; decide)]⟩, by omega, ⟨Kd.R_alloc HO.out _⟩, ⟨below_alloc HB.out _⟩⟩
      | true =>
        rw [hv] at hx0
        have hsz := HB.out.size
        cases hm : mem y.name acc with
        | true =>
          have hq : (y.isVar && !mem y.name acc) = false := by rw [hv, hm]; rfl
          have HQ := Aside0.mk hq
          have HM := Aside0.mk hm
          clear hq hv hm
          go_wp2_with (go_at_call 45; refine (ContainsString _ _ _ _ _ (Kd.C_alloc HC.out _)).mono ?_; rintro e w' ⟨rfl, rfl⟩; rw [HM.out])
          go_roundg (l0.length - (kk + 1))
          case measure => omega
          case rel => exact ⟨kk + 1, acc, by omega, by omega, by go_num, ⟨by rw [HA.out, namesGo, if_neg (by rw [HQ.out]; decide)]⟩, by omega, ⟨Kd.R_alloc HO.out _⟩, ⟨below_alloc HB.out _⟩⟩
        | false =>
          have hq : (y.isVar && !mem y.name acc) = true := by rw [hv, hm]; rfl
          have HQ := Aside0.mk hq
          have HM := Aside0.mk hm
          clear hq hv hm
          go_wp2_with (first
            | (go_at_call 45; refine (ContainsString _ _ _ _ _ (Kd.C_alloc HC.out _)).mono ?_; rintro e w' ⟨rfl, rfl⟩; rw [HM.out])
            | (at_builtin; go_must (refine Kd.R_append Kd.string (w0 := w) w.heap.size rfl (.tmp 21) (.tmp 24) 28 9 (.string ⟨#[]⟩) 16 rfl Try.underlying28 infoStr rfl (by decide) (by omega) (.slice A1 acc.length c1) acc y.name [.string y.name] (fun _ => True) (fun _ => False) rfl (by go_simp) rfl (fun _ h => h.elim) (fun _ _ => trivial) (Kd.R_alloc HO.out _) (below_alloc HB.out _) (by simp; omega) (by omega) ?_); intro v1 w1 ho1 hb1 hg1 hat1; have HO1 := Aside0.mk ho1; have HB1 := Aside0.mk hb1; clear ho1 hb1 hg1 hat1))
          go_roundg (l0.length - (kk + 1))
          case measure => omega
          case rel => exact ⟨kk + 1, acc ++ [y.name], by omega, by omega, by go_num, ⟨by rw [HA.out, namesGo, if_pos HQ.out]⟩, by simp; omega, HO1, HB1⟩
    · have hltz : ¬ (kk : Int) < (l0.length : Int) := by omega
      obtain rfl : kk = l0.length := by omega
      go_wp2
      go_ret
      exact ⟨_, rfl, by rw [← A.out, drop_all]; exact HO.out, HB.out⟩

theorem safe_Vars (p : ByteArray) (A0 : Option Addr) (c0 : Nat) (l0 : List Term) (w : World) (hr0 : Kd.C kTerm w A0 l0.length l0) (hl : l0.length ≤ 8796093022207) :
    Calls Try.prog 31 #[.agg #[.string p, .slice A0 l0.length c0]] w fun e w' => ∃ v, e = .returned v ∧ Kd.R Kd.string 9 w' w.heap.size (fun _ => True) v (names l0) ∧ Below w.heap.size w w' := by
  have hu := Try.underlying24
  have HR := Aside0.mk hr0
  clear hr0
  go_enter Try.func31, Try.ntmps31
  go_wp2_with (go_at_call 51; go_must (refine (safe_names _ _ _ _ (Kd.C_alloc HR.out _) hl).mono ?_); rintro e w' ⟨v, rfl, hr, hb⟩; have HO := Aside0.mk hr; have HB := Aside0.mk hb; clear hr hb)
  go_ret
  exact ⟨_, rfl, Kd.R_lower HO.out (by simp), Below.then (below_alloc (Below.refl _ _) _) HB.out⟩
end Go.Proofs.Ythpejcnldecmoaa.H

import Derived.Test.YthpejcnldecmoaaNames
namespace Go.Proofs.Ythpejcnldecmoaa.H
open Go.RowKit Go.Proofs.YthpejcnldecmoaaW.PrintWords Go.Proofs.YthpejcnldecmoaaW.PrintLast Go.Proofs.YthpejcnldecmoaaW.PrintMore
set_option linter.unusedVariables false
set_option maxHeartbeats 1000000 in
theorem ref10_Ints (A0 : Option Addr) (c0 : Nat) (l0 : List Int) (A1 : Option Addr) (c1 : Nat) (l1 : List Int) (w : World) (hr0 : Kd.C (Kd.int .i64) w A0 l0.length l0) (hr1 : Kd.C (Kd.int .i64) w A1 l1.length l1) :
    Calls Try.prog 19 #[.slice A0 l0.length c0, .slice A1 l1.length c1] w fun e w' => e = .returned (.bool (decide (l0 = l1))) ∧ Below w.heap.size w w' := by
  have HR := Aside0.mk hr0
  have HS := Aside0.mk hr1
  have hl : l0.length ≤ 9223372036854775807 := hr0.2.1
  clear hr0 hr1
  by_cases hn : l0.length = l1.length
  · have hnz : ((l0.length : Int) != (l1.length : Int)) = false := by rw [hn]; exact bne_self_eq_false _
    have HN := Aside0.mk hn
    go_enter Try.func19, Try.ntmps19
    go_wp2
    go_loopg [5] l0.length (fun gg s5 wr => ∃ (kk : Nat), kk ≤ l0.length ∧ l0.length - kk ≤ gg ∧ s5 = .int .i64 kk ∧ Aside0 (decide (l0 = l1) = decide (l0.drop kk = l1.drop kk)) ∧ Aside0 (Below w.heap.size w wr))
    case atStart => exact ⟨0, Nat.zero_le _, by omega, rfl, ⟨rfl⟩, ⟨Below.refl _ _⟩⟩
    case round =>
      obtain ⟨kk, hkk, hg, rfl, A, HB⟩ := hrel
      by_cases hlt : kk < l0.length
      · have hltz : (kk : Int) < (l0.length : Int) := by omega
        have hlt1 : kk < l1.length := by omega
        have hltz1 : (kk : Int) < (l1.length : Int) := by omega
        obtain ⟨y, hy⟩ := at_some hlt
        obtain ⟨z, hz⟩ := at_some hlt1
        obtain ⟨ad, e1, hx⟩ := at_int HR.out hy
        cases e1
        obtain ⟨ad', e2, hx'⟩ := at_int HS.out hz
        cases e2
        replace hx := Below.old HB.out hx
        replace hx' := Below.old HB.out hx'
        have HA := Aside0.mk (A.out.trans (by rw [drop_cons hy, drop_cons hz]))
        clear A hy hz
        by_cases hq : y = z
        · have hq1 : (y != z) = false := by rw [hq]; exact bne_self_eq_false _
          have HQ := Aside0.mk hq
          clear hq
          go_wp2
          go_quiet (fail)
          rename_i nq
          go_wp2
          go_roundg (l0.length - (kk + 1))
          case measure => omega
          case rel => exact ⟨kk + 1, by omega, by omega, by go_num, ⟨by rw [HA.out, HQ.out]; simp⟩, ⟨Below.then HB.out (pw_below_drewN (Below.refl _ _) _)⟩⟩
        · have hq1 : (y != z) = true := bne_iff_ne.2 hq
          have HQ := Aside0.mk hq
          clear hq
          go_wp2
          go_quiet (fail)
          rename_i nq
          go_wp2
          go_ret
          exact ⟨by rw [HA.out]; simp [HQ.out], Below.then HB.out (pw_below_drewN (Below.refl _ _) _)⟩
      · have hltz : ¬ (kk : Int) < (l0.length : Int) := by omega
        obtain rfl : kk = l0.length := by omega
        go_wp2
        go_ret
        exact ⟨by rw [A.out, drop_all, HN.out, drop_all]; rfl, HB.out⟩
  · have hnz : ((l0.length : Int) != (l1.length : Int)) = true := bne_iff_ne.2 (by omega)
    have HN := Aside0.mk hn
    go_enter Try.func19, Try.ntmps19
    go_wp2
    go_ret
    exact ⟨by rw [decide_eq_false (fun e => HN.out (by rw [e]))]; rfl, Below.refl _ _⟩
end Go.Proofs.Ythpejcnldecmoaa.H

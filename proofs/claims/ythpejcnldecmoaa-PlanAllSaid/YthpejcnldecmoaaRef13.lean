import Derived.Test.YthpejcnldecmoaaRef09
import Derived.Test.YthpejcnldecmoaaPlanLaw
namespace Go.Proofs.Ythpejcnldecmoaa.H
open Go.RowKit Go.Proofs.YthpejcnldecmoaaW.PrintWords Go.Proofs.YthpejcnldecmoaaW.PrintLast Go.Proofs.YthpejcnldecmoaaW.PrintMore
set_option linter.unusedVariables false

set_option maxHeartbeats 1000000 in
theorem ref13_Known (A0 : Option Addr) (c0 : Nat) (l0 : List Term) (A1 : Option Addr) (c1 : Nat) (l1 : List ByteArray) (w : World) (hr0 : Kd.C kTerm w A0 l0.length l0) (hr1 : Kd.C Kd.string w A1 l1.length l1) :
    Calls Try.prog 23 #[.slice A0 l0.length c0, .slice A1 l1.length c1] w fun e w' => e = .returned (.bool (allKnown l1 l0)) ∧ w = w' := by
  have hu := Try.underlying45
  have HR := Aside0.mk hr0
  have HS := Aside0.mk hr1
  have hl : l0.length ≤ 9223372036854775807 := hr0.2.1
  clear hr0 hr1
  go_enter Try.func23, Try.ntmps23
  go_wp2
  go_loop [5] (fun s5 => ∃ kk : Nat, kk ≤ l0.length ∧ s5 = .int .i64 kk ∧ Aside0 (allKnown l1 l0 = allKnown l1 (l0.drop kk))) (fun s5 => l0.length - (intOf s5).toNat)
  case atStart => exact ⟨0, Nat.zero_le _, rfl, ⟨rfl⟩⟩
  case round =>
    obtain ⟨kk, hkk, rfl, A⟩ := hrel
    by_cases hlt : kk < l0.length
    · have hltz : (kk : Int) < (l0.length : Int) := by omega
      obtain ⟨y, hy⟩ := at_some hlt
      obtain ⟨ad, e1, hx0, hx1, hx2, hx3, hx4⟩ := at_Term HR.out hy
      cases e1
      have HA := Aside0.mk (A.out.trans (by rw [drop_cons hy]))
      clear A hy
      cases hv : y.isVar with
      | false =>
        rw [hv] at hx0
        have HQ := Aside0.mk hv
        clear hv
        go_wp2
        go_round
        case measure => simp [intOf]; omega
        case rel => exact ⟨kk + 1, by omega, by go_num, ⟨by rw [HA.out]; simp [allKnown, HQ.out]⟩⟩
      | true =>
        rw [hv] at hx0
        have HQ := Aside0.mk hv
        clear hv
        cases hm : mem y.name l1 with
        | true =>
          have HM := Aside0.mk hm
          clear hm
          go_wp2_with (go_at_call 32; go_must (refine (ref09_In _ _ _ _ _ HS.out).mono ?_); rintro e w' ⟨rfl, rfl⟩; rw [HM.out])
          go_round
          case measure => simp [intOf]; omega
          case rel => exact ⟨kk + 1, by omega, by go_num, ⟨by rw [HA.out]; simp [allKnown, HM.out]⟩⟩
        | false =>
          have HM := Aside0.mk hm
          clear hm
          go_wp2_with (go_at_call 32; go_must (refine (ref09_In _ _ _ _ _ HS.out).mono ?_); rintro e w' ⟨rfl, rfl⟩; rw [HM.out])
          go_ret
          exact ⟨by rw [HA.out]; simp [allKnown, HM.out, HQ.out], rfl⟩
    · have hltz : ¬ (kk : Int) < (l0.length : Int) := by omega
      obtain rfl : kk = l0.length := by omega
      go_wp2
      go_ret
      exact ⟨by rw [A.out]; simp [allKnown], rfl⟩

theorem law13_v (s : ByteArray) (w : World) :
    Calls Try.prog 38 #[.string s] w fun e w' => e = .returned (.agg #[.bool true, .string s, .bool false, .string ⟨#[]⟩, .int .i64 0]) ∧ w' = w.alloc (.cells #[.bool true, .string s, .bool false, .string ⟨#[]⟩, .int .i64 0] 45) := by
  have hu := Try.underlying45
  go_enter Try.func38, Try.ntmps38
  go_wp2
  refine bodyPost_ret (results_cell_row rfl _ _ w.heap.size 45 #[.bool true, .string s, .bool false, .string ⟨#[]⟩, .int .i64 0] (0, 0) _ rfl (heap_alloc_new _ _) Try.underlying45 rfl (by kernel_rfl)) rfl ?_
  exact ⟨rfl, rfl⟩
end Go.Proofs.Ythpejcnldecmoaa.H

import Derived.Test.YthpejcnldecmoaaLib
namespace Go.Proofs.Ythpejcnldecmoaa.H
open Go.RowKit Go.Proofs.YthpejcnldecmoaaW.PrintWords Go.Proofs.YthpejcnldecmoaaW.PrintLast Go.Proofs.YthpejcnldecmoaaW.PrintMore
set_option linter.unusedVariables false

set_option maxHeartbeats 1000000 in
theorem IndexString (A0 : Option Addr) (c0 : Nat) (l0 : List ByteArray) (s : ByteArray) (w : World) (hr0 : Kd.C Kd.string w A0 l0.length l0) :
    Calls Try.prog 60 #[.slice A0 l0.length c0, .string s] w fun e w' => e = .returned (.int .i64 (idxP (fun x => decide (s = x)) l0 0)) ∧ w = w' := by
  have HR := Aside0.mk hr0
  have hl : l0.length ≤ 9223372036854775807 := hr0.2.1
  clear hr0
  go_enter Try.func60, Try.ntmps60
  go_wp2
  go_loop [5, 8] (fun _ s8 => ∃ kk : Nat, kk ≤ l0.length ∧ s8 = .int .i64 kk ∧ Aside0 (idxP (fun x => decide (s = x)) l0 0 = idxP (fun x => decide (s = x)) (l0.drop kk) kk)) (fun _ s8 => l0.length - (intOf s8).toNat)
  case atStart => exact ⟨0, Nat.zero_le _, rfl, ⟨rfl⟩⟩
  case round =>
    obtain ⟨kk, hkk, rfl, A⟩ := hrel
    by_cases hlt : kk < l0.length
    · have hltz : (kk : Int) < (l0.length : Int) := by omega
      obtain ⟨y, hy⟩ := at_some hlt
      obtain ⟨ad, e1, hx⟩ := at_str HR.out hy
      cases e1
      have HA := Aside0.mk (A.out.trans (by rw [drop_cons hy]))
      clear A hy
      by_cases hq : s = y
      · obtain ⟨q1, q2⟩ := ba_beq hq
        have HQ := Aside0.mk hq
        clear hq
        go_wp2
        go_ret
        exact ⟨by rw [HA.out, idxP, if_pos (by simpa using HQ.out)]; rfl, rfl⟩
      · obtain ⟨q1, q2⟩ := ba_bne hq
        have HQ := Aside0.mk hq
        clear hq
        go_wp2
        go_round
        case measure => simp [intOf]; omega
        case rel => exact ⟨kk + 1, by omega, by go_num, ⟨by rw [HA.out, idxP, if_neg (by simpa using HQ.out)]⟩⟩
    · have hltz : ¬ (kk : Int) < (l0.length : Int) := by omega
      obtain rfl : kk = l0.length := by omega
      go_wp2
      go_ret
      exact ⟨by rw [A.out]; simp [idxP], rfl⟩

theorem ContainsString (A0 : Option Addr) (c0 : Nat) (l0 : List ByteArray) (s : ByteArray) (w : World) (hr0 : Kd.C Kd.string w A0 l0.length l0) :
    Calls Try.prog 45 #[.slice A0 l0.length c0, .string s] w fun e w' => e = .returned (.bool (mem s l0)) ∧ w = w' := by
  have HR := Aside0.mk hr0
  clear hr0
  go_enter Try.func45, Try.ntmps45
  go_wp2_with (go_at_call 60; refine (IndexString _ _ _ _ _ HR.out).mono ?_; rintro e w' ⟨rfl, rfl⟩)
  go_ret
  exact ⟨by rw [mem, ← idxP_any]; rfl, rfl⟩
end Go.Proofs.Ythpejcnldecmoaa.H

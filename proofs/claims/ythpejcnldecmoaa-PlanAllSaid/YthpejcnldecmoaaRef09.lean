import Derived.Test.YthpejcnldecmoaaNames
namespace Go.Proofs.Ythpejcnldecmoaa.H
open Go.RowKit Go.Proofs.YthpejcnldecmoaaW.PrintWords Go.Proofs.YthpejcnldecmoaaW.PrintLast Go.Proofs.YthpejcnldecmoaaW.PrintMore
set_option linter.unusedVariables false

set_option maxHeartbeats 1000000 in
theorem ref09_In (A0 : Option Addr) (c0 : Nat) (l0 : List ByteArray) (s : ByteArray) (w : World) (hr0 : Kd.C Kd.string w A0 l0.length l0) :
    Calls Try.prog 32 #[.slice A0 l0.length c0, .string s] w fun e w' => e = .returned (.bool (mem s l0)) ∧ w = w' := by
  have HR := Aside0.mk hr0
  have hl : l0.length ≤ 9223372036854775807 := hr0.2.1
  clear hr0
  go_enter Try.func32, Try.ntmps32
  go_wp2
  go_loop [5] (fun s5 => ∃ kk : Nat, kk ≤ l0.length ∧ s5 = .int .i64 kk ∧ Aside0 (mem s l0 = mem s (l0.drop kk))) (fun s5 => l0.length - (intOf s5).toNat)
  case atStart => exact ⟨0, Nat.zero_le _, rfl, ⟨rfl⟩⟩
  case round =>
    obtain ⟨kk, hkk, rfl, A⟩ := hrel
    by_cases hlt : kk < l0.length
    · have hltz : (kk : Int) < (l0.length : Int) := by omega
      obtain ⟨y, hy⟩ := at_some hlt
      obtain ⟨ad, e1, hx⟩ := at_str HR.out hy
      cases e1
      have HA := Aside0.mk (A.out.trans (by rw [drop_cons hy]))
      clear A hy
      by_cases hq : y = s
      · obtain ⟨q1, q2⟩ := ba_beq hq
        have HQ := Aside0.mk hq
        clear hq
        go_wp2
        go_ret
        exact ⟨by rw [HA.out, HQ.out]; simp [mem], rfl⟩
      · obtain ⟨q1, q2⟩ := ba_bne hq
        have HQ := Aside0.mk (show ¬ s = y from fun e => hq e.symm)
        clear hq
        go_wp2
        go_round
        case measure => simp [intOf]; omega
        case rel => exact ⟨kk + 1, by omega, by go_num, ⟨by rw [HA.out]; simp [mem, HQ.out]⟩⟩
    · have hltz : ¬ (kk : Int) < (l0.length : Int) := by omega
      obtain rfl : kk = l0.length := by omega
      go_wp2
      go_ret
      exact ⟨by rw [A.out]; simp [mem], rfl⟩

set_option maxHeartbeats 1000000 in
theorem ref09_Vars (p : ByteArray) (A0 : Option Addr) (c0 : Nat) (l0 : List Term) (w : World) (hr0 : Kd.C kTerm w A0 l0.length l0) (hl : l0.length ≤ 8796093022207) :
    Calls Try.prog 22 #[.agg #[.string p, .slice A0 l0.length c0]] w fun e w' => ∃ v, e = .returned v ∧ Kd.R Kd.string 9 w' w.heap.size (fun _ => True) v (names l0) ∧ Below w.heap.size w w' := by
  have hu := Try.underlying45
  have hu2 := Try.underlying24
  have HR := Aside0.mk hr0
  clear hr0
  go_enter Try.func22, Try.ntmps22
  go_wp2
  have hbx : (w.alloc (.cells #[.string p, .slice A0 l0.length c0] 24)).cell? ⟨w.heap.size, 1, none⟩ = some (.slice A0 l0.length c0) := by go_simp
  have HB0 := Aside0.mk (below_alloc (Below.refl w.heap.size w) (.cells #[.string p, .slice A0 l0.length c0] 24))
  have HR0 := Aside0.mk (Kd.C_alloc HR.out (.cells #[.string p, .slice A0 l0.length c0] 24))
  have hz0 : w.heap.size < (w.alloc (.cells #[.string p, .slice A0 l0.length c0] 24)).heap.size := by simp
  generalize w.alloc (.cells #[.string p, .slice A0 l0.length c0] 24) = w0 at *
  go_loopg [3, 4] l0.length (fun gg v3 s4 wr => ∃ (kk : Nat) (acc : List ByteArray), kk ≤ l0.length ∧ l0.length - kk ≤ gg ∧ s4 = .int .i64 kk ∧ Aside0 (namesGo acc (l0.drop kk) = names l0) ∧ acc.length ≤ kk ∧ Aside0 (Kd.R Kd.string 9 wr w0.heap.size (fun _ => True) v3 acc) ∧ Aside0 (Below w0.heap.size w0 wr))
  case atStart => exact ⟨0, [], Nat.zero_le _, by omega, rfl, ⟨rfl⟩, Nat.zero_le _, ⟨Kd.R_nil _ _ _ _ _⟩, ⟨Below.refl _ _⟩⟩
  case round =>
    obtain ⟨kk, acc, hkk, hg, rfl, A, hal, HO, HB⟩ := hrel
    replace hbx := Below.old HB.out hbx
    have hsz := HB.out.size
    have hz : w.heap.size < wr.heap.size := by omega
    by_cases hlt : kk < l0.length
    · have hltz : (kk : Int) < (l0.length : Int) := by omega
      obtain ⟨y, hy⟩ := at_some hlt
      obtain ⟨ad, e1, hx0, hx1, hx2, hx3, hx4⟩ := at_Term HR0.out hy
      cases e1
      replace hx0 := Below.old HB.out hx0
      replace hx1 := Below.old HB.out hx1
      replace hx2 := Below.old HB.out hx2
      replace hx3 := Below.old HB.out hx3
      replace hx4 := Below.old HB.out hx4
      have HA := Aside0.mk (A.out.symm.trans (by rw [drop_cons hy]))
      clear A hy
      obtain ⟨A1, c1, rfl, hlc, hc1⟩ := Kd.R_reads HO.out
      have HC := Aside0.mk hc1
      clear hc1
      cases hv : y.isVar with
      | false =>
        rw [hv] at hx0
        have hq : (y.isVar && !mem y.name acc) = false := by rw [hv]; rfl
        have HQ := Aside0.mk hq
        clear hq hv
        go_wp2
        go_roundg (l0.length - (kk + 1))
        case measure => omega
        case rel =>
          exact ⟨kk + 1, acc, by omega, by omega, by go_num, ⟨by rw [HA.out, namesGo, if_neg (by rw [HQ.out]; decide)]⟩, by omega, ⟨Kd.R_alloc HO.out _⟩, ⟨below_alloc HB.out _⟩⟩
      | true =>
        rw [hv] at hx0
        cases hm : mem y.name acc with
        | true =>
          have hq : (y.isVar && !mem y.name acc) = false := by rw [hv, hm]; rfl
          have HQ := Aside0.mk hq
          have HM := Aside0.mk hm
          clear hq hv hm
          go_wp2_with (go_at_call 32; go_must (refine (ref09_In _ _ _ _ _ (Kd.C_alloc HC.out _)).mono ?_); rintro e w' ⟨rfl, rfl⟩; rw [HM.out])
          go_roundg (l0.length - (kk + 1))
          case measure => omega
          case rel => exact ⟨kk + 1, acc, by omega, by omega, by go_num, ⟨by rw [HA.out, namesGo, if_neg (by rw [HQ.out]; decide)]⟩, by omega, ⟨Kd.R_alloc HO.out _⟩, ⟨below_alloc HB.out _⟩⟩
        | false =>
          have hq : (y.isVar && !mem y.name acc) = true := by rw [hv, hm]; rfl
          have HQ := Aside0.mk hq
          have HM := Aside0.mk hm
          clear hq hv hm
          go_wp2_with (first
            | (go_at_call 32; go_must (refine (ref09_In _ _ _ _ _ (Kd.C_alloc HC.out _)).mono ?_); rintro e w' ⟨rfl, rfl⟩; rw [HM.out])
            | (at_builtin; go_must (refine Kd.R_append Kd.string (w0 := w0) w0.heap.size rfl (.tmp 27) (.tmp 30) 28 9 (.string ⟨#[]⟩) 16 rfl Try.underlying28 infoStr rfl (by decide) (by omega) (.slice A1 acc.length c1) acc y.name [.string y.name] (fun _ => True) (fun _ => False) rfl (by go_simp) rfl (fun _ h => h.elim) (fun _ _ => trivial) (Kd.R_alloc HO.out _) (below_alloc HB.out _) (by simp; omega) (by omega) ?_); intro v1 w1 ho1 hb1 hg1 hat1; have HO1 := Aside0.mk ho1; have HB1 := Aside0.mk hb1; clear ho1 hb1 hg1 hat1))
          go_roundg (l0.length - (kk + 1))
          case measure => omega
          case rel => exact ⟨kk + 1, acc ++ [y.name], by omega, by omega, by go_num, ⟨by rw [HA.out, namesGo, if_pos HQ.out]⟩, by simp; omega, HO1, HB1⟩
    · have hltz : ¬ (kk : Int) < (l0.length : Int) := by omega
      obtain rfl : kk = l0.length := by omega
      go_wp2
      go_ret
      exact ⟨_, rfl, by rw [← A.out, drop_all]; exact Kd.R_lower HO.out (by omega), Below.then HB0.out HB.out⟩
end Go.Proofs.Ythpejcnldecmoaa.H

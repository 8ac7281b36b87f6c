/- Texts of this seat that its laws share, joined. -/
import Derived.Test.YthpejcnldecmoaaMA
import Derived.Test.YthpejcnldecmoaaMB
namespace Go.Proofs.Ythpejcnldecmoaa.H
open Go.RowKit Go.Proofs.YthpejcnldecmoaaW.PrintWords Go.Proofs.YthpejcnldecmoaaW.PrintLast Go.Proofs.YthpejcnldecmoaaW.PrintMore
set_option linter.unusedVariables false

set_option maxHeartbeats 1000000 in
theorem ref09_In (A0 : Option Addr) (c0 : Nat) (l0 : List ByteArray) (s : ByteArray) (w : World) (hr0 : Kd.C Kd.string w A0 l0.length l0) :
    Calls Try.prog 32 #[.slice A0 l0.length c0, .string s] w fun e w' => e = .returned (.bool (mem s l0)) ∧ w = w' := by
  have HR := Aside0.mk hr0
  have hl : l0.length ≤ 9223372036854775807 := hr0.2.1
  clear hr0
  go_enter Try.func32, Try.ntmps32
  go_wp2
  go_loop [5] (fun s5 => ∃ kk : Nat, kk ≤ l0.length ∧ s5 = .int .i64 kk ∧ Aside0 (mem s l0 = mem s (l0.drop kk))) (fun s5 => l0.length - (intOf s5).toNat)
  case atStart => exact ⟨0, Nat.zero_le _, rfl, ⟨rfl⟩⟩
  case round =>
    obtain ⟨kk, hkk, rfl, A⟩ := hrel
    by_cases hlt : kk < l0.length
    · have hltz : (kk : Int) < (l0.length : Int) := by omega
      obtain ⟨y, hy⟩ := at_some hlt
      obtain ⟨ad, e1, hx⟩ := at_str HR.out hy
      cases e1
      have HA := Aside0.mk (A.out.trans (by rw [drop_cons hy]))
      clear A hy
      by_cases hq : y = s
      · obtain ⟨q1, q2⟩ := ba_beq hq
        have HQ := Aside0.mk hq
        clear hq
        go_wp2
        go_ret
        exact ⟨by rw [HA.out, HQ.out]; simp [mem], rfl⟩
      · obtain ⟨q1, q2⟩ := ba_bne hq
        have HQ := Aside0.mk (show ¬ s = y from fun e => hq e.symm)
        clear hq
        go_wp2
        go_round
        case measure => simp [intOf]; omega
        case rel => exact ⟨kk + 1, by omega, by go_num, ⟨by rw [HA.out]; simp [mem, HQ.out]⟩⟩
    · have hltz : ¬ (kk : Int) < (l0.length : Int) := by omega
      obtain rfl : kk = l0.length := by omega
      go_wp2
      go_ret
      exact ⟨by rw [A.out]; simp [mem], rfl⟩

set_option maxHeartbeats 1000000 in
theorem ref09_Vars (p : ByteArray) (A0 : Option Addr) (c0 : Nat) (l0 : List Term) (w : World) (hr0 : Kd.C k45 w A0 l0.length l0) (hl : l0.length ≤ 8796093022207) :
    Calls Try.prog 22 #[.agg #[.string p, .slice A0 l0.length c0]] w fun e w' => ∃ v, e = .returned v ∧ Kd.R Kd.string 9 w' w.heap.size (fun _ => True) v (names l0) ∧ Below w.heap.size w w' := by
  have hu := Try.underlying45
  have hu2 := Try.underlying24
  have HR := Aside0.mk hr0
  clear hr0
  go_enter Try.func22, Try.ntmps22
  go_wp2
  have hbx : (w.alloc (.cells #[.string p, .slice A0 l0.length c0] 24)).cell? ⟨w.heap.size, 1, none⟩ = some (.slice A0 l0.length c0) := by go_simp
  have HB0 := Aside0.mk (below_alloc (Below.refl w.heap.size w) (.cells #[.string p, .slice A0 l0.length c0] 24))
  have HR0 := Aside0.mk (Kd.C_alloc HR.out (.cells #[.string p, .slice A0 l0.length c0] 24))
  have hz0 : w.heap.size < (w.alloc (.cells #[.string p, .slice A0 l0.length c0] 24)).heap.size := by simp
  generalize w.alloc (.cells #[.string p, .slice A0 l0.length c0] 24) = w0 at *
  go_loopg [3, 4] l0.length (fun gg v3 s4 wr => ∃ (kk : Nat) (acc : List ByteArray), kk ≤ l0.length ∧ l0.length - kk ≤ gg ∧ s4 = .int .i64 kk ∧ Aside0 (namesGo acc (l0.drop kk) = names l0) ∧ acc.length ≤ kk ∧ Aside0 (Kd.R Kd.string 9 wr w0.heap.size (fun _ => True) v3 acc) ∧ Aside0 (Below w0.heap.size w0 wr))
  case atStart => exact ⟨0, [], Nat.zero_le _, by omega, rfl, ⟨rfl⟩, Nat.zero_le _, ⟨Kd.R_nil _ _ _ _ _⟩, ⟨Below.refl _ _⟩⟩
  case round =>
    obtain ⟨kk, acc, hkk, hg, rfl, A, hal, HO, HB⟩ := hrel
    replace hbx := Below.old HB.out hbx
    have hsz := HB.out.size
    have hz : w.heap.size < wr.heap.size := by omega
    by_cases hlt : kk < l0.length
    · have hltz : (kk : Int) < (l0.length : Int) := by omega
      obtain ⟨y, hy⟩ := at_some hlt
      obtain ⟨ad, e1, hx0, hx1, hx2, hx3, hx4⟩ := at_Term HR0.out hy
      cases e1
      replace hx0 := Below.old HB.out hx0
      replace hx1 := Below.old HB.out hx1
      replace hx2 := Below.old HB.out hx2
      replace hx3 := Below.old HB.out hx3
      replace hx4 := Below.old HB.out hx4
      have HA := Aside0.mk (A.out.symm.trans (by rw [drop_cons hy]))
      clear A hy
      obtain ⟨A1, c1, rfl, hlc, hc1⟩ := Kd.R_reads HO.out
      have HC := Aside0.mk hc1
      clear hc1
      cases hv : y.isVar with
      | false =>
        rw [hv] at hx0
        have hq : (y.isVar && !mem y.name acc) = false := by rw [hv]; rfl
        have HQ := Aside0.mk hq
        clear hq hv
        go_wp2
        go_roundg (l0.length - (kk + 1))
        case measure => omega
        case rel =>
          exact ⟨kk + 1, acc, by omega, by omega, by go_num, ⟨by rw [HA.out, namesGo, if_neg (by rw [HQ.out]; decide)]⟩, by omega, ⟨Kd.R_alloc HO.out _⟩, ⟨below_alloc HB.out _⟩⟩
      | true =>
        rw [hv] at hx0
        cases hm : mem y.name acc with
        | true =>
          have hq : (y.isVar && !mem y.name acc) = false := by rw [hv, hm]; rfl
          have HQ := Aside0.mk hq
          have HM := Aside0.mk hm
          clear hq hv hm
          go_wp2_with (go_at_call 32; go_must (refine (ref09_In _ _ _ _ _ (Kd.C_alloc HC.out _)).mono ?_); rintro e w' ⟨rfl, rfl⟩; rw [HM.out])
          go_roundg (l0.length - (kk + 1))
          case measure => omega
          case rel => exact ⟨kk + 1, acc, by omega, by omega, by go_num, ⟨by rw [HA.out, namesGo, if_neg (by rw [HQ.out]; decide)]⟩, by omega, ⟨Kd.R_alloc HO.out _⟩, ⟨below_alloc HB.out _⟩⟩
        | false =>
          have hq : (y.isVar && !mem y.name acc) = true := by rw [hv, hm]; rfl
          have HQ := Aside0.mk hq
          have HM := Aside0.mk hm
          clear hq hv hm
          go_wp2_with (first
            | (go_at_call 32; go_must (refine (ref09_In _ _ _ _ _ (Kd.C_alloc HC.out _)).mono ?_); rintro e w' ⟨rfl, rfl⟩; rw [HM.out])
            | (at_builtin; go_must (refine Kd.R_append Kd.string (w0 := w0) w0.heap.size rfl (.tmp 27) (.tmp 30) 28 9 (.string ⟨#[]⟩) 16 rfl Try.underlying28 infoStr rfl (by decide) (by omega) (.slice A1 acc.length c1) acc y.name [.string y.name] (fun _ => True) (fun _ => False) rfl (by go_simp) rfl (fun _ h => h.elim) (fun _ _ => trivial) (Kd.R_alloc HO.out _) (below_alloc HB.out _) (by simp; omega) (by omega) ?_); intro v1 w1 ho1 hb1 hg1 hat1; have HO1 := Aside0.mk ho1; have HB1 := Aside0.mk hb1; clear ho1 hb1 hg1 hat1))
          go_roundg (l0.length - (kk + 1))
          case measure => omega
          case rel => exact ⟨kk + 1, acc ++ [y.name], by omega, by omega, by go_num, ⟨by rw [HA.out, namesGo, if_pos HQ.out]⟩, by simp; omega, HO1, HB1⟩
    · have hltz : ¬ (kk : Int) < (l0.length : Int) := by omega
      obtain rfl : kk = l0.length := by omega
      go_wp2
      go_ret
      exact ⟨_, rfl, by rw [← A.out, drop_all]; exact Kd.R_lower HO.out (by omega), Below.then HB0.out HB.out⟩
end Go.Proofs.Ythpejcnldecmoaa.H
namespace Go.Proofs.Ythpejcnldecmoaa.H
open Go.RowKit Go.Proofs.YthpejcnldecmoaaW.PrintWords Go.Proofs.YthpejcnldecmoaaW.PrintLast Go.Proofs.YthpejcnldecmoaaW.PrintMore
set_option linter.unusedVariables false

set_option maxHeartbeats 1000000 in
theorem ref13_Known (A0 : Option Addr) (c0 : Nat) (l0 : List Term) (A1 : Option Addr) (c1 : Nat) (l1 : List ByteArray) (w : World) (hr0 : Kd.C k45 w A0 l0.length l0) (hr1 : Kd.C Kd.string w A1 l1.length l1) :
    Calls Try.prog 23 #[.slice A0 l0.length c0, .slice A1 l1.length c1] w fun e w' => e = .returned (.bool (allKnown l1 l0)) ∧ w = w' := by
  have hu := Try.underlying45
  have HR := Aside0.mk hr0
  have HS := Aside0.mk hr1
  have hl : l0.length ≤ 9223372036854775807 := hr0.2.1
  clear hr0 hr1
  go_enter Try.func23, Try.ntmps23
  go_wp2
  go_loop [5] (fun s5 => ∃ kk : Nat, kk ≤ l0.length ∧ s5 = .int .i64 kk ∧ Aside0 (allKnown l1 l0 = allKnown l1 (l0.drop kk))) (fun s5 => l0.length - (intOf s5).toNat)
  case atStart => exact ⟨0, Nat.zero_le _, rfl, ⟨rfl⟩⟩
  case round =>
    obtain ⟨kk, hkk, rfl, A⟩ := hrel
    by_cases hlt : kk < l0.length
    · have hltz : (kk : Int) < (l0.length : Int) := by omega
      obtain ⟨y, hy⟩ := at_some hlt
      obtain ⟨ad, e1, hx0, hx1, hx2, hx3, hx4⟩ := at_Term HR.out hy
      cases e1
      have HA := Aside0.mk (A.out.trans (by rw [drop_cons hy]))
      clear A hy
      cases hv : y.isVar with
      | false =>
        rw [hv] at hx0
        have HQ := Aside0.mk hv
        clear hv
        go_wp2
        go_round
        case measure => simp [intOf]; omega
        case rel => exact ⟨kk + 1, by omega, by go_num, ⟨by rw [HA.out]; simp [allKnown, HQ.out]⟩⟩
      | true =>
        rw [hv] at hx0
        have HQ := Aside0.mk hv
        clear hv
        cases hm : mem y.name l1 with
        | true =>
          have HM := Aside0.mk hm
          clear hm
          go_wp2_with (go_at_call 32; go_must (refine (ref09_In _ _ _ _ _ HS.out).mono ?_); rintro e w' ⟨rfl, rfl⟩; rw [HM.out])
          go_round
          case measure => simp [intOf]; omega
          case rel => exact ⟨kk + 1, by omega, by go_num, ⟨by rw [HA.out]; simp [allKnown, HM.out]⟩⟩
        | false =>
          have HM := Aside0.mk hm
          clear hm
          go_wp2_with (go_at_call 32; go_must (refine (ref09_In _ _ _ _ _ HS.out).mono ?_); rintro e w' ⟨rfl, rfl⟩; rw [HM.out])
          go_ret
          exact ⟨by rw [HA.out]; simp [allKnown, HM.out, HQ.out], rfl⟩
    · have hltz : ¬ (kk : Int) < (l0.length : Int) := by omega
      obtain rfl : kk = l0.length := by omega
      go_wp2
      go_ret
      exact ⟨by rw [A.out]; simp [allKnown], rfl⟩

theorem law13_v (s : ByteArray) (w : World) :
    Calls Try.prog 38 #[.string s] w fun e w' => e = .returned (.agg #[.bool true, .string s, .bool false, .string ⟨#[]⟩, .int .i64 0]) ∧ w' = w.alloc (.cells #[.bool true, .string s, .bool false, .string ⟨#[]⟩, .int .i64 0] 45) := by
  have hu := Try.underlying45
  go_enter Try.func38, Try.ntmps38
  go_wp2
  refine bodyPost_ret (results_cell_row rfl _ _ w.heap.size 45 #[.bool true, .string s, .bool false, .string ⟨#[]⟩, .int .i64 0] (0, 0) _ rfl (heap_alloc_new _ _) Try.underlying45 rfl (by kernel_rfl)) rfl ?_
  exact ⟨rfl, rfl⟩
end Go.Proofs.Ythpejcnldecmoaa.H
namespace Go.Proofs.Ythpejcnldecmoaa.H
open Go.RowKit Go.Proofs.YthpejcnldecmoaaW.PrintWords Go.Proofs.YthpejcnldecmoaaW.PrintLast Go.Proofs.YthpejcnldecmoaaW.PrintMore
set_option linter.unusedVariables false

set_option maxHeartbeats 1000000 in
theorem ref13_Terms (w : World) (y : Liter) (A2 : Option Addr) (c2 : Nat) (hl : y.atom.args.length ≤ c2) (hg : Kd.C k45 w A2 y.atom.args.length y.atom.args) :
    Calls Try.prog 24 #[.agg #[.int .i64 y.kind, .string y.atom.pred, .slice A2 y.atom.args.length c2, .string y.op, .bool y.l.isVar, .string y.l.name, .bool y.l.val.isSym, .string y.l.val.sym, .int .i64 y.l.val.n, .bool y.r.isVar, .string y.r.name, .bool y.r.val.isSym, .string y.r.val.sym, .int .i64 y.r.val.n]] w fun e w' => ∃ A c, e = .returned (.slice A (litTerms y).length c) ∧ Kd.C k45 w' A (litTerms y).length (litTerms y) ∧ Below w.heap.size w w' := by
  have hu := Try.underlying45
  have hu2 := Try.underlying24
  have hu3 := Try.underlying47
  have HG := Aside0.mk hg
  clear hg
  by_cases hk : y.kind = 3
  · have hk1 : (y.kind == 3) = true := beq_iff_eq.2 hk
    have HK := Aside0.mk hk
    clear hk
    go_enter Try.func24, Try.ntmps24
    go_wp2
    go_ret
    have ht : litTerms y = [y.l, y.r] := by rw [litTerms, if_pos HK.out]
    rw [ht]
    exact ⟨_, _, rfl, C_cells (blk_new' (by simp) _) (reps_two _ _ _) (by simp), below_alloc (below_alloc (Below.refl _ _) _) _⟩
  · have hk1 : (y.kind == 3) = false := beq_eq_false_iff_ne.2 hk
    have HK := Aside0.mk hk
    clear hk
    go_enter Try.func24, Try.ntmps24
    go_wp2
    go_ret
    have ht : litTerms y = y.atom.args := by rw [litTerms, if_neg HK.out]
    rw [ht]
    exact ⟨_, _, rfl, Kd.C_alloc HG.out _, below_alloc (Below.refl _ _) _⟩

/-- what the laws ask of a rule's size -/
def few (l : List Liter) : Bool := decide (l.length ≤ 20) && l.all fun y => decide (y.atom.args.length ≤ 20)

set_option maxHeartbeats 1000000 in
theorem law13_few (w : World) (p : ByteArray) (Ah : Option Addr) (nh ch : Nat) (A0 : Option Addr) (c0 : Nat) (l0 : List Liter) (hbody : Kd.C k47 w A0 l0.length l0) :
    Calls Try.prog 16 #[.agg #[.string p, .slice Ah nh ch, .slice A0 l0.length c0]] w fun e w' => e = .returned (.bool (few l0)) ∧ Below w.heap.size w w' := by
  have hu := Try.underlying27
  have hu2 := Try.underlying24
  have hu3 := Try.underlying47
  have HR := Aside0.mk hbody
  have hl : l0.length ≤ 9223372036854775807 := hbody.2.1
  clear hbody
  go_enter Try.func16, Try.ntmps16
  go_wp2
  have hbx : (w.alloc (.cells #[.string p, .slice Ah nh ch, .slice A0 l0.length c0] 27)).cell? ⟨w.heap.size, 2, none⟩ = some (.slice A0 l0.length c0) := by go_simp
  have HB0 := Aside0.mk (below_alloc (Below.refl w.heap.size w) (.cells #[.string p, .slice Ah nh ch, .slice A0 l0.length c0] 27))
  have HR0 := Aside0.mk (Kd.C_alloc HR.out (.cells #[.string p, .slice Ah nh ch, .slice A0 l0.length c0] 27))
  have hz0 : w.heap.size < (w.alloc (.cells #[.string p, .slice Ah nh ch, .slice A0 l0.length c0] 27)).heap.size := by simp
  generalize w.alloc (.cells #[.string p, .slice Ah nh ch, .slice A0 l0.length c0] 27) = w0 at *
  go_loop [3] (fun s3 => ∃ kk : Nat, kk ≤ l0.length ∧ kk ≤ 21 ∧ s3 = .int .i64 kk ∧ Aside0 (∀ j, j < kk → ∀ y, l0[j]? = some y → y.atom.args.length ≤ 20)) (fun s3 => l0.length - (intOf s3).toNat)
  case atStart => exact ⟨0, Nat.zero_le _, by omega, rfl, ⟨fun j hj => by omega⟩⟩
  case round =>
    obtain ⟨kk, hkk, h21, rfl, A⟩ := hrel
    by_cases hlt : kk < l0.length
    · have hltz : (kk : Int) < (l0.length : Int) := by omega
      by_cases h20 : kk < 21
      · have h20z : (kk : Int) < 21 := by omega
        obtain ⟨y, hy⟩ := at_some hlt
        obtain ⟨ad, A2, c2, e1, hx0, hx1, hx2, hx3, hx4, hx5, hx6, hx7, hx8, hx9, hx10, hx11, hx12, hx13, l2, g2⟩ := at_Liter HR0.out hy
        cases e1
        have HY := Aside0.mk hy
        clear hy
        by_cases hq : y.atom.args.length ≤ 20
        · have hq1 : ¬ (20 : Int) < (y.atom.args.length : Int) := by omega
          go_wp2
          go_round
          case measure => simp [intOf]; omega
          case rel =>
            refine ⟨kk + 1, by omega, by omega, by go_num, ⟨fun j hj z hz => ?_⟩⟩
            by_cases hjk : j < kk
            · exact A.out j hjk z hz
            · obtain rfl : j = kk := by omega
              have := HY.out
              rw [hz] at this
              cases this
              exact hq
        · have hq1 : (20 : Int) < (y.atom.args.length : Int) := by omega
          go_wp2
          go_ret
          refine ⟨?_, HB0.out⟩
          have : few l0 = false := by
            rw [few, Bool.and_eq_false_iff]
            right
            rw [List.all_eq_false]
            exact ⟨y, List.mem_of_getElem? HY.out, by simpa using hq⟩
          rw [this]; rfl
      · have h20z : ¬ (kk : Int) < 21 := by omega
        have hq1 : ¬ (l0.length : Int) ≤ 20 := by omega
        go_wp2
        go_ret
        refine ⟨?_, HB0.out⟩
        have : few l0 = false := by
          rw [few, Bool.and_eq_false_iff]
          left
          first | (simp; done) | (simp; omega)
        rw [this]
        first | (simp; done) | (simp; omega)
    · have hltz : ¬ (kk : Int) < (l0.length : Int) := by omega
      obtain rfl : kk = l0.length := by omega
      have hall : (l0.all fun y => decide (y.atom.args.length ≤ 20)) = true := by
        rw [List.all_eq_true]
        intro y hy
        obtain ⟨i, hi, rfl⟩ := List.mem_iff_getElem.1 hy
        simpa using A.out i hi _ (List.getElem?_eq_getElem hi)
      have HA := Aside0.mk hall
      clear hall A
      go_wp2
      go_ret
      refine ⟨?_, HB0.out⟩
      rw [few, HA.out, Bool.and_true]
      have : decide ((l0.length : Int) ≤ 20) = decide (l0.length ≤ 20) := by first | (simp; done) | (simp; omega)
      first | rw [← this]; rfl | rw [← this] | (simp; omega)
end Go.Proofs.Ythpejcnldecmoaa.H
namespace Go.Proofs.Ythpejcnldecmoaa.H
open Go.RowKit Go.Proofs.YthpejcnldecmoaaW.PrintWords Go.Proofs.YthpejcnldecmoaaW.PrintLast Go.Proofs.YthpejcnldecmoaaW.PrintMore
set_option linter.unusedVariables false
set_option maxHeartbeats 1000000 in
theorem ref10_Ints (A0 : Option Addr) (c0 : Nat) (l0 : List Int) (A1 : Option Addr) (c1 : Nat) (l1 : List Int) (w : World) (hr0 : Kd.C (Kd.int .i64) w A0 l0.length l0) (hr1 : Kd.C (Kd.int .i64) w A1 l1.length l1) :
    Calls Try.prog 19 #[.slice A0 l0.length c0, .slice A1 l1.length c1] w fun e w' => e = .returned (.bool (decide (l0 = l1))) ∧ Below w.heap.size w w' := by
  have HR := Aside0.mk hr0
  have HS := Aside0.mk hr1
  have hl : l0.length ≤ 9223372036854775807 := hr0.2.1
  clear hr0 hr1
  by_cases hn : l0.length = l1.length
  · have hnz : ((l0.length : Int) != (l1.length : Int)) = false := by rw [hn]; exact bne_self_eq_false _
    have HN := Aside0.mk hn
    go_enter Try.func19, Try.ntmps19
    go_wp2
    go_loopg [5] l0.length (fun gg s5 wr => ∃ (kk : Nat), kk ≤ l0.length ∧ l0.length - kk ≤ gg ∧ s5 = .int .i64 kk ∧ Aside0 (decide (l0 = l1) = decide (l0.drop kk = l1.drop kk)) ∧ Aside0 (Below w.heap.size w wr))
    case atStart => exact ⟨0, Nat.zero_le _, by omega, rfl, ⟨rfl⟩, ⟨Below.refl _ _⟩⟩
    case round =>
      obtain ⟨kk, hkk, hg, rfl, A, HB⟩ := hrel
      by_cases hlt : kk < l0.length
      · have hltz : (kk : Int) < (l0.length : Int) := by omega
        have hlt1 : kk < l1.length := by omega
        have hltz1 : (kk : Int) < (l1.length : Int) := by omega
        obtain ⟨y, hy⟩ := at_some hlt
        obtain ⟨z, hz⟩ := at_some hlt1
        obtain ⟨ad, e1, hx⟩ := at_int HR.out hy
        cases e1
        obtain ⟨ad', e2, hx'⟩ := at_int HS.out hz
        cases e2
        replace hx := Below.old HB.out hx
        replace hx' := Below.old HB.out hx'
        have HA := Aside0.mk (A.out.trans (by rw [drop_cons hy, drop_cons hz]))
        clear A hy hz
        by_cases hq : y = z
        · have hq1 : (y != z) = false := by rw [hq]; exact bne_self_eq_false _
          have HQ := Aside0.mk hq
          clear hq
          go_wp2
          go_quiet (fail)
          rename_i nq
          go_wp2
          go_roundg (l0.length - (kk + 1))
          case measure => omega
          case rel => exact ⟨kk + 1, by omega, by omega, by go_num, ⟨by rw [HA.out, HQ.out]; simp⟩, ⟨Below.then HB.out (pw_below_drewN (Below.refl _ _) _)⟩⟩
        · have hq1 : (y != z) = true := bne_iff_ne.2 hq
          have HQ := Aside0.mk hq
          clear hq
          go_wp2
          go_quiet (fail)
          rename_i nq
          go_wp2
          go_ret
          exact ⟨by rw [HA.out]; simp [HQ.out], Below.then HB.out (pw_below_drewN (Below.refl _ _) _)⟩
      · have hltz : ¬ (kk : Int) < (l0.length : Int) := by omega
        obtain rfl : kk = l0.length := by omega
        go_wp2
        go_ret
        exact ⟨by rw [A.out, drop_all, HN.out, drop_all]; rfl, HB.out⟩
  · have hnz : ((l0.length : Int) != (l1.length : Int)) = true := bne_iff_ne.2 (by omega)
    have HN := Aside0.mk hn
    go_enter Try.func19, Try.ntmps19
    go_wp2
    go_ret
    exact ⟨by rw [decide_eq_false (fun e => HN.out (by rw [e]))]; rfl, Below.refl _ _⟩
end Go.Proofs.Ythpejcnldecmoaa.H
namespace Go.Proofs.Ythpejcnldecmoaa.H
open Go.RowKit Go.Proofs.YthpejcnldecmoaaW.PrintWords Go.Proofs.YthpejcnldecmoaaW.PrintLast Go.Proofs.YthpejcnldecmoaaW.PrintMore
set_option linter.unusedVariables false

def varOf (s : ByteArray) : Term := ⟨true, s, ⟨false, ⟨#[]⟩, 0⟩⟩
def noTerm : Term := ⟨false, ⟨#[]⟩, ⟨false, ⟨#[]⟩, 0⟩⟩
def shC : Liter := ⟨3, ⟨⟨#[]⟩, []⟩, ⟨#[60]⟩, varOf ⟨#[88]⟩, varOf ⟨#[89]⟩⟩
def shQ : Liter := ⟨1, ⟨⟨#[113]⟩, [varOf ⟨#[88]⟩]⟩, ⟨#[]⟩, noTerm, noTerm⟩
def shP : Liter := ⟨1, ⟨⟨#[114]⟩, [varOf ⟨#[88]⟩, varOf ⟨#[89]⟩]⟩, ⟨#[]⟩, noTerm, noTerm⟩
theorem shown_order : orderOf [shC, shQ, shP] (-1) = ([1, 2, 0], 0) := by decide +kernel

def shTerm (t : Term) : List Value := [.bool t.isVar, .string t.name, .bool t.val.isSym, .string t.val.sym, .int .i64 t.val.n]
def shCells (bq bp : Nat) : Array Value := #[.int .i64 3, .string ⟨#[]⟩, .slice none 0 0, .string ⟨#[60]⟩, .bool true, .string ⟨#[88]⟩, .bool false, .string ⟨#[]⟩, .int .i64 0, .bool true, .string ⟨#[89]⟩, .bool false, .string ⟨#[]⟩, .int .i64 0,
  .int .i64 1, .string ⟨#[113]⟩, .slice (some ⟨bq, 0, none⟩) 1 1, .string ⟨#[]⟩, .bool false, .string ⟨#[]⟩, .bool false, .string ⟨#[]⟩, .int .i64 0, .bool false, .string ⟨#[]⟩, .bool false, .string ⟨#[]⟩, .int .i64 0,
  .int .i64 1, .string ⟨#[114]⟩, .slice (some ⟨bp, 0, none⟩) 2 2, .string ⟨#[]⟩, .bool false, .string ⟨#[]⟩, .bool false, .string ⟨#[]⟩, .int .i64 0, .bool false, .string ⟨#[]⟩, .bool false, .string ⟨#[]⟩, .int .i64 0]
theorem shown_body (W : World) (b bq bp : Nat) (hb : W.heap[b]? = some (.cells (shCells bq bp) 47 (0, 0)))
    (hq : W.heap[bq]? = some (.cells #[.bool true, .string ⟨#[88]⟩, .bool false, .string ⟨#[]⟩, .int .i64 0] 45 (0, 0)))
    (hp : W.heap[bp]? = some (.cells #[.bool true, .string ⟨#[88]⟩, .bool false, .string ⟨#[]⟩, .int .i64 0, .bool true, .string ⟨#[89]⟩, .bool false, .string ⟨#[]⟩, .int .i64 0] 45 (0, 0))) :
    Kd.C k47 W (some ⟨b, 0, none⟩) 3 [shC, shQ, shP] := by
  have gq : Kd.C k45 W (some ⟨bq, 0, none⟩) 1 [varOf ⟨#[88]⟩] := C_cells hq (Reps.snoc (Reps.none _ _) (k45_mk W (varOf ⟨#[88]⟩)) rfl) (by simp)
  have gp : Kd.C k45 W (some ⟨bp, 0, none⟩) 2 [varOf ⟨#[88]⟩, varOf ⟨#[89]⟩] := C_cells hp (reps_two W (varOf ⟨#[88]⟩) (varOf ⟨#[89]⟩)) (by simp)
  have gc : Kd.C k45 W none 0 [] := ⟨rfl, by simp, fun h => absurd h (by simp)⟩
  exact C_cells hb (Reps.snoc (Reps.snoc (Reps.snoc (Reps.none _ _) (k47_mk W shC (Nat.le_refl 0) gc) rfl) (k47_mk W shQ (Nat.le_refl 1) gq) rfl) (k47_mk W shP (Nat.le_refl 2) gp) rfl) (by simp)
theorem reps_120 (W : World) : Reps ((Kd.int .i64).K W) 1 [1, 2, 0] [.int .i64 1, .int .i64 2, .int .i64 0] :=
  Reps.snoc (p := 0) (c := [.int .i64 0]) (Reps.snoc (p := 2) (c := [.int .i64 2]) (Reps.snoc (p := 1) (c := [.int .i64 1]) (Reps.none _ _) rfl rfl) rfl rfl) rfl rfl
theorem shown_call (W : World) (A : Option Addr) (h : Kd.C k47 W A 3 [shC, shQ, shP]) :
    Calls Try.prog 17 #[.agg #[.string ⟨#[]⟩, .slice none 0 0, .slice A 3 3], .int .i64 (-1)] W fun e w' => ∃ A1 c1, e = .returned (.tuple #[.slice A1 3 c1, .int .i64 0]) ∧ Kd.C (Kd.int .i64) w' A1 3 [1, 2, 0] ∧ Below W.heap.size W w' := by
  refine (plan_Order W ⟨#[]⟩ none 0 0 A 3 [shC, shQ, shP] (-1) h (by decide) (by decide +kernel)).mono ?_
  rintro e w' ⟨v, rfl, hr, hb⟩
  rw [shown_order] at hr ⊢
  obtain ⟨A1, c1, rfl, -, hC⟩ := Kd.R_reads hr
  exact ⟨A1, c1, rfl, hC, hb⟩

set_option maxHeartbeats 4000000 in
set_option maxRecDepth 100000 in
theorem law13_shown (w : World) :
    Calls Try.prog 15 #[] w fun e w' => e = .returned (.bool true) ∧ Below w.heap.size w w' := by
  have hu := Try.underlying45
  have hu2 := Try.underlying24
  have hu3 := Try.underlying47
  have hu4 := Try.underlying27
  go_enter Try.func15, Try.ntmps15
  go_wp2_with (first
    | (go_at_call 38; go_must (refine (law13_v _ _).mono ?_); rintro e w' ⟨rfl, rfl⟩)
    | (go_at_call 17; go_must (refine (shown_call _ _ (shown_body _ _ (w.heap.size + 1) (w.heap.size + 5) (blk_new' (by simp) _) (by repeat (first | (refine blk_new' ?_ _; simp; done) | refine blk_alloc ?_ _)) (by repeat (first | (refine blk_new' ?_ _; simp; done) | refine blk_alloc ?_ _)))).mono ?_); rintro e w1 ⟨A1, c1, rfl, hC, hb⟩; have HB : Aside0 (Below w.heap.size w w1) := ⟨Below.then (by repeat (first | (with_reducible exact Below.refl _ _) | refine below_alloc ?_ _)) hb⟩; have HC := Aside0.mk hC; clear hC hb)
    | (go_at_call 19; go_must (refine (ref10_Ints _ _ [1, 2, 0] _ _ [1, 2, 0] _ (Kd.C_alloc HC.out _) (C_cells (xs := [1, 2, 0]) (d := Kd.int .i64) (blk_new' (by simp) _) (reps_120 _) (by simp))).mono ?_); rintro e w2 ⟨rfl, hb⟩; have HB2 := Aside0.mk (Below.then (below_alloc HB.out _) hb); clear hb))
  go_ret
  exact ⟨rfl, HB2.out⟩
end Go.Proofs.Ythpejcnldecmoaa.H
namespace Go.Proofs.Ythpejcnldecmoaa.H
open Go.RowKit Go.Proofs.YthpejcnldecmoaaW.PrintWords Go.Proofs.YthpejcnldecmoaaW.PrintLast Go.Proofs.YthpejcnldecmoaaW.PrintMore
def lambrequinlaw13_shown.f : Option Bool := some true
theorem lambrequinlaw13_shown.calls (r : Bool) (w : World) (h : lambrequinlaw13_shown.f = some r) :
    Calls Try.prog 15 #[] w fun e w' => e = .returned (.bool r) ∧ Below w.heap.size w w' := by
  cases h
  exact law13_shown w
end Go.Proofs.Ythpejcnldecmoaa.H

import Derived.Test.YthpejcnldecmoaaRef13
import Derived.Test.YthpejcnldecmoaaPlanner
namespace Go.Proofs.Ythpejcnldecmoaa.H
open Go.RowKit Go.Proofs.YthpejcnldecmoaaW.PrintWords Go.Proofs.YthpejcnldecmoaaW.PrintLast Go.Proofs.YthpejcnldecmoaaW.PrintMore
set_option linter.unusedVariables false

set_option maxHeartbeats 1000000 in
theorem ref13_Terms (w : World) (y : Liter) (A2 : Option Addr) (c2 : Nat) (hl : y.atom.args.length ≤ c2) (hg : Kd.C kTerm w A2 y.atom.args.length y.atom.args) :
    Calls Try.prog 24 #[.agg #[.int .i64 y.kind, .string y.atom.pred, .slice A2 y.atom.args.length c2, .string y.op, .bool y.l.isVar, .string y.l.name, .bool y.l.val.isSym, .string y.l.val.sym, .int .i64 y.l.val.n, .bool y.r.isVar, .string y.r.name, .bool y.r.val.isSym, .string y.r.val.sym, .int .i64 y.r.val.n]] w fun e w' => ∃ A c, e = .returned (.slice A (litTerms y).length c) ∧ Kd.C kTerm w' A (litTerms y).length (litTerms y) ∧ Below w.heap.size w w' := by
  have hu := Try.underlying45
  have hu2 := Try.underlying24
  have hu3 := Try.underlying47
  have HG := Aside0.mk hg
  clear hg
  by_cases hk : y.kind = 3
  · have hk1 : (y.kind == 3) = true := beq_iff_eq.2 hk
    have HK := Aside0.mk hk
    clear hk
    go_enter Try.func24, Try.ntmps24
    go_wp2
    go_ret
    have ht : litTerms y = [y.l, y.r] := by rw [litTerms, if_pos HK.out]
    rw [ht]
    exact ⟨_, _, rfl, C_cells (blk_new' (by simp) _) (reps_two _ _ _) (by simp), below_alloc (below_alloc (Below.refl _ _) _) _⟩
  · have hk1 : (y.kind == 3) = false := beq_eq_false_iff_ne.2 hk
    have HK := Aside0.mk hk
    clear hk
    go_enter Try.func24, Try.ntmps24
    go_wp2
    go_ret
    have ht : litTerms y = y.atom.args := by rw [litTerms, if_neg HK.out]
    rw [ht]
    exact ⟨_, _, rfl, Kd.C_alloc HG.out _, below_alloc (Below.refl _ _) _⟩

/-- what the laws ask of a rule's size -/
def few (l : List Liter) : Bool := decide (l.length ≤ 20) && l.all fun y => decide (y.atom.args.length ≤ 20)

set_option maxHeartbeats 1000000 in
theorem law13_few (w : World) (p : ByteArray) (Ah : Option Addr) (nh ch : Nat) (A0 : Option Addr) (c0 : Nat) (l0 : List Liter) (hbody : Kd.C kLiter w A0 l0.length l0) :
    Calls Try.prog 16 #[.agg #[.string p, .slice Ah nh ch, .slice A0 l0.length c0]] w fun e w' => e = .returned (.bool (few l0)) ∧ Below w.heap.size w w' := by
  have hu := Try.underlying27
  have hu2 := Try.underlying24
  have hu3 := Try.underlying47
  have HR := Aside0.mk hbody
  have hl : l0.length ≤ 9223372036854775807 := hbody.2.1
  clear hbody
  go_enter Try.func16, Try.ntmps16
  go_wp2
  have hbx : (w.alloc (.cells #[.string p, .slice Ah nh ch, .slice A0 l0.length c0] 27)).cell? ⟨w.heap.size, 2, none⟩ = some (.slice A0 l0.length c0) := by go_simp
  have HB0 := Aside0.mk (below_alloc (Below.refl w.heap.size w) (.cells #[.string p, .slice Ah nh ch, .slice A0 l0.length c0] 27))
  have HR0 := Aside0.mk (Kd.C_alloc HR.out (.cells #[.string p, .slice Ah nh ch, .slice A0 l0.length c0] 27))
  have hz0 : w.heap.size < (w.alloc (.cells #[.string p, .slice Ah nh ch, .slice A0 l0.length c0] 27)).heap.size := by simp
  generalize w.alloc (.cells #[.string p, .slice Ah nh ch, .slice A0 l0.length c0] 27) = w0 at *
  go_loop [3] (fun s3 => ∃ kk : Nat, kk ≤ l0.length ∧ kk ≤ 21 ∧ s3 = .int .i64 kk ∧ Aside0 (∀ j, j < kk → ∀ y, l0[j]? = some y → y.atom.args.length ≤ 20)) (fun s3 => l0.length - (intOf s3).toNat)
  case atStart => exact ⟨0, Nat.zero_le _, by omega, rfl, ⟨fun j hj => by omega⟩⟩
  case round =>
    obtain ⟨kk, hkk, h21, rfl, A⟩ := hrel
    by_cases hlt : kk < l0.length
    · have hltz : (kk : Int) < (l0.length : Int) := by omega
      by_cases h20 : kk < 21
      · have h20z : (kk : Int) < 21 := by omega
        obtain ⟨y, hy⟩ := at_some hlt
        obtain ⟨ad, A2, c2, e1, hx0, hx1, hx2, hx3, hx4, hx5, hx6, hx7, hx8, hx9, hx10, hx11, hx12, hx13, l2, g2⟩ := at_Liter HR0.out hy
        cases e1
        have HY := Aside0.mk hy
        clear hy
        by_cases hq : y.atom.args.length ≤ 20
        · have hq1 : ¬ (20 : Int) < (y.atom.args.length : Int) := by omega
          go_wp2
          go_round
          case measure => simp [intOf]; omega
          case rel =>
            refine ⟨kk + 1, by omega, by omega, by go_num, ⟨fun j hj z hz => ?_⟩⟩
            by_cases hjk : j < kk
            · exact A.out j hjk z hz
            · obtain rfl : j = kk := by omega
              have := HY.out
              rw [hz] at this
              cases this
              exact hq
        · have hq1 : (20 : Int) < (y.atom.args.length : Int) := by omega
          go_wp2
          go_ret
          refine ⟨?_, HB0.out⟩
          have : few l0 = false := by
            rw [few, Bool.and_eq_false_iff]
            right
            rw [List.all_eq_false]
            exact ⟨y, List.mem_of_getElem? HY.out, by simpa using hq⟩
          rw [this]; rfl
      · have h20z : ¬ (kk : Int) < 21 := by omega
        have hq1 : ¬ (l0.length : Int) ≤ 20 := by omega
        go_wp2
        go_ret
        refine ⟨?_, HB0.out⟩
        have : few l0 = false := by
          rw [few, Bool.and_eq_false_iff]
          left
          first | (simp; done) | (simp; omega)
        rw [this]
        first | (simp; done) | (simp; omega)
    · have hltz : ¬ (kk : Int) < (l0.length : Int) := by omega
      obtain rfl : kk = l0.length := by omega
      have hall : (l0.all fun y => decide (y.atom.args.length ≤ 20)) = true := by
        rw [List.all_eq_true]
        intro y hy
        obtain ⟨i, hi, rfl⟩ := List.mem_iff_getElem.1 hy
        simpa using A.out i hi _ (List.getElem?_eq_getElem hi)
      have HA := Aside0.mk hall
      clear hall A
      go_wp2
      go_ret
      refine ⟨?_, HB0.out⟩
      rw [few, HA.out, Bool.and_true]
      have : decide ((l0.length : Int) ≤ 20) = decide (l0.length ≤ 20) := by first | (simp; done) | (simp; omega)
      first | rw [← this]; rfl | rw [← this] | (simp; omega)
end Go.Proofs.Ythpejcnldecmoaa.H

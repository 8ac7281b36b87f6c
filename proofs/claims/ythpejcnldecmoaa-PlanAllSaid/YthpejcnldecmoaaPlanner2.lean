import Derived.Test.YthpejcnldecmoaaPlanner
import Derived.Test.YthpejcnldecmoaaPlanSpecC
import Derived.Deep.RegionHeld3
import Derived.BigQuiet
import Derived.Deep.QuietTactic
namespace Go.Proofs.Ythpejcnldecmoaa.H
open Go.RowKit Go.Proofs.YthpejcnldecmoaaW.PrintWords Go.Proofs.YthpejcnldecmoaaW.PrintLast Go.Proofs.YthpejcnldecmoaaW.PrintMore
set_option linter.unusedVariables false


abbrev SeesT (w : World) (Bp B : Nat) (A0 : Option Addr) (c0 n : Nat) (y : Liter) (A2 : Option Addr) (c2 : Nat) (ad : Addr) (k : Nat) (w' : World) : Prop :=
  Below w.heap.size w w' ∧ w'.cell? ⟨Bp, 0, none⟩ = some (.pointer (some ⟨B, 0, none⟩)) ∧ w'.cell? ⟨B, 0, none⟩ = some (.slice A0 n c0) ∧ w'.cell? (ad.add (k * 14)) = some (.int .i64 y.kind) ∧ w'.cell? ⟨(ad.add (k * 14)).block, (ad.add (k * 14)).off + 1, none⟩ = some (.string y.atom.pred) ∧ w'.cell? ⟨(ad.add (k * 14)).block, (ad.add (k * 14)).off + 2, none⟩ = some (.slice A2 y.atom.args.length c2) ∧ w'.cell? ⟨(ad.add (k * 14)).block, (ad.add (k * 14)).off + 3, none⟩ = some (.string y.op) ∧ w'.cell? ⟨(ad.add (k * 14)).block, (ad.add (k * 14)).off + 4, none⟩ = some (.bool y.l.isVar) ∧ w'.cell? ⟨(ad.add (k * 14)).block, (ad.add (k * 14)).off + 5, none⟩ = some (.string y.l.name) ∧ w'.cell? ⟨(ad.add (k * 14)).block, (ad.add (k * 14)).off + 6, none⟩ = some (.bool y.l.val.isSym) ∧ w'.cell? ⟨(ad.add (k * 14)).block, (ad.add (k * 14)).off + 7, none⟩ = some (.string y.l.val.sym) ∧ w'.cell? ⟨(ad.add (k * 14)).block, (ad.add (k * 14)).off + 8, none⟩ = some (.int .i64 y.l.val.n) ∧ w'.cell? ⟨(ad.add (k * 14)).block, (ad.add (k * 14)).off + 9, none⟩ = some (.bool y.r.isVar) ∧ w'.cell? ⟨(ad.add (k * 14)).block, (ad.add (k * 14)).off + 10, none⟩ = some (.string y.r.name) ∧ w'.cell? ⟨(ad.add (k * 14)).block, (ad.add (k * 14)).off + 11, none⟩ = some (.bool y.r.val.isSym) ∧ w'.cell? ⟨(ad.add (k * 14)).block, (ad.add (k * 14)).off + 12, none⟩ = some (.string y.r.val.sym) ∧ w'.cell? ⟨(ad.add (k * 14)).block, (ad.add (k * 14)).off + 13, none⟩ = some (.int .i64 y.r.val.n)
set_option maxHeartbeats 8000000 in
set_option maxRecDepth 100000 in
theorem test1 (w : World) (Bp B : Nat) (v1 v3 : Value) (A0 : Option Addr) (c0 : Nat) (body : List Liter) (Ab : Option Addr) (cb : Nat) (bound : List ByteArray) (k : Nat) (y : Liter) (hy : body[k]? = some y) (hlt : k < body.length)
    (h0 : w.cell? ⟨Bp, 0, none⟩ = some (.pointer (some ⟨B, 0, none⟩))) (h1 : w.heap[B]? = some (.cells #[.slice A0 body.length c0, v1, .slice Ab bound.length cb, v3] 78 (0, 0)))
    (hbody : Kd.C kLiter w A0 body.length body) (hr : Kd.C Kd.string w Ab bound.length bound) (hl : y.atom.args.length ≤ 8796093022207) :
    Calls Try.prog 58 #[.int .i64 k, .pointer (some ⟨Bp, 0, none⟩)] w fun e w' => e = .returned (.bool (asks bound y)) ∧ Below w.heap.size w w' := by
  have hu := Try.underlying45
  have hu2 := Try.underlying24
  have hu3 := Try.underlying47
  have hlz : (k : Int) < (body.length : Int) := by omega
  have hb0 := (blk_cell h1 0).trans rfl
  obtain ⟨ad, A2, c2, e1, hx0, hx1, hx2, hx3, hx4, hx5, hx6, hx7, hx8, hx9, hx10, hx11, hx12, hx13, l2, g2⟩ := at_Liter hbody hy
  cases e1
  have HR := Aside0.mk hr
  have HG := Aside0.mk g2
  have H1 := Aside0.mk h1
  clear hr g2 h1 hbody hy l2
  by_cases hk : y.kind = 1
  · have hk1 : (y.kind != 1) = false := bne_eq_false_iff_eq.2 hk
    have HK := Aside0.mk hk
    clear hk
    go_enter Try.func58, Try.ntmps58
    go_wp2
    go_quiet (fail)
    go_wp2
    go_ret
    exact ⟨by simp [asks, HK.out], pw_below_drewN (Below.refl _ _) _⟩
  · have hk1 : (y.kind != 1) = true := bne_iff_ne.2 hk
    have HK := Aside0.mk hk
    clear hk
    go_enter Try.func58, Try.ntmps58
    go_wp2
    have hbd : Below w.heap.size w w.drew := below_drew (Below.refl _ _)
    have KS : Aside0 (∀ w', Below w.heap.size w w' → SeesT w Bp B (some ad) c0 body.length y A2 c2 ad k w') := ⟨fun w' hb => ⟨hb, Below.old hb h0, Below.old hb hb0, Below.old hb hx0, Below.old hb hx1, Below.old hb hx2, Below.old hb hx3, Below.old hb hx4, Below.old hb hx5, Below.old hb hx6, Below.old hb hx7, Below.old hb hx8, Below.old hb hx9, Below.old hb hx10, Below.old hb hx11, Below.old hb hx12, Below.old hb hx13⟩⟩
    go_region_held3 (fun w' => SeesT w Bp B (some ad) c0 body.length y A2 c2 ad k w') (first | exact KS.out _ (below_drew (Below.refl _ _)) | exact KS.out _ (Below.then (by assumption) (by assumption))) ((go_at_call 59; go_must (refine (planner_known _ B _ _ _ Ab cb bound y A2 c2 (blk_below (H1.out) (by assumption)) (Kd.C_below HR.out (by assumption)) (Kd.C_below HG.out (by assumption)) hl).mono ?_); rintro e w2 ⟨rfl, hb⟩))
    have HB := Aside0.mk (Below.then hbd hb)
    clear hb hbd KS
    go_wp2
    go_ret
    exact ⟨by rw [asks, decide_eq_true HK.out, Bool.true_and]; rfl, HB.out⟩
end Go.Proofs.Ythpejcnldecmoaa.H

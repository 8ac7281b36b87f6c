import Derived.Test.YthpejcnldecmoaaPlanA
import Derived.Test.YthpejcnldecmoaaPlanSpecB
namespace Go.Proofs.Ythpejcnldecmoaa.H
open Go.RowKit Go.Proofs.YthpejcnldecmoaaW.PrintWords Go.Proofs.YthpejcnldecmoaaW.PrintLast Go.Proofs.YthpejcnldecmoaaW.PrintMore
set_option linter.unusedVariables false

theorem known1 (w : World) (Bp B : Nat) (Ab : Option Addr) (cb : Nat) (bound l : List ByteArray) (h1 : w.cell? ⟨Bp, 0, none⟩ = some (.pointer (some ⟨B, 0, none⟩))) (h2 : w.cell? ⟨B, 2, none⟩ = some (.slice Ab bound.length cb)) (hr : Kd.C Kd.string w Ab bound.length bound) :
    PredK Try.prog 64 #[.pointer (some ⟨Bp, 0, none⟩)] Value.string (fun s => !mem s bound) w l := by
  intro W x _ hb
  have e1 := Below.old hb h1
  have e2 := Below.old hb h2
  have HR := Aside0.mk (Kd.C_below hr hb)
  clear hr h1 h2
  have HB := Aside0.mk hb
  clear hb
  go_enter Try.func64, Try.ntmps64
  go_wp2_with (go_at_call 45; go_must (refine (ContainsString _ _ _ _ _ HR.out).mono ?_); rintro e w' ⟨rfl, rfl⟩)
  go_ret
  exact ⟨rfl, Below.refl _ _⟩

theorem blk_new' {w : World} {n : Nat} (h : w.heap.size = n) (o : Obj) : (w.alloc o).heap[n]? = some o := by subst h; exact blk_new w o
theorem reps_two (w : World) (a b : Term) : Reps (kTerm.K w) kTerm.sz [a, b] ([.bool a.isVar, .string a.name, .bool a.val.isSym, .string a.val.sym, .int .i64 a.val.n] ++ [.bool b.isVar, .string b.name, .bool b.val.isSym, .string b.val.sym, .int .i64 b.val.n]) :=
  Reps.snoc (Reps.snoc (Reps.none _ _) (kTerm_mk w a) rfl) (kTerm_mk w b) rfl

set_option maxHeartbeats 4000000 in
theorem planner_known (w : World) (B : Nat) (v0 v1 v3 : Value) (Ab : Option Addr) (cb : Nat) (bound : List ByteArray) (y : Liter) (A2 : Option Addr) (c2 : Nat)
    (h1 : w.heap[B]? = some (.cells #[v0, v1, .slice Ab bound.length cb, v3] 78 (0, 0))) (hr : Kd.C Kd.string w Ab bound.length bound) (hg : Kd.C kTerm w A2 y.atom.args.length y.atom.args) (hl : y.atom.args.length ≤ 8796093022207) :
    Calls Try.prog 59 #[.pointer (some ⟨B, 0, none⟩), .agg [.int .i64 y.kind, .string y.atom.pred, .slice A2 y.atom.args.length c2, .string y.op, .bool y.l.isVar, .string y.l.name, .bool y.l.val.isSym, .string y.l.val.sym, .int .i64 y.l.val.n, .bool y.r.isVar, .string y.r.name, .bool y.r.val.isSym, .string y.r.val.sym, .int .i64 y.r.val.n].toArray] w fun e w' => e = .returned (.bool (known bound y)) ∧ Below w.heap.size w w' := by
  have hu := Try.underlying45
  have hu2 := Try.underlying24
  have hu3 := Try.underlying47
  have hc := (blk_cell h1 2).trans rfl
  have HR := Aside0.mk hr
  have HG := Aside0.mk hg
  have hBs := blk_lt h1
  clear hr hg h1
  have eg := enters_of Try.func64 (by kernel_rfl) rfl
  by_cases hk : y.kind = 3
  · have hk1 : (y.kind == 3) = true := beq_iff_eq.2 hk
    have HK := Aside0.mk hk
    clear hk
    go_enter Try.func59, Try.ntmps59
    go_wp2_with (first
      | (go_at_call 31; go_must (refine (safe_Vars _ _ _ [y.l, y.r] _ (C_cells (blk_new' (by simp) _) (reps_two _ _ _) (by simp)) (by simp)).mono ?_); rintro e w1 ⟨v, rfl, hr, hb⟩; have HB := Aside0.mk (Below.then (below_alloc (below_alloc (below_alloc (below_alloc (Below.refl w.heap.size w) _) _) _) _) hb); have hcp := Below.old hb (a := ⟨w.heap.size, 0, none⟩) (v := .pointer (some ⟨B, 0, none⟩)) (by go_simp); have hcb := Below.old HB.out hc; obtain ⟨A3, c3, rfl, hl3, hC3⟩ := Kd.R_reads hr; have HC3 := Aside0.mk hC3; clear hC3 hr hb)
      | (go_at_call 63; go_must (refine (ContainsFuncString 64 #[.pointer (some ⟨w.heap.size, 0, none⟩)] eg (fun s => !mem s bound) _ _ _ _ HC3.out (known1 _ _ _ _ _ _ _ hcp hcb (Kd.C_below HR.out HB.out))).mono ?_); rintro e w2 ⟨rfl, hb2⟩; have HB2 := Aside0.mk (Below.then HB.out hb2); clear hb2))
    go_ret
    exact ⟨by rw [known, litTerms, if_pos HK.out]; rfl, HB2.out⟩
  · have hk1 : (y.kind == 3) = false := beq_eq_false_iff_ne.2 hk
    have HK := Aside0.mk hk
    clear hk
    go_enter Try.func59, Try.ntmps59
    go_wp2_with (first
      | (go_at_call 31; go_must (refine (safe_Vars _ _ _ y.atom.args _ (Kd.C_alloc (Kd.C_alloc (Kd.C_alloc HG.out _) _) _) hl).mono ?_); rintro e w1 ⟨v, rfl, hr, hb⟩; have HB := Aside0.mk (Below.then (below_alloc (below_alloc (below_alloc (Below.refl w.heap.size w) _) _) _) hb); have hcp := Below.old hb (a := ⟨w.heap.size, 0, none⟩) (v := .pointer (some ⟨B, 0, none⟩)) (by go_simp); have hcb := Below.old HB.out hc; obtain ⟨A3, c3, rfl, hl3, hC3⟩ := Kd.R_reads hr; have HC3 := Aside0.mk hC3; clear hC3 hr hb)
      | (go_at_call 63; go_must (refine (ContainsFuncString 64 #[.pointer (some ⟨w.heap.size, 0, none⟩)] eg (fun s => !mem s bound) _ _ _ _ HC3.out (known1 _ _ _ _ _ _ _ hcp hcb (Kd.C_below HR.out HB.out))).mono ?_); rintro e w2 ⟨rfl, hb2⟩; have HB2 := Aside0.mk (Below.then HB.out hb2); clear hb2))
    go_ret
    exact ⟨by rw [known, litTerms, if_neg HK.out]; rfl, HB2.out⟩
end Go.Proofs.Ythpejcnldecmoaa.H

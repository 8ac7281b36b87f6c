import Derived.Test.YthpejcnldecmoaaRefTerms
import Derived.Test.YthpejcnldecmoaaInts
import Derived.Test.YthpejcnldecmoaaPlanner7
namespace Go.Proofs.Ythpejcnldecmoaa.H
open Go.RowKit Go.Proofs.YthpejcnldecmoaaW.PrintWords Go.Proofs.YthpejcnldecmoaaW.PrintLast Go.Proofs.YthpejcnldecmoaaW.PrintMore
set_option linter.unusedVariables false

def varOf (s : ByteArray) : Term := ⟨true, s, ⟨false, ⟨#[]⟩, 0⟩⟩
def noTerm : Term := ⟨false, ⟨#[]⟩, ⟨false, ⟨#[]⟩, 0⟩⟩
def shC : Liter := ⟨3, ⟨⟨#[]⟩, []⟩, ⟨#[60]⟩, varOf ⟨#[88]⟩, varOf ⟨#[89]⟩⟩
def shQ : Liter := ⟨1, ⟨⟨#[113]⟩, [varOf ⟨#[88]⟩]⟩, ⟨#[]⟩, noTerm, noTerm⟩
def shP : Liter := ⟨1, ⟨⟨#[114]⟩, [varOf ⟨#[88]⟩, varOf ⟨#[89]⟩]⟩, ⟨#[]⟩, noTerm, noTerm⟩
theorem shown_order : orderOf [shC, shQ, shP] (-1) = ([1, 2, 0], 0) := by decide +kernel

def shTerm (t : Term) : List Value := [.bool t.isVar, .string t.name, .bool t.val.isSym, .string t.val.sym, .int .i64 t.val.n]
def shCells (bq bp : Nat) : Array Value := #[.int .i64 3, .string ⟨#[]⟩, .slice none 0 0, .string ⟨#[60]⟩, .bool true, .string ⟨#[88]⟩, .bool false, .string ⟨#[]⟩, .int .i64 0, .bool true, .string ⟨#[89]⟩, .bool false, .string ⟨#[]⟩, .int .i64 0,
  .int .i64 1, .string ⟨#[113]⟩, .slice (some ⟨bq, 0, none⟩) 1 1, .string ⟨#[]⟩, .bool false, .string ⟨#[]⟩, .bool false, .string ⟨#[]⟩, .int .i64 0, .bool false, .string ⟨#[]⟩, .bool false, .string ⟨#[]⟩, .int .i64 0,
  .int .i64 1, .string ⟨#[114]⟩, .slice (some ⟨bp, 0, none⟩) 2 2, .string ⟨#[]⟩, .bool false, .string ⟨#[]⟩, .bool false, .string ⟨#[]⟩, .int .i64 0, .bool false, .string ⟨#[]⟩, .bool false, .string ⟨#[]⟩, .int .i64 0]
theorem shown_body (W : World) (b bq bp : Nat) (hb : W.heap[b]? = some (.cells (shCells bq bp) 47 (0, 0)))
    (hq : W.heap[bq]? = some (.cells #[.bool true, .string ⟨#[88]⟩, .bool false, .string ⟨#[]⟩, .int .i64 0] 45 (0, 0)))
    (hp : W.heap[bp]? = some (.cells #[.bool true, .string ⟨#[88]⟩, .bool false, .string ⟨#[]⟩, .int .i64 0, .bool true, .string ⟨#[89]⟩, .bool false, .string ⟨#[]⟩, .int .i64 0] 45 (0, 0))) :
    Kd.C kLiter W (some ⟨b, 0, none⟩) 3 [shC, shQ, shP] := by
  have gq : Kd.C kTerm W (some ⟨bq, 0, none⟩) 1 [varOf ⟨#[88]⟩] := C_cells hq (Reps.snoc (Reps.none _ _) (kTerm_mk W (varOf ⟨#[88]⟩)) rfl) (by simp)
  have gp : Kd.C kTerm W (some ⟨bp, 0, none⟩) 2 [varOf ⟨#[88]⟩, varOf ⟨#[89]⟩] := C_cells hp (reps_two W (varOf ⟨#[88]⟩) (varOf ⟨#[89]⟩)) (by simp)
  have gc : Kd.C kTerm W none 0 [] := ⟨rfl, by simp, fun h => absurd h (by simp)⟩
  exact C_cells hb (Reps.snoc (Reps.snoc (Reps.snoc (Reps.none _ _) (kLiter_mk W shC (Nat.le_refl 0) gc) rfl) (kLiter_mk W shQ (Nat.le_refl 1) gq) rfl) (kLiter_mk W shP (Nat.le_refl 2) gp) rfl) (by simp)
theorem reps_120 (W : World) : Reps ((Kd.int .i64).K W) 1 [1, 2, 0] [.int .i64 1, .int .i64 2, .int .i64 0] :=
  Reps.snoc (p := 0) (c := [.int .i64 0]) (Reps.snoc (p := 2) (c := [.int .i64 2]) (Reps.snoc (p := 1) (c := [.int .i64 1]) (Reps.none _ _) rfl rfl) rfl rfl) rfl rfl
theorem shown_call (W : World) (A : Option Addr) (h : Kd.C kLiter W A 3 [shC, shQ, shP]) :
    Calls Try.prog 17 #[.agg #[.string ⟨#[]⟩, .slice none 0 0, .slice A 3 3], .int .i64 (-1)] W fun e w' => ∃ A1 c1, e = .returned (.tuple #[.slice A1 3 c1, .int .i64 0]) ∧ Kd.C (Kd.int .i64) w' A1 3 [1, 2, 0] ∧ Below W.heap.size W w' := by
  refine (plan_Order W ⟨#[]⟩ none 0 0 A 3 [shC, shQ, shP] (-1) h (by decide) (by decide +kernel)).mono ?_
  rintro e w' ⟨v, rfl, hr, hb⟩
  rw [shown_order] at hr ⊢
  obtain ⟨A1, c1, rfl, -, hC⟩ := Kd.R_reads hr
  exact ⟨A1, c1, rfl, hC, hb⟩

set_option maxHeartbeats 4000000 in
set_option maxRecDepth 100000 in
theorem law13_shown (w : World) :
    Calls Try.prog 15 #[] w fun e w' => e = .returned (.bool true) ∧ Below w.heap.size w w' := by
  have hu := Try.underlying45
  have hu2 := Try.underlying24
  have hu3 := Try.underlying47
  have hu4 := Try.underlying27
  go_enter Try.func15, Try.ntmps15
  go_wp2_with (first
    | (go_at_call 38; go_must (refine (law13_v _ _).mono ?_); rintro e w' ⟨rfl, rfl⟩)
    | (go_at_call 17; go_must (refine (shown_call _ _ (shown_body _ _ (w.heap.size + 1) (w.heap.size + 5) (blk_new' (by simp) _) (by repeat (first | (refine blk_new' ?_ _; simp; done) | refine blk_alloc ?_ _)) (by repeat (first | (refine blk_new' ?_ _; simp; done) | refine blk_alloc ?_ _)))).mono ?_); rintro e w1 ⟨A1, c1, rfl, hC, hb⟩; have HB : Aside0 (Below w.heap.size w w1) := ⟨Below.then (by repeat (first | (with_reducible exact Below.refl _ _) | refine below_alloc ?_ _)) hb⟩; have HC := Aside0.mk hC; clear hC hb)
    | (go_at_call 19; go_must (refine (ref10_Ints _ _ [1, 2, 0] _ _ [1, 2, 0] _ (Kd.C_alloc HC.out _) (C_cells (xs := [1, 2, 0]) (d := Kd.int .i64) (blk_new' (by simp) _) (reps_120 _) (by simp))).mono ?_); rintro e w2 ⟨rfl, hb⟩; have HB2 := Aside0.mk (Below.then (below_alloc HB.out _) hb); clear hb))
  go_ret
  exact ⟨rfl, HB2.out⟩
end Go.Proofs.Ythpejcnldecmoaa.H

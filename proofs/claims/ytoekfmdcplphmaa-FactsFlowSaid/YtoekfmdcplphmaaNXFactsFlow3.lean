/- RowFactsFlow of the seat's law FactsFlow: the law holds, under the statement's own conditions. -/
import Derived.Test.YtoekfmdcplphmaaNXFactsFlow
import Derived.Test.YtoekfmdcplphmaaNXFactsFlow2
import Derived.OpenShut
import Derived.SizedLaws
import Derived.DataReads
import Derived.Test.YtoekfmdcplphmaaRows
import Derived.Test.YtoekfmdcplphmaaNW
import Derived.WalkKit
import Derived.ProofKit
import Derived.ShutString
import Derived.ChangeOld
import Derived.Below
import Derived.Carry
set_option linter.unusedVariables false
set_option linter.unusedSimpArgs false
set_option linter.unusedSectionVars false
namespace Go.Proofs.Ytoekfmdcplphmaa.H
open Go.RowKit Go.Proofs.YtoekfmdcplphmaaW.PrintWords Go.Proofs.YtoekfmdcplphmaaW.PrintLast Go.Proofs.YtoekfmdcplphmaaW.PrintMore
attribute [local go_sem] max2_int min2_int max_two min_two max_three min_three max_four min_four
def lambrequinlaw21_num.f (a0 : Int) : Option (Bool × ByteArray × Int) := some (false, (⟨#[]⟩ : ByteArray), a0)
set_option maxHeartbeats 8000000 in
set_option maxRecDepth 100000 in
theorem lambrequinlaw21_num.calls (a0 : Int) (r1 : Bool) (r2 : ByteArray) (r3 : Int) (w : World) (h : lambrequinlaw21_num.f a0 = some (r1, r2, r3)) :
  Calls Try.prog 10 #[.int .i64 a0] w fun e w' => e = .returned (.agg #[.bool r1, .string r2, .int .i64 r3]) ∧ Below w.heap.size w w' := by
 have hu28 := Try.underlying28
 have HB := Aside0.mk (Below.refl w.heap.size w)
 have H : (some (false, (⟨#[]⟩ : ByteArray), a0)) = some (r1, r2, r3) := h
 clear h
 simp only [Option.some.injEq, Prod.mk.injEq] at H
 obtain ⟨rfl, rfl, rfl⟩ := H
 go_enter Try.func10, Try.ntmps10
 go_wp2_with (first | ((with_reducible refine gate_dst (N := 2) rfl ?_); refine box_event ?hg (N := 2) ?hd (cs := #[.bool false, .string (⟨#[]⟩ : ByteArray), .int .i64 0]) (t := 28) ?hr ?_; (case hd => rfl); (case hg => rfl); (case hr => first | (go_simp; done) | (go_simp; rfl)); intro gb101 hg w2 hbox hb; have n0_ := Aside0.mk (below_step (by repeat (first | (with_reducible first | exact HB.out | apply below_alloc | apply pw_below_drewN | apply below_drew1) | exact HB.out)) hb); have n1_ := Aside0.mk (hbox); have n2_ := Aside0.mk ((by rw [hg]; exact (below_size (by repeat (first | (with_reducible first | exact HB.out | apply below_alloc | apply pw_below_drewN | apply below_drew1) | exact HB.out))) : w.heap.size ≤ gb101)); have n3_ := Aside0.mk ((by rw [hg]; exact (below_size (by repeat (first | (with_reducible first | exact HB.out | apply below_alloc | apply pw_below_drewN | apply below_drew1) | exact HB.out))) : w.heap.size ≤ gb101)); clear HB; have HB := n0_; have BK101 := n1_; have GW101 := n2_; have GE101 := n3_; clear n0_ n1_ n2_ n3_; clear hb hbox hg; have hcz3_0 : w2.cell? ⟨gb101, 0, none⟩ = some (.bool false) := (blk_cell BK101.out 0).trans rfl; have hcz3_1 : w2.cell? ⟨gb101, 1, none⟩ = some (.string (⟨#[]⟩ : ByteArray)) := (blk_cell BK101.out 1).trans rfl; have hcz3_2 : w2.cell? ⟨gb101, 2, none⟩ = some (.int .i64 0) := (blk_cell BK101.out 2).trans rfl; have hfz3_0 := blk_frozen BK101.out 0; have hfz3_1 := blk_frozen BK101.out 1; have hfz3_2 := blk_frozen BK101.out 2))
 refine bodyPost_ret (results_cell_row rfl _ _ gb101 28 #[.bool false, .string (⟨#[]⟩ : ByteArray), .int .i64 a0] (0, 0) _ rfl (by (with_reducible repeat (first | refine blk_drewN ?_ _ | refine blk_drew ?_ | refine blk_alloc ?_ _)); refine blk_put (cs := #[.bool false, .string (⟨#[]⟩ : ByteArray), .int .i64 0]) ?_ 2 _ rfl; (with_reducible repeat (first | refine blk_drewN ?_ _ | refine blk_drew ?_ | refine blk_alloc ?_ _)); refine blk_put (cs := #[.bool false, .string (⟨#[]⟩ : ByteArray), .int .i64 0]) ?_ 1 _ rfl; (with_reducible repeat (first | refine blk_drewN ?_ _ | refine blk_drew ?_ | refine blk_alloc ?_ _)); refine blk_put (cs := #[.bool false, .string (⟨#[]⟩ : ByteArray), .int .i64 0]) ?_ 0 _ rfl; (with_reducible repeat (first | refine blk_drewN ?_ _ | refine blk_drew ?_ | refine blk_alloc ?_ _)); exact BK101.out) Try.underlying28 rfl (by kernel_rfl)) rfl ?_
 exact ⟨by first | rfl | (simp [errW_none, errW_some] <;> rfl) | (simp [*, errW_none, errW_some] <;> rfl), by repeat (first | (with_reducible first | exact HB.out | apply below_alloc | apply pw_below_drewN | apply below_drew1 | refine below_set ?_ GE101.out) | exact HB.out)⟩
def lambrequinlaw21_sym.f (a0 : ByteArray) : Option (Bool × ByteArray × Int) := some (true, a0, 0)
set_option maxHeartbeats 8000000 in
set_option maxRecDepth 100000 in
theorem lambrequinlaw21_sym.calls (a0 : ByteArray) (r1 : Bool) (r2 : ByteArray) (r3 : Int) (w : World) (h : lambrequinlaw21_sym.f a0 = some (r1, r2, r3)) :
  Calls Try.prog 15 #[.string a0] w fun e w' => e = .returned (.agg #[.bool r1, .string r2, .int .i64 r3]) ∧ Below w.heap.size w w' := by
 have hu28 := Try.underlying28
 have HB := Aside0.mk (Below.refl w.heap.size w)
 have H : (some (true, a0, 0)) = some (r1, r2, r3) := h
 clear h
 simp only [Option.some.injEq, Prod.mk.injEq] at H
 obtain ⟨rfl, rfl, rfl⟩ := H
 go_enter Try.func15, Try.ntmps15
 go_wp2_with (first | ((with_reducible refine gate_dst (N := 2) rfl ?_); refine box_event ?hg (N := 2) ?hd (cs := #[.bool false, .string (⟨#[]⟩ : ByteArray), .int .i64 0]) (t := 28) ?hr ?_; (case hd => rfl); (case hg => rfl); (case hr => first | (go_simp; done) | (go_simp; rfl)); intro gb101 hg w2 hbox hb; have n0_ := Aside0.mk (below_step (by repeat (first | (with_reducible first | exact HB.out | apply below_alloc | apply pw_below_drewN | apply below_drew1) | exact HB.out)) hb); have n1_ := Aside0.mk (hbox); have n2_ := Aside0.mk ((by rw [hg]; exact (below_size (by repeat (first | (with_reducible first | exact HB.out | apply below_alloc | apply pw_below_drewN | apply below_drew1) | exact HB.out))) : w.heap.size ≤ gb101)); have n3_ := Aside0.mk ((by rw [hg]; exact (below_size (by repeat (first | (with_reducible first | exact HB.out | apply below_alloc | apply pw_below_drewN | apply below_drew1) | exact HB.out))) : w.heap.size ≤ gb101)); clear HB; have HB := n0_; have BK101 := n1_; have GW101 := n2_; have GE101 := n3_; clear n0_ n1_ n2_ n3_; clear hb hbox hg; have hcz3_0 : w2.cell? ⟨gb101, 0, none⟩ = some (.bool false) := (blk_cell BK101.out 0).trans rfl; have hcz3_1 : w2.cell? ⟨gb101, 1, none⟩ = some (.string (⟨#[]⟩ : ByteArray)) := (blk_cell BK101.out 1).trans rfl; have hcz3_2 : w2.cell? ⟨gb101, 2, none⟩ = some (.int .i64 0) := (blk_cell BK101.out 2).trans rfl; have hfz3_0 := blk_frozen BK101.out 0; have hfz3_1 := blk_frozen BK101.out 1; have hfz3_2 := blk_frozen BK101.out 2))
 refine bodyPost_ret (results_cell_row rfl _ _ gb101 28 #[.bool true, .string a0, .int .i64 0] (0, 0) _ rfl (by (with_reducible repeat (first | refine blk_drewN ?_ _ | refine blk_drew ?_ | refine blk_alloc ?_ _)); refine blk_put (cs := #[.bool true, .string a0, .int .i64 0]) ?_ 2 _ rfl; (with_reducible repeat (first | refine blk_drewN ?_ _ | refine blk_drew ?_ | refine blk_alloc ?_ _)); refine blk_put (cs := #[.bool true, .string (⟨#[]⟩ : ByteArray), .int .i64 0]) ?_ 1 _ rfl; (with_reducible repeat (first | refine blk_drewN ?_ _ | refine blk_drew ?_ | refine blk_alloc ?_ _)); refine blk_put (cs := #[.bool false, .string (⟨#[]⟩ : ByteArray), .int .i64 0]) ?_ 0 _ rfl; (with_reducible repeat (first | refine blk_drewN ?_ _ | refine blk_drew ?_ | refine blk_alloc ?_ _)); exact BK101.out) Try.underlying28 rfl (by kernel_rfl)) rfl ?_
 exact ⟨by first | rfl | (simp [errW_none, errW_some] <;> rfl) | (simp [*, errW_none, errW_some] <;> rfl), by repeat (first | (with_reducible first | exact HB.out | apply below_alloc | apply pw_below_drewN | apply below_drew1 | refine below_set ?_ GE101.out) | exact HB.out)⟩
def lambrequinlaw21_shown.f (k : Nat)  : Option (Bool) := (facts_Of.f k (([(⟨4, (⟨#[120]⟩ : ByteArray), (⟨#[]⟩ : ByteArray), (⟨#[]⟩ : ByteArray), (⟨#[]⟩ : ByteArray), 0, 0, 0⟩ : Stmt), (⟨9, (⟨#[]⟩ : ByteArray), (⟨#[]⟩ : ByteArray), (⟨#[]⟩ : ByteArray), (⟨#[]⟩ : ByteArray), 0, 0, 0⟩ : Stmt)] : List (Stmt)))).bind fun t104 => (if (t104.length : Int) = 5 then (if 0 < (t104.length : Int) then (if ((rd_T44 t104 0).pred).toList = ([100, 101, 102] : List UInt8) then ((lambrequinlaw21_num.f 0).bind fun bt108 => ((lambrequinlaw21_num.f 1).bind fun bt111 => ((facts_Has.f t104 (⟨#[110, 101, 120, 116]⟩ : ByteArray) (([(⟨bt108.1, bt108.2.1, bt108.2.2⟩ : Val), (⟨bt111.1, bt111.2.1, bt111.2.2⟩ : Val)] : List (Val)))).bind fun t117 => (if t117 = true then ((lambrequinlaw21_num.f 0).bind fun bt118 => ((lambrequinlaw21_sym.f (⟨#[120]⟩ : ByteArray)).bind fun bt121 => ((facts_Has.f t104 (⟨#[115, 111, 117, 114, 99, 101]⟩ : ByteArray) (([(⟨bt118.1, bt118.2.1, bt118.2.2⟩ : Val), (⟨bt121.1, bt121.2.1, bt121.2.2⟩ : Val)] : List (Val)))).bind fun t127 => (if t127 = true then ((lambrequinlaw21_num.f 1).bind fun bt128 => ((lambrequinlaw21_num.f 0).bind fun bt131 => ((facts_Has.f t104 (⟨#[110, 101, 120, 116]⟩ : ByteArray) (([(⟨bt128.1, bt128.2.1, bt128.2.2⟩ : Val), (⟨bt131.1, bt131.2.1, bt131.2.2⟩ : Val)] : List (Val)))).bind fun t137 => (some (!t137))))) else (some false))))) else (some false))))) else (some false)) else (none)) else (some false))
theorem lambrequinlaw21_shown.mono : ∀ k, LeO (lambrequinlaw21_shown.f k ) (lambrequinlaw21_shown.f (k + 1) ) := by
 intro  k
 unfold lambrequinlaw21_shown.f
 repeat' first
   | (with_reducible exact facts_Of.mono _ _)
   | (with_reducible exact LeO.refl _)
   | (with_reducible exact LeO.none _)
   | (with_reducible refine LeO.ite ?_ ?_)
   | (with_reducible refine LeO.bind ?_ (fun _ => ?_))
   | exact facts_Of.mono _ _
   | exact LeO.none _
   | refine LeO.ite ?_ ?_
   | refine LeO.bind ?_ (fun _ => ?_)
set_option maxHeartbeats 8000000 in
set_option maxRecDepth 100000 in
theorem lambrequinlaw21_shown.calls (k : Nat)  (r : Bool) (w : World) (h : lambrequinlaw21_shown.f k  = some r) :
  Calls Try.prog 7 #[] w fun e w' => e = .returned (.bool r) ∧ Below w.heap.size w w' := by
 have hu33 := Try.underlying33
 have HB := am (Below.refl w.heap.size w)
 have H : ((facts_Of.f k (([(⟨4, (⟨#[120]⟩ : ByteArray), (⟨#[]⟩ : ByteArray), (⟨#[]⟩ : ByteArray), (⟨#[]⟩ : ByteArray), 0, 0, 0⟩ : Stmt), (⟨9, (⟨#[]⟩ : ByteArray), (⟨#[]⟩ : ByteArray), (⟨#[]⟩ : ByteArray), (⟨#[]⟩ : ByteArray), 0, 0, 0⟩ : Stmt)] : List (Stmt)))).bind fun t104 => (if (t104.length : Int) = 5 then (if 0 < (t104.length : Int) then (if ((rd_T44 t104 0).pred).toList = ([100, 101, 102] : List UInt8) then ((lambrequinlaw21_num.f 0).bind fun bt108 => ((lambrequinlaw21_num.f 1).bind fun bt111 => ((facts_Has.f t104 (⟨#[110, 101, 120, 116]⟩ : ByteArray) (([(⟨bt108.1, bt108.2.1, bt108.2.2⟩ : Val), (⟨bt111.1, bt111.2.1, bt111.2.2⟩ : Val)] : List (Val)))).bind fun t117 => (if t117 = true then ((lambrequinlaw21_num.f 0).bind fun bt118 => ((lambrequinlaw21_sym.f (⟨#[120]⟩ : ByteArray)).bind fun bt121 => ((facts_Has.f t104 (⟨#[115, 111, 117, 114, 99, 101]⟩ : ByteArray) (([(⟨bt118.1, bt118.2.1, bt118.2.2⟩ : Val), (⟨bt121.1, bt121.2.1, bt121.2.2⟩ : Val)] : List (Val)))).bind fun t127 => (if t127 = true then ((lambrequinlaw21_num.f 1).bind fun bt128 => ((lambrequinlaw21_num.f 0).bind fun bt131 => ((facts_Has.f t104 (⟨#[110, 101, 120, 116]⟩ : ByteArray) (([(⟨bt128.1, bt128.2.1, bt128.2.2⟩ : Val), (⟨bt131.1, bt131.2.1, bt131.2.2⟩ : Val)] : List (Val)))).bind fun t137 => (some (!t137))))) else (some false))))) else (some false))))) else (some false)) else (none)) else (some false))) = some r := h
 clear h
 obtain ⟨y101, hy101⟩ : ∃ y_ : List (Stmt), y_ = (([(⟨4, (⟨#[120]⟩ : ByteArray), (⟨#[]⟩ : ByteArray), (⟨#[]⟩ : ByteArray), (⟨#[]⟩ : ByteArray), 0, 0, 0⟩ : Stmt), (⟨9, (⟨#[]⟩ : ByteArray), (⟨#[]⟩ : ByteArray), (⟨#[]⟩ : ByteArray), (⟨#[]⟩ : ByteArray), 0, 0, 0⟩ : Stmt)] : List (Stmt))) := ⟨_, rfl⟩
 replace H : ((facts_Of.f k y101).bind fun t104 => (if (t104.length : Int) = 5 then (if 0 < (t104.length : Int) then (if ((rd_T44 t104 0).pred).toList = ([100, 101, 102] : List UInt8) then ((lambrequinlaw21_num.f 0).bind fun bt108 => ((lambrequinlaw21_num.f 1).bind fun bt111 => ((facts_Has.f t104 (⟨#[110, 101, 120, 116]⟩ : ByteArray) (([(⟨bt108.1, bt108.2.1, bt108.2.2⟩ : Val), (⟨bt111.1, bt111.2.1, bt111.2.2⟩ : Val)] : List (Val)))).bind fun t117 => (if t117 = true then ((lambrequinlaw21_num.f 0).bind fun bt118 => ((lambrequinlaw21_sym.f (⟨#[120]⟩ : ByteArray)).bind fun bt121 => ((facts_Has.f t104 (⟨#[115, 111, 117, 114, 99, 101]⟩ : ByteArray) (([(⟨bt118.1, bt118.2.1, bt118.2.2⟩ : Val), (⟨bt121.1, bt121.2.1, bt121.2.2⟩ : Val)] : List (Val)))).bind fun t127 => (if t127 = true then ((lambrequinlaw21_num.f 1).bind fun bt128 => ((lambrequinlaw21_num.f 0).bind fun bt131 => ((facts_Has.f t104 (⟨#[110, 101, 120, 116]⟩ : ByteArray) (([(⟨bt128.1, bt128.2.1, bt128.2.2⟩ : Val), (⟨bt131.1, bt131.2.1, bt131.2.2⟩ : Val)] : List (Val)))).bind fun t137 => (some (!t137))))) else (some false))))) else (some false))))) else (some false)) else (none)) else (some false))) = some r := by first | (rw [hy101]; with_reducible exact H) | (have H2_ := (Option.bind_some _ _).symm.trans H; rw [hy101]; with_reducible exact H2_) | (have H2_ := (Option.bind_some _ _).symm.trans H; with_reducible exact H2_) | with_reducible exact H | (rw [hy101]; exact H) | exact H
 have Ny101 := am hy101
 clear hy101
 replace H := Option.bind_eq_some_iff.mp H
 obtain ⟨t104, A10, H⟩ := H
 replace H : (if (t104.length : Int) = 5 then (if 0 < (t104.length : Int) then (if ((rd_T44 t104 0).pred).toList = ([100, 101, 102] : List UInt8) then ((lambrequinlaw21_num.f 0).bind fun bt108 => ((lambrequinlaw21_num.f 1).bind fun bt111 => ((facts_Has.f t104 (⟨#[110, 101, 120, 116]⟩ : ByteArray) (([(⟨bt108.1, bt108.2.1, bt108.2.2⟩ : Val), (⟨bt111.1, bt111.2.1, bt111.2.2⟩ : Val)] : List (Val)))).bind fun t117 => (if t117 = true then ((lambrequinlaw21_num.f 0).bind fun bt118 => ((lambrequinlaw21_sym.f (⟨#[120]⟩ : ByteArray)).bind fun bt121 => ((facts_Has.f t104 (⟨#[115, 111, 117, 114, 99, 101]⟩ : ByteArray) (([(⟨bt118.1, bt118.2.1, bt118.2.2⟩ : Val), (⟨bt121.1, bt121.2.1, bt121.2.2⟩ : Val)] : List (Val)))).bind fun t127 => (if t127 = true then ((lambrequinlaw21_num.f 1).bind fun bt128 => ((lambrequinlaw21_num.f 0).bind fun bt131 => ((facts_Has.f t104 (⟨#[110, 101, 120, 116]⟩ : ByteArray) (([(⟨bt128.1, bt128.2.1, bt128.2.2⟩ : Val), (⟨bt131.1, bt131.2.1, bt131.2.2⟩ : Val)] : List (Val)))).bind fun t137 => (some (!t137))))) else (some false))))) else (some false))))) else (some false)) else (none)) else (some false)) = some r := H
 have A1 := am A10
 clear A10
 by_cases c2 : (t104.length : Int) = 5
 ·rw [if_pos c2] at H
  have c2b0 : ((t104.length : Int) == 5) = true := beq_iff_eq.mpr c2
  have c2b1 : ((t104.length : Int) != 5) = false := bne_eq_false_iff_eq.mpr c2
  clear c2
  by_cases c3 : 0 < (t104.length : Int)
  ·rw [if_pos c3] at H
   have c3b0 : decide (0 < (t104.length : Int)) = true := decide_eq_true c3
   have c3b1 : decide (0 < t104.length) = true := decide_eq_true (by omega)
   clear c3
   by_cases c4 : ((rd_T44 t104 0).pred).toList = ([100, 101, 102] : List UInt8)
   ·rw [if_pos c4] at H
    have c4b0 : (((rd_T44 t104 0).pred).toList == ([100, 101, 102] : List UInt8)) = true := beq_iff_eq.mpr c4
    have c4b1 : (((rd_T44 t104 0).pred).toList != ([100, 101, 102] : List UInt8)) = false := bne_eq_false_iff_eq.mpr c4
    clear c4
    replace H := Option.bind_eq_some_iff.mp H
    obtain ⟨⟨t108, t109, t110⟩, A50, H⟩ := H
    replace H : ((lambrequinlaw21_num.f 1).bind fun bt111 => ((facts_Has.f t104 (⟨#[110, 101, 120, 116]⟩ : ByteArray) (([(⟨t108, t109, t110⟩ : Val), (⟨bt111.1, bt111.2.1, bt111.2.2⟩ : Val)] : List (Val)))).bind fun t117 => (if t117 = true then ((lambrequinlaw21_num.f 0).bind fun bt118 => ((lambrequinlaw21_sym.f (⟨#[120]⟩ : ByteArray)).bind fun bt121 => ((facts_Has.f t104 (⟨#[115, 111, 117, 114, 99, 101]⟩ : ByteArray) (([(⟨bt118.1, bt118.2.1, bt118.2.2⟩ : Val), (⟨bt121.1, bt121.2.1, bt121.2.2⟩ : Val)] : List (Val)))).bind fun t127 => (if t127 = true then ((lambrequinlaw21_num.f 1).bind fun bt128 => ((lambrequinlaw21_num.f 0).bind fun bt131 => ((facts_Has.f t104 (⟨#[110, 101, 120, 116]⟩ : ByteArray) (([(⟨bt128.1, bt128.2.1, bt128.2.2⟩ : Val), (⟨bt131.1, bt131.2.1, bt131.2.2⟩ : Val)] : List (Val)))).bind fun t137 => (some (!t137))))) else (some false))))) else (some false)))) = some r := H
    have A5 := am A50
    clear A50
    replace H := Option.bind_eq_some_iff.mp H
    obtain ⟨⟨t111, t112, t113⟩, A60, H⟩ := H
    replace H : ((facts_Has.f t104 (⟨#[110, 101, 120, 116]⟩ : ByteArray) (([(⟨t108, t109, t110⟩ : Val), (⟨t111, t112, t113⟩ : Val)] : List (Val)))).bind fun t117 => (if t117 = true then ((lambrequinlaw21_num.f 0).bind fun bt118 => ((lambrequinlaw21_sym.f (⟨#[120]⟩ : ByteArray)).bind fun bt121 => ((facts_Has.f t104 (⟨#[115, 111, 117, 114, 99, 101]⟩ : ByteArray) (([(⟨bt118.1, bt118.2.1, bt118.2.2⟩ : Val), (⟨bt121.1, bt121.2.1, bt121.2.2⟩ : Val)] : List (Val)))).bind fun t127 => (if t127 = true then ((lambrequinlaw21_num.f 1).bind fun bt128 => ((lambrequinlaw21_num.f 0).bind fun bt131 => ((facts_Has.f t104 (⟨#[110, 101, 120, 116]⟩ : ByteArray) (([(⟨bt128.1, bt128.2.1, bt128.2.2⟩ : Val), (⟨bt131.1, bt131.2.1, bt131.2.2⟩ : Val)] : List (Val)))).bind fun t137 => (some (!t137))))) else (some false))))) else (some false))) = some r := H
    have A6 := am A60
    clear A60
    obtain ⟨y114, hy114⟩ : ∃ y_ : List (Val), y_ = (([(⟨t108, t109, t110⟩ : Val), (⟨t111, t112, t113⟩ : Val)] : List (Val))) := ⟨_, rfl⟩
    replace H : ((facts_Has.f t104 (⟨#[110, 101, 120, 116]⟩ : ByteArray) y114).bind fun t117 => (if t117 = true then ((lambrequinlaw21_num.f 0).bind fun bt118 => ((lambrequinlaw21_sym.f (⟨#[120]⟩ : ByteArray)).bind fun bt121 => ((facts_Has.f t104 (⟨#[115, 111, 117, 114, 99, 101]⟩ : ByteArray) (([(⟨bt118.1, bt118.2.1, bt118.2.2⟩ : Val), (⟨bt121.1, bt121.2.1, bt121.2.2⟩ : Val)] : List (Val)))).bind fun t127 => (if t127 = true then ((lambrequinlaw21_num.f 1).bind fun bt128 => ((lambrequinlaw21_num.f 0).bind fun bt131 => ((facts_Has.f t104 (⟨#[110, 101, 120, 116]⟩ : ByteArray) (([(⟨bt128.1, bt128.2.1, bt128.2.2⟩ : Val), (⟨bt131.1, bt131.2.1, bt131.2.2⟩ : Val)] : List (Val)))).bind fun t137 => (some (!t137))))) else (some false))))) else (some false))) = some r := by first | (rw [hy114]; with_reducible exact H) | (have H2_ := (Option.bind_some _ _).symm.trans H; rw [hy114]; with_reducible exact H2_) | (have H2_ := (Option.bind_some _ _).symm.trans H; with_reducible exact H2_) | with_reducible exact H | (rw [hy114]; exact H) | exact H
    have Ny114 := am hy114
    clear hy114
    replace H := Option.bind_eq_some_iff.mp H
    obtain ⟨t117, A70, H⟩ := H
    replace H : (if t117 = true then ((lambrequinlaw21_num.f 0).bind fun bt118 => ((lambrequinlaw21_sym.f (⟨#[120]⟩ : ByteArray)).bind fun bt121 => ((facts_Has.f t104 (⟨#[115, 111, 117, 114, 99, 101]⟩ : ByteArray) (([(⟨bt118.1, bt118.2.1, bt118.2.2⟩ : Val), (⟨bt121.1, bt121.2.1, bt121.2.2⟩ : Val)] : List (Val)))).bind fun t127 => (if t127 = true then ((lambrequinlaw21_num.f 1).bind fun bt128 => ((lambrequinlaw21_num.f 0).bind fun bt131 => ((facts_Has.f t104 (⟨#[110, 101, 120, 116]⟩ : ByteArray) (([(⟨bt128.1, bt128.2.1, bt128.2.2⟩ : Val), (⟨bt131.1, bt131.2.1, bt131.2.2⟩ : Val)] : List (Val)))).bind fun t137 => (some (!t137))))) else (some false))))) else (some false)) = some r := H
    have A7 := am A70
    clear A70
    by_cases c8 : t117 = true
    ·subst c8
     have H1 : ((lambrequinlaw21_num.f 0).bind fun bt118 => ((lambrequinlaw21_sym.f (⟨#[120]⟩ : ByteArray)).bind fun bt121 => ((facts_Has.f t104 (⟨#[115, 111, 117, 114, 99, 101]⟩ : ByteArray) (([(⟨bt118.1, bt118.2.1, bt118.2.2⟩ : Val), (⟨bt121.1, bt121.2.1, bt121.2.2⟩ : Val)] : List (Val)))).bind fun t127 => (if t127 = true then ((lambrequinlaw21_num.f 1).bind fun bt128 => ((lambrequinlaw21_num.f 0).bind fun bt131 => ((facts_Has.f t104 (⟨#[110, 101, 120, 116]⟩ : ByteArray) (([(⟨bt128.1, bt128.2.1, bt128.2.2⟩ : Val), (⟨bt131.1, bt131.2.1, bt131.2.2⟩ : Val)] : List (Val)))).bind fun t137 => (some (!t137))))) else (some false))))) = some r := by rw [if_pos rfl] at H; exact H
     clear H
     have H := H1
     clear H1
     replace H := Option.bind_eq_some_iff.mp H
     obtain ⟨⟨t118, t119, t120⟩, A90, H⟩ := H
     replace H : ((lambrequinlaw21_sym.f (⟨#[120]⟩ : ByteArray)).bind fun bt121 => ((facts_Has.f t104 (⟨#[115, 111, 117, 114, 99, 101]⟩ : ByteArray) (([(⟨t118, t119, t120⟩ : Val), (⟨bt121.1, bt121.2.1, bt121.2.2⟩ : Val)] : List (Val)))).bind fun t127 => (if t127 = true then ((lambrequinlaw21_num.f 1).bind fun bt128 => ((lambrequinlaw21_num.f 0).bind fun bt131 => ((facts_Has.f t104 (⟨#[110, 101, 120, 116]⟩ : ByteArray) (([(⟨bt128.1, bt128.2.1, bt128.2.2⟩ : Val), (⟨bt131.1, bt131.2.1, bt131.2.2⟩ : Val)] : List (Val)))).bind fun t137 => (some (!t137))))) else (some false)))) = some r := H
     have A9 := am A90
     clear A90
     replace H := Option.bind_eq_some_iff.mp H
     obtain ⟨⟨t121, t122, t123⟩, A100, H⟩ := H
     replace H : ((facts_Has.f t104 (⟨#[115, 111, 117, 114, 99, 101]⟩ : ByteArray) (([(⟨t118, t119, t120⟩ : Val), (⟨t121, t122, t123⟩ : Val)] : List (Val)))).bind fun t127 => (if t127 = true then ((lambrequinlaw21_num.f 1).bind fun bt128 => ((lambrequinlaw21_num.f 0).bind fun bt131 => ((facts_Has.f t104 (⟨#[110, 101, 120, 116]⟩ : ByteArray) (([(⟨bt128.1, bt128.2.1, bt128.2.2⟩ : Val), (⟨bt131.1, bt131.2.1, bt131.2.2⟩ : Val)] : List (Val)))).bind fun t137 => (some (!t137))))) else (some false))) = some r := H
     have A10 := am A100
     clear A100
     obtain ⟨y124, hy124⟩ : ∃ y_ : List (Val), y_ = (([(⟨t118, t119, t120⟩ : Val), (⟨t121, t122, t123⟩ : Val)] : List (Val))) := ⟨_, rfl⟩
     replace H : ((facts_Has.f t104 (⟨#[115, 111, 117, 114, 99, 101]⟩ : ByteArray) y124).bind fun t127 => (if t127 = true then ((lambrequinlaw21_num.f 1).bind fun bt128 => ((lambrequinlaw21_num.f 0).bind fun bt131 => ((facts_Has.f t104 (⟨#[110, 101, 120, 116]⟩ : ByteArray) (([(⟨bt128.1, bt128.2.1, bt128.2.2⟩ : Val), (⟨bt131.1, bt131.2.1, bt131.2.2⟩ : Val)] : List (Val)))).bind fun t137 => (some (!t137))))) else (some false))) = some r := by first | (rw [hy124]; with_reducible exact H) | (have H2_ := (Option.bind_some _ _).symm.trans H; rw [hy124]; with_reducible exact H2_) | (have H2_ := (Option.bind_some _ _).symm.trans H; with_reducible exact H2_) | with_reducible exact H | (rw [hy124]; exact H) | exact H
     have Ny124 := am hy124
     clear hy124
     replace H := Option.bind_eq_some_iff.mp H
     obtain ⟨t127, A110, H⟩ := H
     replace H : (if t127 = true then ((lambrequinlaw21_num.f 1).bind fun bt128 => ((lambrequinlaw21_num.f 0).bind fun bt131 => ((facts_Has.f t104 (⟨#[110, 101, 120, 116]⟩ : ByteArray) (([(⟨bt128.1, bt128.2.1, bt128.2.2⟩ : Val), (⟨bt131.1, bt131.2.1, bt131.2.2⟩ : Val)] : List (Val)))).bind fun t137 => (some (!t137))))) else (some false)) = some r := H
     have A11 := am A110
     clear A110
     by_cases c12 : t127 = true
     ·subst c12
      have H1 : ((lambrequinlaw21_num.f 1).bind fun bt128 => ((lambrequinlaw21_num.f 0).bind fun bt131 => ((facts_Has.f t104 (⟨#[110, 101, 120, 116]⟩ : ByteArray) (([(⟨bt128.1, bt128.2.1, bt128.2.2⟩ : Val), (⟨bt131.1, bt131.2.1, bt131.2.2⟩ : Val)] : List (Val)))).bind fun t137 => (some (!t137))))) = some r := by rw [if_pos rfl] at H; exact H
      clear H
      have H := H1
      clear H1
      replace H := Option.bind_eq_some_iff.mp H
      obtain ⟨⟨t128, t129, t130⟩, A130, H⟩ := H
      replace H : ((lambrequinlaw21_num.f 0).bind fun bt131 => ((facts_Has.f t104 (⟨#[110, 101, 120, 116]⟩ : ByteArray) (([(⟨t128, t129, t130⟩ : Val), (⟨bt131.1, bt131.2.1, bt131.2.2⟩ : Val)] : List (Val)))).bind fun t137 => (some (!t137)))) = some r := H
      have A13 := am A130
      clear A130
      replace H := Option.bind_eq_some_iff.mp H
      obtain ⟨⟨t131, t132, t133⟩, A140, H⟩ := H
      replace H : ((facts_Has.f t104 (⟨#[110, 101, 120, 116]⟩ : ByteArray) (([(⟨t128, t129, t130⟩ : Val), (⟨t131, t132, t133⟩ : Val)] : List (Val)))).bind fun t137 => (some (!t137))) = some r := H
      have A14 := am A140
      clear A140
      obtain ⟨y134, hy134⟩ : ∃ y_ : List (Val), y_ = (([(⟨t128, t129, t130⟩ : Val), (⟨t131, t132, t133⟩ : Val)] : List (Val))) := ⟨_, rfl⟩
      replace H : ((facts_Has.f t104 (⟨#[110, 101, 120, 116]⟩ : ByteArray) y134).bind fun t137 => (some (!t137))) = some r := by first | (rw [hy134]; with_reducible exact H) | (have H2_ := (Option.bind_some _ _).symm.trans H; rw [hy134]; with_reducible exact H2_) | (have H2_ := (Option.bind_some _ _).symm.trans H; with_reducible exact H2_) | with_reducible exact H | (rw [hy134]; exact H) | exact H
      have Ny134 := am hy134
      clear hy134
      replace H := Option.bind_eq_some_iff.mp H
      obtain ⟨t137, A150, H⟩ := H
      replace H : (some (!t137)) = some r := H
      have A15 := am A150
      clear A150
      obtain rfl := Option.some.inj H
      go_enter Try.func7, Try.ntmps7
      go_wp2_with (first | ((with_reducible refine gate_dst (N := 4) rfl ?_); (try (refine gate_guard (by rfl) ?_; dsimp only)); refine Kd.R_lit k33 _ 33 ?hg (N := 4) ?hd (xs := ([(⟨4, (⟨#[120]⟩ : ByteArray), (⟨#[]⟩ : ByteArray), (⟨#[]⟩ : ByteArray), (⟨#[]⟩ : ByteArray), 0, 0, 0⟩ : Stmt), (⟨9, (⟨#[]⟩ : ByteArray), (⟨#[]⟩ : ByteArray), (⟨#[]⟩ : ByteArray), (⟨#[]⟩ : ByteArray), 0, 0, 0⟩ : Stmt)] : List (Stmt))) (inner := [.int .i64 4, .string (⟨#[120]⟩ : ByteArray), .string (⟨#[]⟩ : ByteArray), .string (⟨#[]⟩ : ByteArray), .string (⟨#[]⟩ : ByteArray), .int .i64 0, .int .i64 0, .int .i64 0, .int .i64 9, .string (⟨#[]⟩ : ByteArray), .string (⟨#[]⟩ : ByteArray), .string (⟨#[]⟩ : ByteArray), .string (⟨#[]⟩ : ByteArray), .int .i64 0, .int .i64 0, .int .i64 0]) (ok := fun _ => True) (okp := fun _ => True) ?hr ?hp (fun _ hk => hk) trivial (Below.refl _ _) (Nat.le_refl _) (by simp) ?_; (case hd => rfl); (case hg => rfl); (case hr => first | (go_simp; done) | (go_simp; rfl)); (case hp => exact (Reps.c8 (show Kd.M k33 _ _ _ (⟨4, (⟨#[120]⟩ : ByteArray), (⟨#[]⟩ : ByteArray), (⟨#[]⟩ : ByteArray), (⟨#[]⟩ : ByteArray), 0, 0, 0⟩ : Stmt) [.int .i64 4, .string (⟨#[120]⟩ : ByteArray), .string (⟨#[]⟩ : ByteArray), .string (⟨#[]⟩ : ByteArray), .string (⟨#[]⟩ : ByteArray), .int .i64 0, .int .i64 0, .int .i64 0] from (k33_mkM _ _ _ (⟨4, (⟨#[120]⟩ : ByteArray), (⟨#[]⟩ : ByteArray), (⟨#[]⟩ : ByteArray), (⟨#[]⟩ : ByteArray), 0, 0, 0⟩ : Stmt) )) (Reps.c8 (show Kd.M k33 _ _ _ (⟨9, (⟨#[]⟩ : ByteArray), (⟨#[]⟩ : ByteArray), (⟨#[]⟩ : ByteArray), (⟨#[]⟩ : ByteArray), 0, 0, 0⟩ : Stmt) [.int .i64 9, .string (⟨#[]⟩ : ByteArray), .string (⟨#[]⟩ : ByteArray), .string (⟨#[]⟩ : ByteArray), .string (⟨#[]⟩ : ByteArray), .int .i64 0, .int .i64 0, .int .i64 0] from (k33_mkM _ _ _ (⟨9, (⟨#[]⟩ : ByteArray), (⟨#[]⟩ : ByteArray), (⟨#[]⟩ : ByteArray), (⟨#[]⟩ : ByteArray), 0, 0, 0⟩ : Stmt) )) (Reps.none _ _)))); intro v102 w16 ho17 hb hg_ hnew_; clear hg_ hnew_; (first | rw [← Ny101.out] at ho17 | (simp only [Int.reduceToNat] at ho17; rw [← Ny101.out] at ho17)); have HO103 := am (Kd.R_lower ho17 (below_size (pL HB.out))); replace HB := am (bs_ HB.out hb); clear hb ho17; obtain ⟨Ao18, co18, eo18⟩ := Kd.R_slice HO103.out; subst eo18) | ((with_reducible refine gate_callee (f := 8) rfl ?_); refine goesL_ (some 5) rfl rfl Try.func8 (by kernel_rfl) rfl #[.slice Ao18 y101.length co18] rfl (by (try simp only [List.map_toArray, List.map_cons, List.map_nil]); first | done | rfl | (simp only [List.length_drop, List.length_take]; rfl)) ?_; (with_reducible refine (facts_Of.calls k _ _ y101 t104 _ ?side1 ?side2 A1.out).mono ?_); (case side1 => repeat (first | exact (Kd.R_reads' HO103.out).2.2 | (with_reducible refine Kd.C_alloc ?_ _) | (with_reducible refine Kd.C_drewN ?_ _) | (with_reducible refine Kd.C_drew ?_))); (case side2 => exact (Kd.R_reads' HO103.out).2.1); rintro e w19 ⟨v105, rfl, ho0, hb⟩; refine ⟨_, rfl, ?_⟩; have HO106 := am (Kd.N_lower (Kd.N_mono (ok' := fun k_ => some k_ ≠ (.slice Ao18 y101.length co18 : Value).ownBlock) ho0 (fun k_ hk_ => (Kd.fresh' (Kd.R_lt (pR HO103.out)) k_ hk_))) (below_size (pL HB.out))); replace HO103 := am (Rb_ HO103.out hb); replace HB := am (bs_ HB.out hb); (try clear hb); (try clear hb2); (try clear hk); (try clear hi); (try clear ho0); obtain ⟨Ao20, co20, eo20⟩ := Kd.N_slice HO106.out; subst eo20; have p107 : 0 ≤ (0 : Int) := (by omega); have q107 : 0 < (t104.length : Int) := dt_; obtain ⟨ad107, A107_1, c107_1, e107, hx107_0, hx107_1, hl107_1, hi107_1⟩ := at_T44 (Kd.N_reads' HO106.out).2.2 0 p107 q107; cases e107; obtain ⟨ce107, hce107, hMe107, hcc107⟩ := Kd.N_get HO106.out z44 0 p107 (by first | exact q107 | exact dt_ | (have e_ := (Kd.N_reads' HO106.out).1; omega)); obtain ⟨ua107_1, uc107_1, rfl, ul107_1, ge107_1⟩ := k44_openF hMe107; have hv107_1 := hcc107 1 _ rfl; rw [add_field _ _ 1 (by omega)] at hv107_1; replace hv107_1 := Option.some.inj (hv107_1.symm.trans hx107_1); injection hv107_1 with hva_ hvn_ hvc_; rw [hva_] at ge107_1; rw [hvc_] at ul107_1; have HL107_1 := am (show Kd.V k28 28 _ w.heap.size _ _ ((rd_T44 t104 0).args) from Kd.V_mk ul107_1 ge107_1); clear hva_ hvn_ hvc_ ge107_1 ul107_1; clear hcc107 hce107; have qi107 : (0 < t104.length) = True := eq_true (by omega); (try rw [show ((0 : Int)).toNat = 0 from rfl] at hx107_0); (try rw [show 0 * 2 = 0 from rfl] at hx107_0); (try rw [Addr.add_zero'] at hx107_0); (try rw [show ((0 : Int)).toNat = 0 from rfl] at hx107_1); (try rw [show 0 * 2 = 0 from rfl] at hx107_1); (try rw [Addr.add_zero'] at hx107_1); have HR107_1 := am hi107_1; have HC107_1 := am hl107_1; clear hi107_1 hl107_1; replace p107 := eq_true p107; replace q107 := eq_true q107) | (go_at_call 10; (with_reducible refine (lambrequinlaw21_num.calls 0 t108 t109 t110 _ A5.out).mono ?_); rintro e w21 ⟨rfl, hb⟩; (try clear A5); replace HO103 := am (Rb_ HO103.out hb); replace HO106 := am (Kd.N_below (by (with_reducible repeat (first | apply Kd.N_alloc | apply Kd.N_drewN | apply Kd.N_drew)); exact HO106.out) hb); replace HL107_1 := am (Kd.V_below (pV HL107_1.out) hb); replace HR107_1 := am (Kd.C_below (by repeat (first | (with_reducible exact HR107_1.out) | (with_reducible refine Kd.C_alloc ?_ _) | (with_reducible refine Kd.C_drewN ?_ _) | (with_reducible refine Kd.C_drew ?_) | exact HR107_1.out)) hb); replace HB := am (bs_ HB.out hb); (try clear hb); (try clear hb2); (try clear hk); (try clear hi)) | (go_at_call 10; (with_reducible refine (lambrequinlaw21_num.calls 1 t111 t112 t113 _ A6.out).mono ?_); rintro e w22 ⟨rfl, hb⟩; (try clear A6); replace HO103 := am (Rb_ HO103.out hb); replace HO106 := am (Kd.N_below (by (with_reducible repeat (first | apply Kd.N_alloc | apply Kd.N_drewN | apply Kd.N_drew)); exact HO106.out) hb); replace HL107_1 := am (Kd.V_below (pV HL107_1.out) hb); replace HR107_1 := am (Kd.C_below (by repeat (first | (with_reducible exact HR107_1.out) | (with_reducible refine Kd.C_alloc ?_ _) | (with_reducible refine Kd.C_drewN ?_ _) | (with_reducible refine Kd.C_drew ?_) | exact HR107_1.out)) hb); replace HB := am (bs_ HB.out hb); (try clear hb); (try clear hb2); (try clear hk); (try clear hi)) | ((with_reducible refine gate_dst (N := 20) rfl ?_); (try (refine gate_guard (by rfl) ?_; dsimp only)); refine Kd.R_lit k28 _ 28 ?hg (N := 20) ?hd (xs := ([(⟨t108, t109, t110⟩ : Val), (⟨t111, t112, t113⟩ : Val)] : List (Val))) (inner := [.bool t108, .string t109, .int .i64 t110, .bool t111, .string t112, .int .i64 t113]) (ok := fun _ => True) (okp := fun _ => True) ?hr ?hp (fun _ hk => hk) trivial (Below.refl _ _) (Nat.le_refl _) (by simp) ?_; (case hd => rfl); (case hg => rfl); (case hr => first | (go_simp; done) | (go_simp; rfl)); (case hp => exact (Reps.c3 (show Kd.M k28 _ _ _ (⟨t108, t109, t110⟩ : Val) [.bool t108, .string t109, .int .i64 t110] from (k28_mkM _ _ _ (⟨t108, t109, t110⟩ : Val) )) (Reps.c3 (show Kd.M k28 _ _ _ (⟨t111, t112, t113⟩ : Val) [.bool t111, .string t112, .int .i64 t113] from (k28_mkM _ _ _ (⟨t111, t112, t113⟩ : Val) )) (Reps.none _ _)))); intro v115 w23 ho24 hb hg_ hnew_; clear hg_ hnew_; (first | rw [← Ny114.out] at ho24 | (simp only [Int.reduceToNat] at ho24; rw [← Ny114.out] at ho24)); replace HO103 := am (Rb_ HO103.out hb); replace HO106 := am (Kd.N_elder' (by (with_reducible repeat (first | apply Kd.N_alloc | apply Kd.N_drewN | apply Kd.N_drew)); exact HO106.out) (Kd.R_base ho24) hb); replace HL107_1 := am (Kd.V_elder' (pV HL107_1.out) (Kd.R_base ho24) hb); have HO116 := am (Kd.R_lower ho24 (below_size (pL HB.out))); replace HR107_1 := am (Kd.C_below (by repeat (first | (with_reducible exact HR107_1.out) | (with_reducible refine Kd.C_alloc ?_ _) | (with_reducible refine Kd.C_drewN ?_ _) | (with_reducible refine Kd.C_drew ?_) | exact HR107_1.out)) hb); replace HB := am (bs_ HB.out hb); clear hb ho24; obtain ⟨Ao25, co25, eo25⟩ := Kd.R_slice HO116.out; subst eo25) | (go_at_call 9; (with_reducible refine (facts_Has.calls _ _ t104 (⟨#[110, 101, 120, 116]⟩ : ByteArray) _ _ y114 true _ ?side1 ?side2 ?side3 ?side4 A7.out).mono ?_); (case side1 => repeat (first | exact (Kd.N_reads' HO106.out).2.2 | (with_reducible refine Kd.C_alloc ?_ _) | (with_reducible refine Kd.C_drewN ?_ _) | (with_reducible refine Kd.C_drew ?_))); (case side2 => exact (Kd.N_reads' HO106.out).2.1); (case side3 => repeat (first | exact (Kd.R_reads' HO116.out).2.2 | (with_reducible refine Kd.C_alloc ?_ _) | (with_reducible refine Kd.C_drewN ?_ _) | (with_reducible refine Kd.C_drew ?_))); (case side4 => exact (Kd.R_reads' HO116.out).2.1); rintro e w26 ⟨rfl, hb⟩; (try clear A7); replace HO103 := am (Rb_ HO103.out hb); replace HO106 := am (Kd.N_below (by (with_reducible repeat (first | apply Kd.N_alloc | apply Kd.N_drewN | apply Kd.N_drew)); exact HO106.out) hb); replace HL107_1 := am (Kd.V_below (pV HL107_1.out) hb); replace HO116 := am (Rb_ HO116.out hb); replace HR107_1 := am (Kd.C_below (by repeat (first | (with_reducible exact HR107_1.out) | (with_reducible refine Kd.C_alloc ?_ _) | (with_reducible refine Kd.C_drewN ?_ _) | (with_reducible refine Kd.C_drew ?_) | exact HR107_1.out)) hb); replace HB := am (bs_ HB.out hb); (try clear hb); (try clear hb2); (try clear hk); (try clear hi)) | (go_at_call 10; (with_reducible refine (lambrequinlaw21_num.calls 0 t118 t119 t120 _ A9.out).mono ?_); rintro e w27 ⟨rfl, hb⟩; (try clear A9); replace HO103 := am (Rb_ HO103.out hb); replace HO106 := am (Kd.N_below (by (with_reducible repeat (first | apply Kd.N_alloc | apply Kd.N_drewN | apply Kd.N_drew)); exact HO106.out) hb); replace HL107_1 := am (Kd.V_below (pV HL107_1.out) hb); replace HO116 := am (Rb_ HO116.out hb); replace HR107_1 := am (Kd.C_below (by repeat (first | (with_reducible exact HR107_1.out) | (with_reducible refine Kd.C_alloc ?_ _) | (with_reducible refine Kd.C_drewN ?_ _) | (with_reducible refine Kd.C_drew ?_) | exact HR107_1.out)) hb); replace HB := am (bs_ HB.out hb); (try clear hb); (try clear hb2); (try clear hk); (try clear hi)) | (go_at_call 15; (with_reducible refine (lambrequinlaw21_sym.calls (⟨#[120]⟩ : ByteArray) t121 t122 t123 _ A10.out).mono ?_); rintro e w28 ⟨rfl, hb⟩; (try clear A10); replace HO103 := am (Rb_ HO103.out hb); replace HO106 := am (Kd.N_below (by (with_reducible repeat (first | apply Kd.N_alloc | apply Kd.N_drewN | apply Kd.N_drew)); exact HO106.out) hb); replace HL107_1 := am (Kd.V_below (pV HL107_1.out) hb); replace HO116 := am (Rb_ HO116.out hb); replace HR107_1 := am (Kd.C_below (by repeat (first | (with_reducible exact HR107_1.out) | (with_reducible refine Kd.C_alloc ?_ _) | (with_reducible refine Kd.C_drewN ?_ _) | (with_reducible refine Kd.C_drew ?_) | exact HR107_1.out)) hb); replace HB := am (bs_ HB.out hb); (try clear hb); (try clear hb2); (try clear hk); (try clear hi)) | ((with_reducible refine gate_dst (N := 27) rfl ?_); (try (refine gate_guard (by rfl) ?_; dsimp only)); refine Kd.R_lit k28 _ 28 ?hg (N := 27) ?hd (xs := ([(⟨t118, t119, t120⟩ : Val), (⟨t121, t122, t123⟩ : Val)] : List (Val))) (inner := [.bool t118, .string t119, .int .i64 t120, .bool t121, .string t122, .int .i64 t123]) (ok := fun _ => True) (okp := fun _ => True) ?hr ?hp (fun _ hk => hk) trivial (Below.refl _ _) (Nat.le_refl _) (by simp) ?_; (case hd => rfl); (case hg => rfl); (case hr => first | (go_simp; done) | (go_simp; rfl)); (case hp => exact (Reps.c3 (show Kd.M k28 _ _ _ (⟨t118, t119, t120⟩ : Val) [.bool t118, .string t119, .int .i64 t120] from (k28_mkM _ _ _ (⟨t118, t119, t120⟩ : Val) )) (Reps.c3 (show Kd.M k28 _ _ _ (⟨t121, t122, t123⟩ : Val) [.bool t121, .string t122, .int .i64 t123] from (k28_mkM _ _ _ (⟨t121, t122, t123⟩ : Val) )) (Reps.none _ _)))); intro v125 w29 ho30 hb hg_ hnew_; clear hg_ hnew_; (first | rw [← Ny124.out] at ho30 | (simp only [Int.reduceToNat] at ho30; rw [← Ny124.out] at ho30)); replace HO103 := am (Rb_ HO103.out hb); replace HO106 := am (Kd.N_elder' (by (with_reducible repeat (first | apply Kd.N_alloc | apply Kd.N_drewN | apply Kd.N_drew)); exact HO106.out) (Kd.R_base ho30) hb); replace HL107_1 := am (Kd.V_elder' (pV HL107_1.out) (Kd.R_base ho30) hb); have HO126 := am (Kd.R_lower (Kd.R_new' ho30 (Kd.R_lt (pR HO116.out))) (below_size (pL HB.out))); replace HO116 := am (Kd.R_elder' (pR HO116.out) (Kd.R_base ho30) hb); replace HR107_1 := am (Kd.C_below (by repeat (first | (with_reducible exact HR107_1.out) | (with_reducible refine Kd.C_alloc ?_ _) | (with_reducible refine Kd.C_drewN ?_ _) | (with_reducible refine Kd.C_drew ?_) | exact HR107_1.out)) hb); replace HB := am (bs_ HB.out hb); clear hb ho30; obtain ⟨Ao31, co31, eo31⟩ := Kd.R_slice HO126.out; subst eo31) | (go_at_call 9; (with_reducible refine (facts_Has.calls _ _ t104 (⟨#[115, 111, 117, 114, 99, 101]⟩ : ByteArray) _ _ y124 true _ ?side1 ?side2 ?side3 ?side4 A11.out).mono ?_); (case side1 => repeat (first | exact (Kd.N_reads' HO106.out).2.2 | (with_reducible refine Kd.C_alloc ?_ _) | (with_reducible refine Kd.C_drewN ?_ _) | (with_reducible refine Kd.C_drew ?_))); (case side2 => exact (Kd.N_reads' HO106.out).2.1); (case side3 => repeat (first | exact (Kd.R_reads' HO126.out).2.2 | (with_reducible refine Kd.C_alloc ?_ _) | (with_reducible refine Kd.C_drewN ?_ _) | (with_reducible refine Kd.C_drew ?_))); (case side4 => exact (Kd.R_reads' HO126.out).2.1); rintro e w32 ⟨rfl, hb⟩; (try clear A11); replace HO103 := am (Rb_ HO103.out hb); replace HO106 := am (Kd.N_below (by (with_reducible repeat (first | apply Kd.N_alloc | apply Kd.N_drewN | apply Kd.N_drew)); exact HO106.out) hb); replace HL107_1 := am (Kd.V_below (pV HL107_1.out) hb); replace HO116 := am (Rb_ HO116.out hb); replace HO126 := am (Rb_ HO126.out hb); replace HR107_1 := am (Kd.C_below (by repeat (first | (with_reducible exact HR107_1.out) | (with_reducible refine Kd.C_alloc ?_ _) | (with_reducible refine Kd.C_drewN ?_ _) | (with_reducible refine Kd.C_drew ?_) | exact HR107_1.out)) hb); replace HB := am (bs_ HB.out hb); (try clear hb); (try clear hb2); (try clear hk); (try clear hi)) | (go_at_call 10; (with_reducible refine (lambrequinlaw21_num.calls 1 t128 t129 t130 _ A13.out).mono ?_); rintro e w33 ⟨rfl, hb⟩; (try clear A13); replace HO103 := am (Rb_ HO103.out hb); replace HO106 := am (Kd.N_below (by (with_reducible repeat (first | apply Kd.N_alloc | apply Kd.N_drewN | apply Kd.N_drew)); exact HO106.out) hb); replace HL107_1 := am (Kd.V_below (pV HL107_1.out) hb); replace HO116 := am (Rb_ HO116.out hb); replace HO126 := am (Rb_ HO126.out hb); replace HR107_1 := am (Kd.C_below (by repeat (first | (with_reducible exact HR107_1.out) | (with_reducible refine Kd.C_alloc ?_ _) | (with_reducible refine Kd.C_drewN ?_ _) | (with_reducible refine Kd.C_drew ?_) | exact HR107_1.out)) hb); replace HB := am (bs_ HB.out hb); (try clear hb); (try clear hb2); (try clear hk); (try clear hi)) | (go_at_call 10; (with_reducible refine (lambrequinlaw21_num.calls 0 t131 t132 t133 _ A14.out).mono ?_); rintro e w34 ⟨rfl, hb⟩; (try clear A14); replace HO103 := am (Rb_ HO103.out hb); replace HO106 := am (Kd.N_below (by (with_reducible repeat (first | apply Kd.N_alloc | apply Kd.N_drewN | apply Kd.N_drew)); exact HO106.out) hb); replace HL107_1 := am (Kd.V_below (pV HL107_1.out) hb); replace HO116 := am (Rb_ HO116.out hb); replace HO126 := am (Rb_ HO126.out hb); replace HR107_1 := am (Kd.C_below (by repeat (first | (with_reducible exact HR107_1.out) | (with_reducible refine Kd.C_alloc ?_ _) | (with_reducible refine Kd.C_drewN ?_ _) | (with_reducible refine Kd.C_drew ?_) | exact HR107_1.out)) hb); replace HB := am (bs_ HB.out hb); (try clear hb); (try clear hb2); (try clear hk); (try clear hi)) | ((with_reducible refine gate_dst (N := 34) rfl ?_); (try (refine gate_guard (by rfl) ?_; dsimp only)); refine Kd.R_lit k28 _ 28 ?hg (N := 34) ?hd (xs := ([(⟨t128, t129, t130⟩ : Val), (⟨t131, t132, t133⟩ : Val)] : List (Val))) (inner := [.bool t128, .string t129, .int .i64 t130, .bool t131, .string t132, .int .i64 t133]) (ok := fun _ => True) (okp := fun _ => True) ?hr ?hp (fun _ hk => hk) trivial (Below.refl _ _) (Nat.le_refl _) (by simp) ?_; (case hd => rfl); (case hg => rfl); (case hr => first | (go_simp; done) | (go_simp; rfl)); (case hp => exact (Reps.c3 (show Kd.M k28 _ _ _ (⟨t128, t129, t130⟩ : Val) [.bool t128, .string t129, .int .i64 t130] from (k28_mkM _ _ _ (⟨t128, t129, t130⟩ : Val) )) (Reps.c3 (show Kd.M k28 _ _ _ (⟨t131, t132, t133⟩ : Val) [.bool t131, .string t132, .int .i64 t133] from (k28_mkM _ _ _ (⟨t131, t132, t133⟩ : Val) )) (Reps.none _ _)))); intro v135 w35 ho36 hb hg_ hnew_; clear hg_ hnew_; (first | rw [← Ny134.out] at ho36 | (simp only [Int.reduceToNat] at ho36; rw [← Ny134.out] at ho36)); replace HO103 := am (Rb_ HO103.out hb); replace HO106 := am (Kd.N_elder' (by (with_reducible repeat (first | apply Kd.N_alloc | apply Kd.N_drewN | apply Kd.N_drew)); exact HO106.out) (Kd.R_base ho36) hb); replace HL107_1 := am (Kd.V_elder' (pV HL107_1.out) (Kd.R_base ho36) hb); have HO136 := am (Kd.R_lower (Kd.R_new' (Kd.R_new' ho36 (Kd.R_lt (pR HO116.out))) (Kd.R_lt (pR HO126.out))) (below_size (pL HB.out))); replace HO116 := am (Kd.R_elder' (pR HO116.out) (Kd.R_base ho36) hb); replace HO126 := am (Kd.R_elder' (pR HO126.out) (Kd.R_base ho36) hb); replace HR107_1 := am (Kd.C_below (by repeat (first | (with_reducible exact HR107_1.out) | (with_reducible refine Kd.C_alloc ?_ _) | (with_reducible refine Kd.C_drewN ?_ _) | (with_reducible refine Kd.C_drew ?_) | exact HR107_1.out)) hb); replace HB := am (bs_ HB.out hb); clear hb ho36; obtain ⟨Ao37, co37, eo37⟩ := Kd.R_slice HO136.out; subst eo37) | (go_at_call 9; (with_reducible refine (facts_Has.calls _ _ t104 (⟨#[110, 101, 120, 116]⟩ : ByteArray) _ _ y134 t137 _ ?side1 ?side2 ?side3 ?side4 A15.out).mono ?_); (case side1 => repeat (first | exact (Kd.N_reads' HO106.out).2.2 | (with_reducible refine Kd.C_alloc ?_ _) | (with_reducible refine Kd.C_drewN ?_ _) | (with_reducible refine Kd.C_drew ?_))); (case side2 => exact (Kd.N_reads' HO106.out).2.1); (case side3 => repeat (first | exact (Kd.R_reads' HO136.out).2.2 | (with_reducible refine Kd.C_alloc ?_ _) | (with_reducible refine Kd.C_drewN ?_ _) | (with_reducible refine Kd.C_drew ?_))); (case side4 => exact (Kd.R_reads' HO136.out).2.1); rintro e w38 ⟨rfl, hb⟩; (try clear A15); replace HO103 := am (Rb_ HO103.out hb); replace HO106 := am (Kd.N_below (by (with_reducible repeat (first | apply Kd.N_alloc | apply Kd.N_drewN | apply Kd.N_drew)); exact HO106.out) hb); replace HL107_1 := am (Kd.V_below (pV HL107_1.out) hb); replace HO116 := am (Rb_ HO116.out hb); replace HO126 := am (Rb_ HO126.out hb); replace HO136 := am (Rb_ HO136.out hb); replace HR107_1 := am (Kd.C_below (by repeat (first | (with_reducible exact HR107_1.out) | (with_reducible refine Kd.C_alloc ?_ _) | (with_reducible refine Kd.C_drewN ?_ _) | (with_reducible refine Kd.C_drew ?_) | exact HR107_1.out)) hb); replace HB := am (bs_ HB.out hb); (try clear hb); (try clear hb2); (try clear hk); (try clear hi)))
      go_ret
      exact ⟨by first | rfl | (simp [errW_none, errW_some] <;> rfl) | (simp [*, errW_none, errW_some] <;> rfl), pL HB.out⟩
     ·replace c12 := Bool.eq_false_iff.mpr c12
      subst c12
      have H1 : (some false) = some r := by rw [if_neg (show ¬ (false = true) by decide)] at H; exact H
      clear H
      have H := H1
      clear H1
      obtain rfl := Option.some.inj H
      go_enter Try.func7, Try.ntmps7
      go_wp2_with (first | ((with_reducible refine gate_dst (N := 4) rfl ?_); (try (refine gate_guard (by rfl) ?_; dsimp only)); refine Kd.R_lit k33 _ 33 ?hg (N := 4) ?hd (xs := ([(⟨4, (⟨#[120]⟩ : ByteArray), (⟨#[]⟩ : ByteArray), (⟨#[]⟩ : ByteArray), (⟨#[]⟩ : ByteArray), 0, 0, 0⟩ : Stmt), (⟨9, (⟨#[]⟩ : ByteArray), (⟨#[]⟩ : ByteArray), (⟨#[]⟩ : ByteArray), (⟨#[]⟩ : ByteArray), 0, 0, 0⟩ : Stmt)] : List (Stmt))) (inner := [.int .i64 4, .string (⟨#[120]⟩ : ByteArray), .string (⟨#[]⟩ : ByteArray), .string (⟨#[]⟩ : ByteArray), .string (⟨#[]⟩ : ByteArray), .int .i64 0, .int .i64 0, .int .i64 0, .int .i64 9, .string (⟨#[]⟩ : ByteArray), .string (⟨#[]⟩ : ByteArray), .string (⟨#[]⟩ : ByteArray), .string (⟨#[]⟩ : ByteArray), .int .i64 0, .int .i64 0, .int .i64 0]) (ok := fun _ => True) (okp := fun _ => True) ?hr ?hp (fun _ hk => hk) trivial (Below.refl _ _) (Nat.le_refl _) (by simp) ?_; (case hd => rfl); (case hg => rfl); (case hr => first | (go_simp; done) | (go_simp; rfl)); (case hp => exact (Reps.c8 (show Kd.M k33 _ _ _ (⟨4, (⟨#[120]⟩ : ByteArray), (⟨#[]⟩ : ByteArray), (⟨#[]⟩ : ByteArray), (⟨#[]⟩ : ByteArray), 0, 0, 0⟩ : Stmt) [.int .i64 4, .string (⟨#[120]⟩ : ByteArray), .string (⟨#[]⟩ : ByteArray), .string (⟨#[]⟩ : ByteArray), .string (⟨#[]⟩ : ByteArray), .int .i64 0, .int .i64 0, .int .i64 0] from (k33_mkM _ _ _ (⟨4, (⟨#[120]⟩ : ByteArray), (⟨#[]⟩ : ByteArray), (⟨#[]⟩ : ByteArray), (⟨#[]⟩ : ByteArray), 0, 0, 0⟩ : Stmt) )) (Reps.c8 (show Kd.M k33 _ _ _ (⟨9, (⟨#[]⟩ : ByteArray), (⟨#[]⟩ : ByteArray), (⟨#[]⟩ : ByteArray), (⟨#[]⟩ : ByteArray), 0, 0, 0⟩ : Stmt) [.int .i64 9, .string (⟨#[]⟩ : ByteArray), .string (⟨#[]⟩ : ByteArray), .string (⟨#[]⟩ : ByteArray), .string (⟨#[]⟩ : ByteArray), .int .i64 0, .int .i64 0, .int .i64 0] from (k33_mkM _ _ _ (⟨9, (⟨#[]⟩ : ByteArray), (⟨#[]⟩ : ByteArray), (⟨#[]⟩ : ByteArray), (⟨#[]⟩ : ByteArray), 0, 0, 0⟩ : Stmt) )) (Reps.none _ _)))); intro v102 w39 ho40 hb hg_ hnew_; clear hg_ hnew_; (first | rw [← Ny101.out] at ho40 | (simp only [Int.reduceToNat] at ho40; rw [← Ny101.out] at ho40)); have HO103 := am (Kd.R_lower ho40 (below_size (pL HB.out))); replace HB := am (bs_ HB.out hb); clear hb ho40; obtain ⟨Ao41, co41, eo41⟩ := Kd.R_slice HO103.out; subst eo41) | ((with_reducible refine gate_callee (f := 8) rfl ?_); refine goesL_ (some 5) rfl rfl Try.func8 (by kernel_rfl) rfl #[.slice Ao41 y101.length co41] rfl (by (try simp only [List.map_toArray, List.map_cons, List.map_nil]); first | done | rfl | (simp only [List.length_drop, List.length_take]; rfl)) ?_; (with_reducible refine (facts_Of.calls k _ _ y101 t104 _ ?side1 ?side2 A1.out).mono ?_); (case side1 => repeat (first | exact (Kd.R_reads' HO103.out).2.2 | (with_reducible refine Kd.C_alloc ?_ _) | (with_reducible refine Kd.C_drewN ?_ _) | (with_reducible refine Kd.C_drew ?_))); (case side2 => exact (Kd.R_reads' HO103.out).2.1); rintro e w42 ⟨v105, rfl, ho0, hb⟩; refine ⟨_, rfl, ?_⟩; have HO106 := am (Kd.N_lower (Kd.N_mono (ok' := fun k_ => some k_ ≠ (.slice Ao41 y101.length co41 : Value).ownBlock) ho0 (fun k_ hk_ => (Kd.fresh' (Kd.R_lt (pR HO103.out)) k_ hk_))) (below_size (pL HB.out))); replace HO103 := am (Rb_ HO103.out hb); replace HB := am (bs_ HB.out hb); (try clear hb); (try clear hb2); (try clear hk); (try clear hi); (try clear ho0); obtain ⟨Ao43, co43, eo43⟩ := Kd.N_slice HO106.out; subst eo43; have p107 : 0 ≤ (0 : Int) := (by omega); have q107 : 0 < (t104.length : Int) := dt_; obtain ⟨ad107, A107_1, c107_1, e107, hx107_0, hx107_1, hl107_1, hi107_1⟩ := at_T44 (Kd.N_reads' HO106.out).2.2 0 p107 q107; cases e107; obtain ⟨ce107, hce107, hMe107, hcc107⟩ := Kd.N_get HO106.out z44 0 p107 (by first | exact q107 | exact dt_ | (have e_ := (Kd.N_reads' HO106.out).1; omega)); obtain ⟨ua107_1, uc107_1, rfl, ul107_1, ge107_1⟩ := k44_openF hMe107; have hv107_1 := hcc107 1 _ rfl; rw [add_field _ _ 1 (by omega)] at hv107_1; replace hv107_1 := Option.some.inj (hv107_1.symm.trans hx107_1); injection hv107_1 with hva_ hvn_ hvc_; rw [hva_] at ge107_1; rw [hvc_] at ul107_1; have HL107_1 := am (show Kd.V k28 28 _ w.heap.size _ _ ((rd_T44 t104 0).args) from Kd.V_mk ul107_1 ge107_1); clear hva_ hvn_ hvc_ ge107_1 ul107_1; clear hcc107 hce107; have qi107 : (0 < t104.length) = True := eq_true (by omega); (try rw [show ((0 : Int)).toNat = 0 from rfl] at hx107_0); (try rw [show 0 * 2 = 0 from rfl] at hx107_0); (try rw [Addr.add_zero'] at hx107_0); (try rw [show ((0 : Int)).toNat = 0 from rfl] at hx107_1); (try rw [show 0 * 2 = 0 from rfl] at hx107_1); (try rw [Addr.add_zero'] at hx107_1); have HR107_1 := am hi107_1; have HC107_1 := am hl107_1; clear hi107_1 hl107_1; replace p107 := eq_true p107; replace q107 := eq_true q107) | (go_at_call 10; (with_reducible refine (lambrequinlaw21_num.calls 0 t108 t109 t110 _ A5.out).mono ?_); rintro e w44 ⟨rfl, hb⟩; (try clear A5); replace HO103 := am (Rb_ HO103.out hb); replace HO106 := am (Kd.N_below (by (with_reducible repeat (first | apply Kd.N_alloc | apply Kd.N_drewN | apply Kd.N_drew)); exact HO106.out) hb); replace HL107_1 := am (Kd.V_below (pV HL107_1.out) hb); replace HR107_1 := am (Kd.C_below (by repeat (first | (with_reducible exact HR107_1.out) | (with_reducible refine Kd.C_alloc ?_ _) | (with_reducible refine Kd.C_drewN ?_ _) | (with_reducible refine Kd.C_drew ?_) | exact HR107_1.out)) hb); replace HB := am (bs_ HB.out hb); (try clear hb); (try clear hb2); (try clear hk); (try clear hi)) | (go_at_call 10; (with_reducible refine (lambrequinlaw21_num.calls 1 t111 t112 t113 _ A6.out).mono ?_); rintro e w45 ⟨rfl, hb⟩; (try clear A6); replace HO103 := am (Rb_ HO103.out hb); replace HO106 := am (Kd.N_below (by (with_reducible repeat (first | apply Kd.N_alloc | apply Kd.N_drewN | apply Kd.N_drew)); exact HO106.out) hb); replace HL107_1 := am (Kd.V_below (pV HL107_1.out) hb); replace HR107_1 := am (Kd.C_below (by repeat (first | (with_reducible exact HR107_1.out) | (with_reducible refine Kd.C_alloc ?_ _) | (with_reducible refine Kd.C_drewN ?_ _) | (with_reducible refine Kd.C_drew ?_) | exact HR107_1.out)) hb); replace HB := am (bs_ HB.out hb); (try clear hb); (try clear hb2); (try clear hk); (try clear hi)) | ((with_reducible refine gate_dst (N := 20) rfl ?_); (try (refine gate_guard (by rfl) ?_; dsimp only)); refine Kd.R_lit k28 _ 28 ?hg (N := 20) ?hd (xs := ([(⟨t108, t109, t110⟩ : Val), (⟨t111, t112, t113⟩ : Val)] : List (Val))) (inner := [.bool t108, .string t109, .int .i64 t110, .bool t111, .string t112, .int .i64 t113]) (ok := fun _ => True) (okp := fun _ => True) ?hr ?hp (fun _ hk => hk) trivial (Below.refl _ _) (Nat.le_refl _) (by simp) ?_; (case hd => rfl); (case hg => rfl); (case hr => first | (go_simp; done) | (go_simp; rfl)); (case hp => exact (Reps.c3 (show Kd.M k28 _ _ _ (⟨t108, t109, t110⟩ : Val) [.bool t108, .string t109, .int .i64 t110] from (k28_mkM _ _ _ (⟨t108, t109, t110⟩ : Val) )) (Reps.c3 (show Kd.M k28 _ _ _ (⟨t111, t112, t113⟩ : Val) [.bool t111, .string t112, .int .i64 t113] from (k28_mkM _ _ _ (⟨t111, t112, t113⟩ : Val) )) (Reps.none _ _)))); intro v115 w46 ho47 hb hg_ hnew_; clear hg_ hnew_; (first | rw [← Ny114.out] at ho47 | (simp only [Int.reduceToNat] at ho47; rw [← Ny114.out] at ho47)); replace HO103 := am (Rb_ HO103.out hb); replace HO106 := am (Kd.N_elder' (by (with_reducible repeat (first | apply Kd.N_alloc | apply Kd.N_drewN | apply Kd.N_drew)); exact HO106.out) (Kd.R_base ho47) hb); replace HL107_1 := am (Kd.V_elder' (pV HL107_1.out) (Kd.R_base ho47) hb); have HO116 := am (Kd.R_lower ho47 (below_size (pL HB.out))); replace HR107_1 := am (Kd.C_below (by repeat (first | (with_reducible exact HR107_1.out) | (with_reducible refine Kd.C_alloc ?_ _) | (with_reducible refine Kd.C_drewN ?_ _) | (with_reducible refine Kd.C_drew ?_) | exact HR107_1.out)) hb); replace HB := am (bs_ HB.out hb); clear hb ho47; obtain ⟨Ao48, co48, eo48⟩ := Kd.R_slice HO116.out; subst eo48) | (go_at_call 9; (with_reducible refine (facts_Has.calls _ _ t104 (⟨#[110, 101, 120, 116]⟩ : ByteArray) _ _ y114 true _ ?side1 ?side2 ?side3 ?side4 A7.out).mono ?_); (case side1 => repeat (first | exact (Kd.N_reads' HO106.out).2.2 | (with_reducible refine Kd.C_alloc ?_ _) | (with_reducible refine Kd.C_drewN ?_ _) | (with_reducible refine Kd.C_drew ?_))); (case side2 => exact (Kd.N_reads' HO106.out).2.1); (case side3 => repeat (first | exact (Kd.R_reads' HO116.out).2.2 | (with_reducible refine Kd.C_alloc ?_ _) | (with_reducible refine Kd.C_drewN ?_ _) | (with_reducible refine Kd.C_drew ?_))); (case side4 => exact (Kd.R_reads' HO116.out).2.1); rintro e w49 ⟨rfl, hb⟩; (try clear A7); replace HO103 := am (Rb_ HO103.out hb); replace HO106 := am (Kd.N_below (by (with_reducible repeat (first | apply Kd.N_alloc | apply Kd.N_drewN | apply Kd.N_drew)); exact HO106.out) hb); replace HL107_1 := am (Kd.V_below (pV HL107_1.out) hb); replace HO116 := am (Rb_ HO116.out hb); replace HR107_1 := am (Kd.C_below (by repeat (first | (with_reducible exact HR107_1.out) | (with_reducible refine Kd.C_alloc ?_ _) | (with_reducible refine Kd.C_drewN ?_ _) | (with_reducible refine Kd.C_drew ?_) | exact HR107_1.out)) hb); replace HB := am (bs_ HB.out hb); (try clear hb); (try clear hb2); (try clear hk); (try clear hi)) | (go_at_call 10; (with_reducible refine (lambrequinlaw21_num.calls 0 t118 t119 t120 _ A9.out).mono ?_); rintro e w50 ⟨rfl, hb⟩; (try clear A9); replace HO103 := am (Rb_ HO103.out hb); replace HO106 := am (Kd.N_below (by (with_reducible repeat (first | apply Kd.N_alloc | apply Kd.N_drewN | apply Kd.N_drew)); exact HO106.out) hb); replace HL107_1 := am (Kd.V_below (pV HL107_1.out) hb); replace HO116 := am (Rb_ HO116.out hb); replace HR107_1 := am (Kd.C_below (by repeat (first | (with_reducible exact HR107_1.out) | (with_reducible refine Kd.C_alloc ?_ _) | (with_reducible refine Kd.C_drewN ?_ _) | (with_reducible refine Kd.C_drew ?_) | exact HR107_1.out)) hb); replace HB := am (bs_ HB.out hb); (try clear hb); (try clear hb2); (try clear hk); (try clear hi)) | (go_at_call 15; (with_reducible refine (lambrequinlaw21_sym.calls (⟨#[120]⟩ : ByteArray) t121 t122 t123 _ A10.out).mono ?_); rintro e w51 ⟨rfl, hb⟩; (try clear A10); replace HO103 := am (Rb_ HO103.out hb); replace HO106 := am (Kd.N_below (by (with_reducible repeat (first | apply Kd.N_alloc | apply Kd.N_drewN | apply Kd.N_drew)); exact HO106.out) hb); replace HL107_1 := am (Kd.V_below (pV HL107_1.out) hb); replace HO116 := am (Rb_ HO116.out hb); replace HR107_1 := am (Kd.C_below (by repeat (first | (with_reducible exact HR107_1.out) | (with_reducible refine Kd.C_alloc ?_ _) | (with_reducible refine Kd.C_drewN ?_ _) | (with_reducible refine Kd.C_drew ?_) | exact HR107_1.out)) hb); replace HB := am (bs_ HB.out hb); (try clear hb); (try clear hb2); (try clear hk); (try clear hi)) | ((with_reducible refine gate_dst (N := 27) rfl ?_); (try (refine gate_guard (by rfl) ?_; dsimp only)); refine Kd.R_lit k28 _ 28 ?hg (N := 27) ?hd (xs := ([(⟨t118, t119, t120⟩ : Val), (⟨t121, t122, t123⟩ : Val)] : List (Val))) (inner := [.bool t118, .string t119, .int .i64 t120, .bool t121, .string t122, .int .i64 t123]) (ok := fun _ => True) (okp := fun _ => True) ?hr ?hp (fun _ hk => hk) trivial (Below.refl _ _) (Nat.le_refl _) (by simp) ?_; (case hd => rfl); (case hg => rfl); (case hr => first | (go_simp; done) | (go_simp; rfl)); (case hp => exact (Reps.c3 (show Kd.M k28 _ _ _ (⟨t118, t119, t120⟩ : Val) [.bool t118, .string t119, .int .i64 t120] from (k28_mkM _ _ _ (⟨t118, t119, t120⟩ : Val) )) (Reps.c3 (show Kd.M k28 _ _ _ (⟨t121, t122, t123⟩ : Val) [.bool t121, .string t122, .int .i64 t123] from (k28_mkM _ _ _ (⟨t121, t122, t123⟩ : Val) )) (Reps.none _ _)))); intro v125 w52 ho53 hb hg_ hnew_; clear hg_ hnew_; (first | rw [← Ny124.out] at ho53 | (simp only [Int.reduceToNat] at ho53; rw [← Ny124.out] at ho53)); replace HO103 := am (Rb_ HO103.out hb); replace HO106 := am (Kd.N_elder' (by (with_reducible repeat (first | apply Kd.N_alloc | apply Kd.N_drewN | apply Kd.N_drew)); exact HO106.out) (Kd.R_base ho53) hb); replace HL107_1 := am (Kd.V_elder' (pV HL107_1.out) (Kd.R_base ho53) hb); have HO126 := am (Kd.R_lower (Kd.R_new' ho53 (Kd.R_lt (pR HO116.out))) (below_size (pL HB.out))); replace HO116 := am (Kd.R_elder' (pR HO116.out) (Kd.R_base ho53) hb); replace HR107_1 := am (Kd.C_below (by repeat (first | (with_reducible exact HR107_1.out) | (with_reducible refine Kd.C_alloc ?_ _) | (with_reducible refine Kd.C_drewN ?_ _) | (with_reducible refine Kd.C_drew ?_) | exact HR107_1.out)) hb); replace HB := am (bs_ HB.out hb); clear hb ho53; obtain ⟨Ao54, co54, eo54⟩ := Kd.R_slice HO126.out; subst eo54) | (go_at_call 9; (with_reducible refine (facts_Has.calls _ _ t104 (⟨#[115, 111, 117, 114, 99, 101]⟩ : ByteArray) _ _ y124 false _ ?side1 ?side2 ?side3 ?side4 A11.out).mono ?_); (case side1 => repeat (first | exact (Kd.N_reads' HO106.out).2.2 | (with_reducible refine Kd.C_alloc ?_ _) | (with_reducible refine Kd.C_drewN ?_ _) | (with_reducible refine Kd.C_drew ?_))); (case side2 => exact (Kd.N_reads' HO106.out).2.1); (case side3 => repeat (first | exact (Kd.R_reads' HO126.out).2.2 | (with_reducible refine Kd.C_alloc ?_ _) | (with_reducible refine Kd.C_drewN ?_ _) | (with_reducible refine Kd.C_drew ?_))); (case side4 => exact (Kd.R_reads' HO126.out).2.1); rintro e w55 ⟨rfl, hb⟩; (try clear A11); replace HO103 := am (Rb_ HO103.out hb); replace HO106 := am (Kd.N_below (by (with_reducible repeat (first | apply Kd.N_alloc | apply Kd.N_drewN | apply Kd.N_drew)); exact HO106.out) hb); replace HL107_1 := am (Kd.V_below (pV HL107_1.out) hb); replace HO116 := am (Rb_ HO116.out hb); replace HO126 := am (Rb_ HO126.out hb); replace HR107_1 := am (Kd.C_below (by repeat (first | (with_reducible exact HR107_1.out) | (with_reducible refine Kd.C_alloc ?_ _) | (with_reducible refine Kd.C_drewN ?_ _) | (with_reducible refine Kd.C_drew ?_) | exact HR107_1.out)) hb); replace HB := am (bs_ HB.out hb); (try clear hb); (try clear hb2); (try clear hk); (try clear hi)))
      go_ret
      exact ⟨by first | rfl | (simp [errW_none, errW_some] <;> rfl) | (simp [*, errW_none, errW_some] <;> rfl), pL HB.out⟩
    ·replace c8 := Bool.eq_false_iff.mpr c8
     subst c8
     have H1 : (some false) = some r := by rw [if_neg (show ¬ (false = true) by decide)] at H; exact H
     clear H
     have H := H1
     clear H1
     obtain rfl := Option.some.inj H
     go_enter Try.func7, Try.ntmps7
     go_wp2_with (first | ((with_reducible refine gate_dst (N := 4) rfl ?_); (try (refine gate_guard (by rfl) ?_; dsimp only)); refine Kd.R_lit k33 _ 33 ?hg (N := 4) ?hd (xs := ([(⟨4, (⟨#[120]⟩ : ByteArray), (⟨#[]⟩ : ByteArray), (⟨#[]⟩ : ByteArray), (⟨#[]⟩ : ByteArray), 0, 0, 0⟩ : Stmt), (⟨9, (⟨#[]⟩ : ByteArray), (⟨#[]⟩ : ByteArray), (⟨#[]⟩ : ByteArray), (⟨#[]⟩ : ByteArray), 0, 0, 0⟩ : Stmt)] : List (Stmt))) (inner := [.int .i64 4, .string (⟨#[120]⟩ : ByteArray), .string (⟨#[]⟩ : ByteArray), .string (⟨#[]⟩ : ByteArray), .string (⟨#[]⟩ : ByteArray), .int .i64 0, .int .i64 0, .int .i64 0, .int .i64 9, .string (⟨#[]⟩ : ByteArray), .string (⟨#[]⟩ : ByteArray), .string (⟨#[]⟩ : ByteArray), .string (⟨#[]⟩ : ByteArray), .int .i64 0, .int .i64 0, .int .i64 0]) (ok := fun _ => True) (okp := fun _ => True) ?hr ?hp (fun _ hk => hk) trivial (Below.refl _ _) (Nat.le_refl _) (by simp) ?_; (case hd => rfl); (case hg => rfl); (case hr => first | (go_simp; done) | (go_simp; rfl)); (case hp => exact (Reps.c8 (show Kd.M k33 _ _ _ (⟨4, (⟨#[120]⟩ : ByteArray), (⟨#[]⟩ : ByteArray), (⟨#[]⟩ : ByteArray), (⟨#[]⟩ : ByteArray), 0, 0, 0⟩ : Stmt) [.int .i64 4, .string (⟨#[120]⟩ : ByteArray), .string (⟨#[]⟩ : ByteArray), .string (⟨#[]⟩ : ByteArray), .string (⟨#[]⟩ : ByteArray), .int .i64 0, .int .i64 0, .int .i64 0] from (k33_mkM _ _ _ (⟨4, (⟨#[120]⟩ : ByteArray), (⟨#[]⟩ : ByteArray), (⟨#[]⟩ : ByteArray), (⟨#[]⟩ : ByteArray), 0, 0, 0⟩ : Stmt) )) (Reps.c8 (show Kd.M k33 _ _ _ (⟨9, (⟨#[]⟩ : ByteArray), (⟨#[]⟩ : ByteArray), (⟨#[]⟩ : ByteArray), (⟨#[]⟩ : ByteArray), 0, 0, 0⟩ : Stmt) [.int .i64 9, .string (⟨#[]⟩ : ByteArray), .string (⟨#[]⟩ : ByteArray), .string (⟨#[]⟩ : ByteArray), .string (⟨#[]⟩ : ByteArray), .int .i64 0, .int .i64 0, .int .i64 0] from (k33_mkM _ _ _ (⟨9, (⟨#[]⟩ : ByteArray), (⟨#[]⟩ : ByteArray), (⟨#[]⟩ : ByteArray), (⟨#[]⟩ : ByteArray), 0, 0, 0⟩ : Stmt) )) (Reps.none _ _)))); intro v102 w56 ho57 hb hg_ hnew_; clear hg_ hnew_; (first | rw [← Ny101.out] at ho57 | (simp only [Int.reduceToNat] at ho57; rw [← Ny101.out] at ho57)); have HO103 := am (Kd.R_lower ho57 (below_size (pL HB.out))); replace HB := am (bs_ HB.out hb); clear hb ho57; obtain ⟨Ao58, co58, eo58⟩ := Kd.R_slice HO103.out; subst eo58) | ((with_reducible refine gate_callee (f := 8) rfl ?_); refine goesL_ (some 5) rfl rfl Try.func8 (by kernel_rfl) rfl #[.slice Ao58 y101.length co58] rfl (by (try simp only [List.map_toArray, List.map_cons, List.map_nil]); first | done | rfl | (simp only [List.length_drop, List.length_take]; rfl)) ?_; (with_reducible refine (facts_Of.calls k _ _ y101 t104 _ ?side1 ?side2 A1.out).mono ?_); (case side1 => repeat (first | exact (Kd.R_reads' HO103.out).2.2 | (with_reducible refine Kd.C_alloc ?_ _) | (with_reducible refine Kd.C_drewN ?_ _) | (with_reducible refine Kd.C_drew ?_))); (case side2 => exact (Kd.R_reads' HO103.out).2.1); rintro e w59 ⟨v105, rfl, ho0, hb⟩; refine ⟨_, rfl, ?_⟩; have HO106 := am (Kd.N_lower (Kd.N_mono (ok' := fun k_ => some k_ ≠ (.slice Ao58 y101.length co58 : Value).ownBlock) ho0 (fun k_ hk_ => (Kd.fresh' (Kd.R_lt (pR HO103.out)) k_ hk_))) (below_size (pL HB.out))); replace HO103 := am (Rb_ HO103.out hb); replace HB := am (bs_ HB.out hb); (try clear hb); (try clear hb2); (try clear hk); (try clear hi); (try clear ho0); obtain ⟨Ao60, co60, eo60⟩ := Kd.N_slice HO106.out; subst eo60; have p107 : 0 ≤ (0 : Int) := (by omega); have q107 : 0 < (t104.length : Int) := dt_; obtain ⟨ad107, A107_1, c107_1, e107, hx107_0, hx107_1, hl107_1, hi107_1⟩ := at_T44 (Kd.N_reads' HO106.out).2.2 0 p107 q107; cases e107; obtain ⟨ce107, hce107, hMe107, hcc107⟩ := Kd.N_get HO106.out z44 0 p107 (by first | exact q107 | exact dt_ | (have e_ := (Kd.N_reads' HO106.out).1; omega)); obtain ⟨ua107_1, uc107_1, rfl, ul107_1, ge107_1⟩ := k44_openF hMe107; have hv107_1 := hcc107 1 _ rfl; rw [add_field _ _ 1 (by omega)] at hv107_1; replace hv107_1 := Option.some.inj (hv107_1.symm.trans hx107_1); injection hv107_1 with hva_ hvn_ hvc_; rw [hva_] at ge107_1; rw [hvc_] at ul107_1; have HL107_1 := am (show Kd.V k28 28 _ w.heap.size _ _ ((rd_T44 t104 0).args) from Kd.V_mk ul107_1 ge107_1); clear hva_ hvn_ hvc_ ge107_1 ul107_1; clear hcc107 hce107; have qi107 : (0 < t104.length) = True := eq_true (by omega); (try rw [show ((0 : Int)).toNat = 0 from rfl] at hx107_0); (try rw [show 0 * 2 = 0 from rfl] at hx107_0); (try rw [Addr.add_zero'] at hx107_0); (try rw [show ((0 : Int)).toNat = 0 from rfl] at hx107_1); (try rw [show 0 * 2 = 0 from rfl] at hx107_1); (try rw [Addr.add_zero'] at hx107_1); have HR107_1 := am hi107_1; have HC107_1 := am hl107_1; clear hi107_1 hl107_1; replace p107 := eq_true p107; replace q107 := eq_true q107) | (go_at_call 10; (with_reducible refine (lambrequinlaw21_num.calls 0 t108 t109 t110 _ A5.out).mono ?_); rintro e w61 ⟨rfl, hb⟩; (try clear A5); replace HO103 := am (Rb_ HO103.out hb); replace HO106 := am (Kd.N_below (by (with_reducible repeat (first | apply Kd.N_alloc | apply Kd.N_drewN | apply Kd.N_drew)); exact HO106.out) hb); replace HL107_1 := am (Kd.V_below (pV HL107_1.out) hb); replace HR107_1 := am (Kd.C_below (by repeat (first | (with_reducible exact HR107_1.out) | (with_reducible refine Kd.C_alloc ?_ _) | (with_reducible refine Kd.C_drewN ?_ _) | (with_reducible refine Kd.C_drew ?_) | exact HR107_1.out)) hb); replace HB := am (bs_ HB.out hb); (try clear hb); (try clear hb2); (try clear hk); (try clear hi)) | (go_at_call 10; (with_reducible refine (lambrequinlaw21_num.calls 1 t111 t112 t113 _ A6.out).mono ?_); rintro e w62 ⟨rfl, hb⟩; (try clear A6); replace HO103 := am (Rb_ HO103.out hb); replace HO106 := am (Kd.N_below (by (with_reducible repeat (first | apply Kd.N_alloc | apply Kd.N_drewN | apply Kd.N_drew)); exact HO106.out) hb); replace HL107_1 := am (Kd.V_below (pV HL107_1.out) hb); replace HR107_1 := am (Kd.C_below (by repeat (first | (with_reducible exact HR107_1.out) | (with_reducible refine Kd.C_alloc ?_ _) | (with_reducible refine Kd.C_drewN ?_ _) | (with_reducible refine Kd.C_drew ?_) | exact HR107_1.out)) hb); replace HB := am (bs_ HB.out hb); (try clear hb); (try clear hb2); (try clear hk); (try clear hi)) | ((with_reducible refine gate_dst (N := 20) rfl ?_); (try (refine gate_guard (by rfl) ?_; dsimp only)); refine Kd.R_lit k28 _ 28 ?hg (N := 20) ?hd (xs := ([(⟨t108, t109, t110⟩ : Val), (⟨t111, t112, t113⟩ : Val)] : List (Val))) (inner := [.bool t108, .string t109, .int .i64 t110, .bool t111, .string t112, .int .i64 t113]) (ok := fun _ => True) (okp := fun _ => True) ?hr ?hp (fun _ hk => hk) trivial (Below.refl _ _) (Nat.le_refl _) (by simp) ?_; (case hd => rfl); (case hg => rfl); (case hr => first | (go_simp; done) | (go_simp; rfl)); (case hp => exact (Reps.c3 (show Kd.M k28 _ _ _ (⟨t108, t109, t110⟩ : Val) [.bool t108, .string t109, .int .i64 t110] from (k28_mkM _ _ _ (⟨t108, t109, t110⟩ : Val) )) (Reps.c3 (show Kd.M k28 _ _ _ (⟨t111, t112, t113⟩ : Val) [.bool t111, .string t112, .int .i64 t113] from (k28_mkM _ _ _ (⟨t111, t112, t113⟩ : Val) )) (Reps.none _ _)))); intro v115 w63 ho64 hb hg_ hnew_; clear hg_ hnew_; (first | rw [← Ny114.out] at ho64 | (simp only [Int.reduceToNat] at ho64; rw [← Ny114.out] at ho64)); replace HO103 := am (Rb_ HO103.out hb); replace HO106 := am (Kd.N_elder' (by (with_reducible repeat (first | apply Kd.N_alloc | apply Kd.N_drewN | apply Kd.N_drew)); exact HO106.out) (Kd.R_base ho64) hb); replace HL107_1 := am (Kd.V_elder' (pV HL107_1.out) (Kd.R_base ho64) hb); have HO116 := am (Kd.R_lower ho64 (below_size (pL HB.out))); replace HR107_1 := am (Kd.C_below (by repeat (first | (with_reducible exact HR107_1.out) | (with_reducible refine Kd.C_alloc ?_ _) | (with_reducible refine Kd.C_drewN ?_ _) | (with_reducible refine Kd.C_drew ?_) | exact HR107_1.out)) hb); replace HB := am (bs_ HB.out hb); clear hb ho64; obtain ⟨Ao65, co65, eo65⟩ := Kd.R_slice HO116.out; subst eo65) | (go_at_call 9; (with_reducible refine (facts_Has.calls _ _ t104 (⟨#[110, 101, 120, 116]⟩ : ByteArray) _ _ y114 false _ ?side1 ?side2 ?side3 ?side4 A7.out).mono ?_); (case side1 => repeat (first | exact (Kd.N_reads' HO106.out).2.2 | (with_reducible refine Kd.C_alloc ?_ _) | (with_reducible refine Kd.C_drewN ?_ _) | (with_reducible refine Kd.C_drew ?_))); (case side2 => exact (Kd.N_reads' HO106.out).2.1); (case side3 => repeat (first | exact (Kd.R_reads' HO116.out).2.2 | (with_reducible refine Kd.C_alloc ?_ _) | (with_reducible refine Kd.C_drewN ?_ _) | (with_reducible refine Kd.C_drew ?_))); (case side4 => exact (Kd.R_reads' HO116.out).2.1); rintro e w66 ⟨rfl, hb⟩; (try clear A7); replace HO103 := am (Rb_ HO103.out hb); replace HO106 := am (Kd.N_below (by (with_reducible repeat (first | apply Kd.N_alloc | apply Kd.N_drewN | apply Kd.N_drew)); exact HO106.out) hb); replace HL107_1 := am (Kd.V_below (pV HL107_1.out) hb); replace HO116 := am (Rb_ HO116.out hb); replace HR107_1 := am (Kd.C_below (by repeat (first | (with_reducible exact HR107_1.out) | (with_reducible refine Kd.C_alloc ?_ _) | (with_reducible refine Kd.C_drewN ?_ _) | (with_reducible refine Kd.C_drew ?_) | exact HR107_1.out)) hb); replace HB := am (bs_ HB.out hb); (try clear hb); (try clear hb2); (try clear hk); (try clear hi)))
     go_ret
     exact ⟨by first | rfl | (simp [errW_none, errW_some] <;> rfl) | (simp [*, errW_none, errW_some] <;> rfl), pL HB.out⟩
   ·rw [if_neg c4] at H
    have c4b0 : (((rd_T44 t104 0).pred).toList == ([100, 101, 102] : List UInt8)) = false := beq_eq_false_iff_ne.mpr c4
    have c4b1 : (((rd_T44 t104 0).pred).toList != ([100, 101, 102] : List UInt8)) = true := bne_iff_ne.mpr c4
    obtain rfl := Option.some.inj H
    go_enter Try.func7, Try.ntmps7
    go_wp2_with (first | ((with_reducible refine gate_dst (N := 4) rfl ?_); (try (refine gate_guard (by rfl) ?_; dsimp only)); refine Kd.R_lit k33 _ 33 ?hg (N := 4) ?hd (xs := ([(⟨4, (⟨#[120]⟩ : ByteArray), (⟨#[]⟩ : ByteArray), (⟨#[]⟩ : ByteArray), (⟨#[]⟩ : ByteArray), 0, 0, 0⟩ : Stmt), (⟨9, (⟨#[]⟩ : ByteArray), (⟨#[]⟩ : ByteArray), (⟨#[]⟩ : ByteArray), (⟨#[]⟩ : ByteArray), 0, 0, 0⟩ : Stmt)] : List (Stmt))) (inner := [.int .i64 4, .string (⟨#[120]⟩ : ByteArray), .string (⟨#[]⟩ : ByteArray), .string (⟨#[]⟩ : ByteArray), .string (⟨#[]⟩ : ByteArray), .int .i64 0, .int .i64 0, .int .i64 0, .int .i64 9, .string (⟨#[]⟩ : ByteArray), .string (⟨#[]⟩ : ByteArray), .string (⟨#[]⟩ : ByteArray), .string (⟨#[]⟩ : ByteArray), .int .i64 0, .int .i64 0, .int .i64 0]) (ok := fun _ => True) (okp := fun _ => True) ?hr ?hp (fun _ hk => hk) trivial (Below.refl _ _) (Nat.le_refl _) (by simp) ?_; (case hd => rfl); (case hg => rfl); (case hr => first | (go_simp; done) | (go_simp; rfl)); (case hp => exact (Reps.c8 (show Kd.M k33 _ _ _ (⟨4, (⟨#[120]⟩ : ByteArray), (⟨#[]⟩ : ByteArray), (⟨#[]⟩ : ByteArray), (⟨#[]⟩ : ByteArray), 0, 0, 0⟩ : Stmt) [.int .i64 4, .string (⟨#[120]⟩ : ByteArray), .string (⟨#[]⟩ : ByteArray), .string (⟨#[]⟩ : ByteArray), .string (⟨#[]⟩ : ByteArray), .int .i64 0, .int .i64 0, .int .i64 0] from (k33_mkM _ _ _ (⟨4, (⟨#[120]⟩ : ByteArray), (⟨#[]⟩ : ByteArray), (⟨#[]⟩ : ByteArray), (⟨#[]⟩ : ByteArray), 0, 0, 0⟩ : Stmt) )) (Reps.c8 (show Kd.M k33 _ _ _ (⟨9, (⟨#[]⟩ : ByteArray), (⟨#[]⟩ : ByteArray), (⟨#[]⟩ : ByteArray), (⟨#[]⟩ : ByteArray), 0, 0, 0⟩ : Stmt) [.int .i64 9, .string (⟨#[]⟩ : ByteArray), .string (⟨#[]⟩ : ByteArray), .string (⟨#[]⟩ : ByteArray), .string (⟨#[]⟩ : ByteArray), .int .i64 0, .int .i64 0, .int .i64 0] from (k33_mkM _ _ _ (⟨9, (⟨#[]⟩ : ByteArray), (⟨#[]⟩ : ByteArray), (⟨#[]⟩ : ByteArray), (⟨#[]⟩ : ByteArray), 0, 0, 0⟩ : Stmt) )) (Reps.none _ _)))); intro v102 w67 ho68 hb hg_ hnew_; clear hg_ hnew_; (first | rw [← Ny101.out] at ho68 | (simp only [Int.reduceToNat] at ho68; rw [← Ny101.out] at ho68)); have HO103 := am (Kd.R_lower ho68 (below_size (pL HB.out))); replace HB := am (bs_ HB.out hb); clear hb ho68; obtain ⟨Ao69, co69, eo69⟩ := Kd.R_slice HO103.out; subst eo69) | ((with_reducible refine gate_callee (f := 8) rfl ?_); refine goesL_ (some 5) rfl rfl Try.func8 (by kernel_rfl) rfl #[.slice Ao69 y101.length co69] rfl (by (try simp only [List.map_toArray, List.map_cons, List.map_nil]); first | done | rfl | (simp only [List.length_drop, List.length_take]; rfl)) ?_; (with_reducible refine (facts_Of.calls k _ _ y101 t104 _ ?side1 ?side2 A1.out).mono ?_); (case side1 => repeat (first | exact (Kd.R_reads' HO103.out).2.2 | (with_reducible refine Kd.C_alloc ?_ _) | (with_reducible refine Kd.C_drewN ?_ _) | (with_reducible refine Kd.C_drew ?_))); (case side2 => exact (Kd.R_reads' HO103.out).2.1); rintro e w70 ⟨v105, rfl, ho0, hb⟩; refine ⟨_, rfl, ?_⟩; have HO106 := am (Kd.N_lower (Kd.N_mono (ok' := fun k_ => some k_ ≠ (.slice Ao69 y101.length co69 : Value).ownBlock) ho0 (fun k_ hk_ => (Kd.fresh' (Kd.R_lt (pR HO103.out)) k_ hk_))) (below_size (pL HB.out))); replace HO103 := am (Rb_ HO103.out hb); replace HB := am (bs_ HB.out hb); (try clear hb); (try clear hb2); (try clear hk); (try clear hi); (try clear ho0); obtain ⟨Ao71, co71, eo71⟩ := Kd.N_slice HO106.out; subst eo71; have p107 : 0 ≤ (0 : Int) := (by omega); have q107 : 0 < (t104.length : Int) := dt_; obtain ⟨ad107, A107_1, c107_1, e107, hx107_0, hx107_1, hl107_1, hi107_1⟩ := at_T44 (Kd.N_reads' HO106.out).2.2 0 p107 q107; cases e107; obtain ⟨ce107, hce107, hMe107, hcc107⟩ := Kd.N_get HO106.out z44 0 p107 (by first | exact q107 | exact dt_ | (have e_ := (Kd.N_reads' HO106.out).1; omega)); obtain ⟨ua107_1, uc107_1, rfl, ul107_1, ge107_1⟩ := k44_openF hMe107; have hv107_1 := hcc107 1 _ rfl; rw [add_field _ _ 1 (by omega)] at hv107_1; replace hv107_1 := Option.some.inj (hv107_1.symm.trans hx107_1); injection hv107_1 with hva_ hvn_ hvc_; rw [hva_] at ge107_1; rw [hvc_] at ul107_1; have HL107_1 := am (show Kd.V k28 28 _ w.heap.size _ _ ((rd_T44 t104 0).args) from Kd.V_mk ul107_1 ge107_1); clear hva_ hvn_ hvc_ ge107_1 ul107_1; clear hcc107 hce107; have qi107 : (0 < t104.length) = True := eq_true (by omega); (try rw [show ((0 : Int)).toNat = 0 from rfl] at hx107_0); (try rw [show 0 * 2 = 0 from rfl] at hx107_0); (try rw [Addr.add_zero'] at hx107_0); (try rw [show ((0 : Int)).toNat = 0 from rfl] at hx107_1); (try rw [show 0 * 2 = 0 from rfl] at hx107_1); (try rw [Addr.add_zero'] at hx107_1); have HR107_1 := am hi107_1; have HC107_1 := am hl107_1; clear hi107_1 hl107_1; replace p107 := eq_true p107; replace q107 := eq_true q107))
    go_ret
    exact ⟨by first | rfl | (simp [errW_none, errW_some] <;> rfl) | (simp [*, errW_none, errW_some] <;> rfl), pL HB.out⟩
  ·rw [if_neg c3] at H
   exact absurd H (by simp)
 ·rw [if_neg c2] at H
  have c2b0 : ((t104.length : Int) == 5) = false := beq_eq_false_iff_ne.mpr c2
  have c2b1 : ((t104.length : Int) != 5) = true := bne_iff_ne.mpr c2
  obtain rfl := Option.some.inj H
  go_enter Try.func7, Try.ntmps7
  go_wp2_with (first | ((with_reducible refine gate_dst (N := 4) rfl ?_); (try (refine gate_guard (by rfl) ?_; dsimp only)); refine Kd.R_lit k33 _ 33 ?hg (N := 4) ?hd (xs := ([(⟨4, (⟨#[120]⟩ : ByteArray), (⟨#[]⟩ : ByteArray), (⟨#[]⟩ : ByteArray), (⟨#[]⟩ : ByteArray), 0, 0, 0⟩ : Stmt), (⟨9, (⟨#[]⟩ : ByteArray), (⟨#[]⟩ : ByteArray), (⟨#[]⟩ : ByteArray), (⟨#[]⟩ : ByteArray), 0, 0, 0⟩ : Stmt)] : List (Stmt))) (inner := [.int .i64 4, .string (⟨#[120]⟩ : ByteArray), .string (⟨#[]⟩ : ByteArray), .string (⟨#[]⟩ : ByteArray), .string (⟨#[]⟩ : ByteArray), .int .i64 0, .int .i64 0, .int .i64 0, .int .i64 9, .string (⟨#[]⟩ : ByteArray), .string (⟨#[]⟩ : ByteArray), .string (⟨#[]⟩ : ByteArray), .string (⟨#[]⟩ : ByteArray), .int .i64 0, .int .i64 0, .int .i64 0]) (ok := fun _ => True) (okp := fun _ => True) ?hr ?hp (fun _ hk => hk) trivial (Below.refl _ _) (Nat.le_refl _) (by simp) ?_; (case hd => rfl); (case hg => rfl); (case hr => first | (go_simp; done) | (go_simp; rfl)); (case hp => exact (Reps.c8 (show Kd.M k33 _ _ _ (⟨4, (⟨#[120]⟩ : ByteArray), (⟨#[]⟩ : ByteArray), (⟨#[]⟩ : ByteArray), (⟨#[]⟩ : ByteArray), 0, 0, 0⟩ : Stmt) [.int .i64 4, .string (⟨#[120]⟩ : ByteArray), .string (⟨#[]⟩ : ByteArray), .string (⟨#[]⟩ : ByteArray), .string (⟨#[]⟩ : ByteArray), .int .i64 0, .int .i64 0, .int .i64 0] from (k33_mkM _ _ _ (⟨4, (⟨#[120]⟩ : ByteArray), (⟨#[]⟩ : ByteArray), (⟨#[]⟩ : ByteArray), (⟨#[]⟩ : ByteArray), 0, 0, 0⟩ : Stmt) )) (Reps.c8 (show Kd.M k33 _ _ _ (⟨9, (⟨#[]⟩ : ByteArray), (⟨#[]⟩ : ByteArray), (⟨#[]⟩ : ByteArray), (⟨#[]⟩ : ByteArray), 0, 0, 0⟩ : Stmt) [.int .i64 9, .string (⟨#[]⟩ : ByteArray), .string (⟨#[]⟩ : ByteArray), .string (⟨#[]⟩ : ByteArray), .string (⟨#[]⟩ : ByteArray), .int .i64 0, .int .i64 0, .int .i64 0] from (k33_mkM _ _ _ (⟨9, (⟨#[]⟩ : ByteArray), (⟨#[]⟩ : ByteArray), (⟨#[]⟩ : ByteArray), (⟨#[]⟩ : ByteArray), 0, 0, 0⟩ : Stmt) )) (Reps.none _ _)))); intro v102 w72 ho73 hb hg_ hnew_; clear hg_ hnew_; (first | rw [← Ny101.out] at ho73 | (simp only [Int.reduceToNat] at ho73; rw [← Ny101.out] at ho73)); have HO103 := am (Kd.R_lower ho73 (below_size (pL HB.out))); replace HB := am (bs_ HB.out hb); clear hb ho73; obtain ⟨Ao74, co74, eo74⟩ := Kd.R_slice HO103.out; subst eo74) | ((with_reducible refine gate_callee (f := 8) rfl ?_); refine goesL_ (some 5) rfl rfl Try.func8 (by kernel_rfl) rfl #[.slice Ao74 y101.length co74] rfl (by (try simp only [List.map_toArray, List.map_cons, List.map_nil]); first | done | rfl | (simp only [List.length_drop, List.length_take]; rfl)) ?_; (with_reducible refine (facts_Of.calls k _ _ y101 t104 _ ?side1 ?side2 A1.out).mono ?_); (case side1 => repeat (first | exact (Kd.R_reads' HO103.out).2.2 | (with_reducible refine Kd.C_alloc ?_ _) | (with_reducible refine Kd.C_drewN ?_ _) | (with_reducible refine Kd.C_drew ?_))); (case side2 => exact (Kd.R_reads' HO103.out).2.1); rintro e w75 ⟨v105, rfl, ho0, hb⟩; refine ⟨_, rfl, ?_⟩; have HO106 := am (Kd.N_lower (Kd.N_mono (ok' := fun k_ => some k_ ≠ (.slice Ao74 y101.length co74 : Value).ownBlock) ho0 (fun k_ hk_ => (Kd.fresh' (Kd.R_lt (pR HO103.out)) k_ hk_))) (below_size (pL HB.out))); replace HO103 := am (Rb_ HO103.out hb); replace HB := am (bs_ HB.out hb); (try clear hb); (try clear hb2); (try clear hk); (try clear hi); (try clear ho0); obtain ⟨Ao76, co76, eo76⟩ := Kd.N_slice HO106.out; subst eo76))
  go_ret
  exact ⟨by first | rfl | (simp [errW_none, errW_some] <;> rfl) | (simp [*, errW_none, errW_some] <;> rfl), pL HB.out⟩
end Go.Proofs.Ytoekfmdcplphmaa.H
/- the document's example holds -/
namespace Go.Proofs.Ytoekfmdcplphmaa.H
open Go.RowKit Go.Proofs.YtoekfmdcplphmaaW.PrintWords
theorem HasEx {p : ByteArray} {a : List Val} {b : Bool} (hb : bareF ⟨p, a⟩ = true) (h : b = true ↔ (⟨p, a⟩ : Fact) ∈ factsL ex21) : facts_Has.f exF p a = some b := by
  rw [← ex_of]
  exact HasOf hb h
theorem shown21_ev : Ev (fun k => lambrequinlaw21_shown.f k) true := by
  unfold lambrequinlaw21_shown.f
  refine Ev.bind (a := exF) (ex_of ▸ of_ev ex21 (by decide)) ?_
  refine Ev.pos (by decide) ?_
  refine Ev.pos (by decide) ?_
  refine Ev.pos (by rw [ByteArray.toList_eq]; rfl) ?_
  refine Ev.pure rfl ?_
  refine Ev.pure rfl ?_
  refine Ev.pure (HasEx (b := true) rfl (by rw [ex_facts]; simp)) ?_
  refine Ev.pos rfl ?_
  refine Ev.pure rfl ?_
  refine Ev.pure rfl ?_
  refine Ev.pure (HasEx (b := true) rfl (by rw [ex_facts]; simp)) ?_
  refine Ev.pos rfl ?_
  refine Ev.pure rfl ?_
  refine Ev.pure rfl ?_
  refine Ev.pure (HasEx (b := false) rfl (by rw [ex_facts]; simp)) ?_
  exact Ev.now _
end Go.Proofs.Ytoekfmdcplphmaa.H
namespace Go.Proofs.Ytoekfmdcplphmaa.H
open Go.RowKit Go.Proofs.YtoekfmdcplphmaaW.PrintWords Go.Proofs.YtoekfmdcplphmaaW.PrintLast Go.Proofs.YtoekfmdcplphmaaW.PrintMore
attribute [local go_sem] max2_int min2_int max_two min_two max_three min_three max_four min_four
def lambrequinref09_In.l0 : Nat → List ByteArray → ByteArray → Int → Option (Bool)
 | 0, _, _, _ => none
 | k + 1, x0, x1, x5 => if x5 < (x0.length : Int) then (if 0 ≤ x5 then (if (rdOf ByteArray.empty x0 x5).toList = x1.toList then (some true) else (lambrequinref09_In.l0 k x0 x1 (wrap64 (x5 + 1)))) else (none)) else (some false)
def lambrequinref09_In.f (k : Nat) (l0 : List ByteArray) (a1 : ByteArray) : Option (Bool) := lambrequinref09_In.l0 k l0 a1 0
theorem lambrequinref09_In.mono_l : ∀ k, (∀ y0 y1 y2, LeO (lambrequinref09_In.l0 k y0 y1 y2) (lambrequinref09_In.l0 (k + 1) y0 y1 y2))
 | 0 => fun _ _ _ r h => by simp [lambrequinref09_In.l0] at h
 | k + 1 => by
  have ih0 := lambrequinref09_In.mono_l k
  ·intro y0 y1 y2
   unfold lambrequinref09_In.l0
   repeat' first
   | (with_reducible exact ih0 _ _ _)
   | (with_reducible exact LeO.refl _)
   | (with_reducible exact LeO.none _)
   | (with_reducible refine LeO.ite ?_ ?_)
   | (with_reducible refine LeO.bind ?_ (fun _ => ?_))
   | exact ih0 _ _ _
   | exact LeO.none _
   | refine LeO.ite ?_ ?_
   | refine LeO.bind ?_ (fun _ => ?_)
theorem lambrequinref09_In.mono : ∀ a0 a1 k, LeO (lambrequinref09_In.f k a0 a1) (lambrequinref09_In.f (k + 1) a0 a1) := by
 intro a0 a1 k
 have ih0 := lambrequinref09_In.mono_l k
 unfold lambrequinref09_In.f
 repeat' first
   | (with_reducible exact ih0 _ _ _)
   | (with_reducible exact LeO.refl _)
   | (with_reducible exact LeO.none _)
   | (with_reducible refine LeO.ite ?_ ?_)
   | (with_reducible refine LeO.bind ?_ (fun _ => ?_))
   | exact ih0 _ _ _
   | exact LeO.none _
   | refine LeO.ite ?_ ?_
   | refine LeO.bind ?_ (fun _ => ?_)
set_option maxHeartbeats 8000000 in
set_option maxRecDepth 100000 in
theorem lambrequinref09_In.calls (k : Nat) (A0 : Option Addr) (c0 : Nat) (l0 : List ByteArray) (a1 : ByteArray) (r : Bool) (w : World) (hr0 : Kd.C Kd.string w A0 l0.length l0) (hc0 : l0.length ≤ c0) (h : lambrequinref09_In.f k l0 a1 = some r) :
  Calls Try.prog 13 #[.slice A0 l0.length c0, .string a1] w fun e w' => e = .returned (.bool r) ∧ Drawn0 w w' := by
 have HR0 := Aside0.mk hr0
 have HC0 := Aside0.mk hc0
 clear hr0 hc0
 have H : (lambrequinref09_In.l0 k l0 a1 0) = some r := h
 clear h
 have H' := Aside0.mk H
 clear H
 go_enter Try.func13, Try.ntmps13
 go_wp2
 go_loopg [5] k (fun kq v5 w' => ∃ (x5_1 : Int), v5 = .int .i64 x5_1 ∧ Aside0 (lambrequinref09_In.l0 kq l0 a1 x5_1 = some r) ∧ Aside0 (kq ≤ k) ∧ Drawn0 w w')
 case atStart => exact ⟨(0), (by first | rfl | (simp; done) | (simp [*]; done)), H', ⟨Nat.le_refl _⟩, by repeat (first | exact Drawn0.refl _ | apply Drawn0.step)⟩
 case round =>
  clear H'
  try clear c1
  try clear p2
  obtain ⟨x5_1, rfl, HA, HK1, ⟨m1, rfl⟩⟩ := hrel
  cases gk with
  | zero => exact absurd HA.out (by simp [lambrequinref09_In.l0])
  | succ k1 =>
   have H := HA.out
   clear HA
   simp only [lambrequinref09_In.l0] at H
   by_cases c3 : x5_1 < (l0.length : Int)
   ·rw [if_pos c3] at H
    have c3b0 : decide (x5_1 < (l0.length : Int)) = true := decide_eq_true c3
    clear c3
    by_cases c4 : 0 ≤ x5_1
    ·rw [if_pos c4] at H
     have c4b0 : decide (0 ≤ x5_1) = true := decide_eq_true c4
     clear c4
     by_cases c5 : (rdOf ByteArray.empty l0 x5_1).toList = a1.toList
     ·rw [if_pos c5] at H
      have c5b0 : ((rdOf ByteArray.empty l0 x5_1).toList == a1.toList) = true := beq_iff_eq.mpr c5
      have c5b1 : ((rdOf ByteArray.empty l0 x5_1).toList != a1.toList) = false := bne_eq_false_iff_eq.mpr c5
      clear c5
      obtain rfl := Option.some.inj H
      have p101 : 0 ≤ (x5_1 : Int) := of_decide_eq_true (by first | (with_reducible assumption) | assumption)
      have q101 : x5_1 < (l0.length : Int) := of_decide_eq_true (by first | (with_reducible assumption) | assumption)
      obtain ⟨ad101, e101, hx101_0⟩ := Kd.at_string HR0.out x5_1 p101 q101
      cases e101
      replace p101 := eq_true p101
      replace q101 := eq_true q101
      go_wp2
      go_ret
      exact ⟨by first | rfl | (simp; done) | (simp [*]; done), by repeat (first | exact Drawn0.refl _ | apply Drawn0.step)⟩
     ·rw [if_neg c5] at H
      have c5b0 : ((rdOf ByteArray.empty l0 x5_1).toList == a1.toList) = false := beq_eq_false_iff_ne.mpr c5
      have c5b1 : ((rdOf ByteArray.empty l0 x5_1).toList != a1.toList) = true := bne_iff_ne.mpr c5
      have H' := Aside0.mk H
      clear H
      have p101 : 0 ≤ (x5_1 : Int) := of_decide_eq_true (by first | (with_reducible assumption) | assumption)
      have q101 : x5_1 < (l0.length : Int) := of_decide_eq_true (by first | (with_reducible assumption) | assumption)
      obtain ⟨ad101, e101, hx101_0⟩ := Kd.at_string HR0.out x5_1 p101 q101
      cases e101
      replace p101 := eq_true p101
      replace q101 := eq_true q101
      go_wp2
      go_roundg k1
      case measure => have := HK1.out; omega
      case rel => exact ⟨(wrap64 (x5_1 + 1)), (by first | rfl | (simp; done) | (simp [*]; done)), H', ⟨by have := HK1.out; omega⟩, by repeat (first | exact Drawn0.refl _ | apply Drawn0.step)⟩
    ·rw [if_neg c4] at H
     exact absurd H (by simp)
   ·rw [if_neg c3] at H
    have c3b0 : decide (x5_1 < (l0.length : Int)) = false := decide_eq_false c3
    clear c3
    obtain rfl := Option.some.inj H
    go_wp2
    go_ret
    exact ⟨by first | rfl | (simp; done) | (simp [*]; done), by repeat (first | exact Drawn0.refl _ | apply Drawn0.step)⟩
end Go.Proofs.Ytoekfmdcplphmaa.H
namespace Go.Proofs.Ytoekfmdcplphmaa.H
open Go.RowKit Go.Proofs.YtoekfmdcplphmaaW.PrintWords
theorem In_l0 (l : List ByteArray) (s : ByteArray) (hl : l.length ≤ 9223372036854775807) : ∀ (r : List ByteArray) (n : Nat), l.drop n = r → Ev (fun k => lambrequinref09_In.l0 k l s n) (mem s r)
  | [], n, h => by
    refine Ev.step (fun k => by rw [lambrequinref09_In.l0]) ?_
    exact Ev.neg (drop_end h) (Ev.some (by simp [mem]))
  | y :: r, n, h => by
    obtain ⟨h1, h2, h3, h4, h5⟩ := drop_more h hl
    refine Ev.step (fun k => by rw [lambrequinref09_In.l0]) ?_
    refine Ev.pos h1 (Ev.pos h2 ?_)
    rw [show rdOf ByteArray.empty l n = y from h3 _, h5]
    refine Ev.iff (Ev.cases (fun _ => Ev.now true) (fun _ => In_l0 l s hl r (n + 1) h4)) ?_
    simp only [lib_ba_eq, mem, List.any_cons]
    by_cases e : y = s
    · subst e; simp
    · have e' : ¬ s = y := fun h => e h.symm
      simp [e, e']
theorem In_ev (l : List ByteArray) (s : ByteArray) (hl : l.length ≤ 9223372036854775807) : Ev (fun k => lambrequinref09_In.f k l s) (mem s l) := In_l0 l s hl l 0 rfl
end Go.Proofs.Ytoekfmdcplphmaa.H
namespace Go.Proofs.Ytoekfmdcplphmaa.H
open Go.RowKit Go.Proofs.YtoekfmdcplphmaaW.PrintWords Go.Proofs.YtoekfmdcplphmaaW.PrintLast Go.Proofs.YtoekfmdcplphmaaW.PrintMore
attribute [local go_sem] max2_int min2_int max_two min_two max_three min_three max_four min_four
mutual
def lambrequinlaw21_FactsFlow.j0 : Nat → List (Stmt) → Int → ByteArray → ByteArray → Bool → List (Fact) → Bool → Option (Bool)
 | 0, _, _, _, _, _, _, _ => none
 | k + 1, x0, x1, x2, x3, x9, x10, x29 => if x29 = true then (if x9 = true then ((lambrequinlaw21_num.f x1).bind fun bt105 => ((lambrequinlaw21_sym.f x2).bind fun bt108 => ((lambrequinlaw21_sym.f x3).bind fun bt111 => ((facts_Has.f x10 (⟨#[102, 108, 111, 119]⟩ : ByteArray) (([(⟨bt105.1, bt105.2.1, bt105.2.2⟩ : Val), (⟨bt108.1, bt108.2.1, bt108.2.2⟩ : Val), (⟨bt111.1, bt111.2.1, bt111.2.2⟩ : Val)] : List (Val)))).bind fun t117 => (some (!t117)))))) else (some false)) else (if 0 ≤ x1 then (if x1 < (x0.length : Int) then ((cfg_Def.f ((rd_T33 x0 x1).kind) ((rd_T33 x0 x1).x) ((rd_T33 x0 x1).y) ((rd_T33 x0 x1).z) ((rd_T33 x0 x1).op) ((rd_T33 x0 x1).n) ((rd_T33 x0 x1).a) ((rd_T33 x0 x1).b)).bind fun bt120 => (if bt120.2 = true then (if bt120.1.toList = x2.toList then ((cfg_Uses.f ((rd_T33 x0 x1).kind) ((rd_T33 x0 x1).x) ((rd_T33 x0 x1).y) ((rd_T33 x0 x1).z) ((rd_T33 x0 x1).op) ((rd_T33 x0 x1).n) ((rd_T33 x0 x1).a) ((rd_T33 x0 x1).b)).bind fun t122 => ((lambrequinref09_In.f k t122 x3).bind fun t125 => (if t125 = true then (if ((rd_T33 x0 x1).kind) = 2 then (lambrequinlaw21_FactsFlow.j1 k x1 x2 x3 x9 x10 true) else (lambrequinlaw21_FactsFlow.j1 k x1 x2 x3 x9 x10 (((rd_T33 x0 x1).kind) == 3))) else (lambrequinlaw21_FactsFlow.j1 k x1 x2 x3 x9 x10 false)))) else (lambrequinlaw21_FactsFlow.j1 k x1 x2 x3 x9 x10 false)) else (lambrequinlaw21_FactsFlow.j1 k x1 x2 x3 x9 x10 false))) else (none)) else (none))
def lambrequinlaw21_FactsFlow.j1 : Nat → Int → ByteArray → ByteArray → Bool → List (Fact) → Bool → Option (Bool)
 | 0, _, _, _, _, _, _ => none
 | k + 1, x1, x2, x3, x9, x10, x14 => if x9 = true then ((lambrequinlaw21_num.f x1).bind fun bt126 => ((lambrequinlaw21_sym.f x2).bind fun bt129 => ((lambrequinlaw21_sym.f x3).bind fun bt132 => ((facts_Has.f x10 (⟨#[102, 108, 111, 119]⟩ : ByteArray) (([(⟨bt126.1, bt126.2.1, bt126.2.2⟩ : Val), (⟨bt129.1, bt129.2.1, bt129.2.2⟩ : Val), (⟨bt132.1, bt132.2.1, bt132.2.2⟩ : Val)] : List (Val)))).bind fun t138 => (some (t138 == x14)))))) else (some false)
end
def lambrequinlaw21_FactsFlow.f (k : Nat) (l0 : List (Stmt)) (a1 : Int) (a2 : ByteArray) (a3 : ByteArray) : Option (Bool) := (lambrequinlaw21_shown.f k).bind fun t101 => (if (l0.length : Int) > 60 then (some t101) else ((facts_Of.f k l0).bind fun t102 => (if a1 < 0 then (lambrequinlaw21_FactsFlow.j0 k l0 a1 a2 a3 t101 t102 true) else (lambrequinlaw21_FactsFlow.j0 k l0 a1 a2 a3 t101 t102 (decide (a1 ≥ (l0.length : Int)))))))
theorem lambrequinlaw21_FactsFlow.mono_l : ∀ k, (∀ y0 y1 y2 y3 y4 y5 y6, LeO (lambrequinlaw21_FactsFlow.j0 k y0 y1 y2 y3 y4 y5 y6) (lambrequinlaw21_FactsFlow.j0 (k + 1) y0 y1 y2 y3 y4 y5 y6)) ∧ (∀ y0 y1 y2 y3 y4 y5, LeO (lambrequinlaw21_FactsFlow.j1 k y0 y1 y2 y3 y4 y5) (lambrequinlaw21_FactsFlow.j1 (k + 1) y0 y1 y2 y3 y4 y5))
 | 0 => ⟨fun _ _ _ _ _ _ _ r h => by simp [lambrequinlaw21_FactsFlow.j0] at h, fun _ _ _ _ _ _ r h => by simp [lambrequinlaw21_FactsFlow.j1] at h⟩
 | k + 1 => by
  obtain ⟨ih0, ih1⟩ := lambrequinlaw21_FactsFlow.mono_l k
  refine ⟨?_, ?_⟩
  ·intro y0 y1 y2 y3 y4 y5 y6
   unfold lambrequinlaw21_FactsFlow.j0
   repeat' first
   | (with_reducible exact ih0 _ _ _ _ _ _ _)
   | (with_reducible exact ih1 _ _ _ _ _ _)
   | (with_reducible exact facts_Of.mono _ _)
   | (with_reducible exact lambrequinlaw21_shown.mono _)
   | (with_reducible exact lambrequinref09_In.mono _ _ _)
   | (with_reducible exact LeO.refl _)
   | (with_reducible exact LeO.none _)
   | (with_reducible refine LeO.ite ?_ ?_)
   | (with_reducible refine LeO.bind ?_ (fun _ => ?_))
   | exact ih0 _ _ _ _ _ _ _
   | exact ih1 _ _ _ _ _ _
   | exact facts_Of.mono _ _
   | exact lambrequinlaw21_shown.mono _
   | exact lambrequinref09_In.mono _ _ _
   | exact LeO.none _
   | refine LeO.ite ?_ ?_
   | refine LeO.bind ?_ (fun _ => ?_)
  ·intro y0 y1 y2 y3 y4 y5
   unfold lambrequinlaw21_FactsFlow.j1
   repeat' first
   | (with_reducible exact ih0 _ _ _ _ _ _ _)
   | (with_reducible exact ih1 _ _ _ _ _ _)
   | (with_reducible exact facts_Of.mono _ _)
   | (with_reducible exact lambrequinlaw21_shown.mono _)
   | (with_reducible exact lambrequinref09_In.mono _ _ _)
   | (with_reducible exact LeO.refl _)
   | (with_reducible exact LeO.none _)
   | (with_reducible refine LeO.ite ?_ ?_)
   | (with_reducible refine LeO.bind ?_ (fun _ => ?_))
   | exact ih0 _ _ _ _ _ _ _
   | exact ih1 _ _ _ _ _ _
   | exact facts_Of.mono _ _
   | exact lambrequinlaw21_shown.mono _
   | exact lambrequinref09_In.mono _ _ _
   | exact LeO.none _
   | refine LeO.ite ?_ ?_
   | refine LeO.bind ?_ (fun _ => ?_)
theorem lambrequinlaw21_FactsFlow.mono : ∀ a0 a1 a2 a3 k, LeO (lambrequinlaw21_FactsFlow.f k a0 a1 a2 a3) (lambrequinlaw21_FactsFlow.f (k + 1) a0 a1 a2 a3) := by
 intro a0 a1 a2 a3 k
 obtain ⟨ih0, ih1⟩ := lambrequinlaw21_FactsFlow.mono_l k
 unfold lambrequinlaw21_FactsFlow.f
 repeat' first
   | (with_reducible exact ih0 _ _ _ _ _ _ _)
   | (with_reducible exact ih1 _ _ _ _ _ _)
   | (with_reducible exact facts_Of.mono _ _)
   | (with_reducible exact lambrequinlaw21_shown.mono _)
   | (with_reducible exact lambrequinref09_In.mono _ _ _)
   | (with_reducible exact LeO.refl _)
   | (with_reducible exact LeO.none _)
   | (with_reducible refine LeO.ite ?_ ?_)
   | (with_reducible refine LeO.bind ?_ (fun _ => ?_))
   | exact ih0 _ _ _ _ _ _ _
   | exact ih1 _ _ _ _ _ _
   | exact facts_Of.mono _ _
   | exact lambrequinlaw21_shown.mono _
   | exact lambrequinref09_In.mono _ _ _
   | exact LeO.none _
   | refine LeO.ite ?_ ?_
   | refine LeO.bind ?_ (fun _ => ?_)
set_option maxHeartbeats 8000000 in
set_option maxRecDepth 100000 in
theorem lambrequinlaw21_FactsFlow.calls (k : Nat) (A0 : Option Addr) (c0 : Nat) (l0 : List (Stmt)) (a1 : Int) (a2 : ByteArray) (a3 : ByteArray) (r : Bool) (w : World) (hr0 : Kd.C k33 w A0 l0.length l0) (hc0 : l0.length ≤ c0) (h : lambrequinlaw21_FactsFlow.f k l0 a1 a2 a3 = some r) :
  Calls Try.prog 4 #[.slice A0 l0.length c0, .int .i64 a1, .string a2, .string a3] w fun e w' => e = .returned (.bool r) ∧ Below w.heap.size w w' := by
 have hu33 := Try.underlying33
 have HR0 := am hr0
 have HC0 := am hc0
 clear hr0 hc0
 have HB := am (Below.refl w.heap.size w)
 have H : ((lambrequinlaw21_shown.f k).bind fun t101 => (if (l0.length : Int) > 60 then (some t101) else ((facts_Of.f k l0).bind fun t102 => (if a1 < 0 then (lambrequinlaw21_FactsFlow.j0 k l0 a1 a2 a3 t101 t102 true) else (lambrequinlaw21_FactsFlow.j0 k l0 a1 a2 a3 t101 t102 (decide (a1 ≥ (l0.length : Int)))))))) = some r := h
 clear h
 replace H := Option.bind_eq_some_iff.mp H
 obtain ⟨t101, A50, H⟩ := H
 replace H : (if (l0.length : Int) > 60 then (some t101) else ((facts_Of.f k l0).bind fun t102 => (if a1 < 0 then (lambrequinlaw21_FactsFlow.j0 k l0 a1 a2 a3 t101 t102 true) else (lambrequinlaw21_FactsFlow.j0 k l0 a1 a2 a3 t101 t102 (decide (a1 ≥ (l0.length : Int))))))) = some r := H
 have A5 := am A50
 clear A50
 by_cases c6 : (l0.length : Int) > 60
 ·rw [if_pos c6] at H
  have c6b0 : decide (60 < (l0.length : Int)) = true := decide_eq_true c6
  have c6b1 : decide (60 < l0.length) = true := decide_eq_true (by omega)
  clear c6
  obtain rfl := Option.some.inj H
  go_enter Try.func4, Try.ntmps4
  go_wp2_with (first | ((with_reducible refine gate_callee (f := 7) rfl ?_); refine goesL_ (some 15) rfl rfl Try.func7 (by kernel_rfl) rfl #[] rfl (by (try simp only [List.map_toArray, List.map_cons, List.map_nil]); first | done | rfl | (simp only [List.length_drop, List.length_take]; rfl)) ?_; (with_reducible refine (lambrequinlaw21_shown.calls k  t101 _ A5.out).mono ?_); rintro e w7 ⟨rfl, hb⟩; refine ⟨_, rfl, ?_⟩; replace HB := am (bs_ HB.out hb); (try clear hb); (try clear hb2); (try clear hk); (try clear hi)))
  go_ret
  exact ⟨by first | rfl | (simp [errW_none, errW_some] <;> rfl) | (simp [*, errW_none, errW_some] <;> rfl), pL HB.out⟩
 ·rw [if_neg c6] at H
  have c6b0 : decide (60 < (l0.length : Int)) = false := decide_eq_false c6
  have c6b1 : decide (60 < l0.length) = false := decide_eq_false (by omega)
  clear c6
  replace H := Option.bind_eq_some_iff.mp H
  obtain ⟨t102, A80, H⟩ := H
  replace H : (if a1 < 0 then (lambrequinlaw21_FactsFlow.j0 k l0 a1 a2 a3 t101 t102 true) else (lambrequinlaw21_FactsFlow.j0 k l0 a1 a2 a3 t101 t102 (decide (a1 ≥ (l0.length : Int))))) = some r := H
  have A8 := am A80
  clear A80
  have HC9 := am H
  clear H
  go_enter Try.func4, Try.ntmps4
  go_upto_region 5 with (first | ((with_reducible refine gate_callee (f := 7) rfl ?_); refine goesL_ (some 15) rfl rfl Try.func7 (by kernel_rfl) rfl #[] rfl (by (try simp only [List.map_toArray, List.map_cons, List.map_nil]); first | done | rfl | (simp only [List.length_drop, List.length_take]; rfl)) ?_; (with_reducible refine (lambrequinlaw21_shown.calls k  t101 _ A5.out).mono ?_); rintro e w10 ⟨rfl, hb⟩; refine ⟨_, rfl, ?_⟩; replace HB := am (bs_ HB.out hb); (try clear hb); (try clear hb2); (try clear hk); (try clear hi)) | ((with_reducible refine gate_callee (f := 8) rfl ?_); refine goesL_ (some 21) rfl rfl Try.func8 (by kernel_rfl) rfl #[.slice A0 l0.length c0] rfl (by (try simp only [List.map_toArray, List.map_cons, List.map_nil]); first | done | rfl | (simp only [List.length_drop, List.length_take]; rfl)) ?_; (with_reducible refine (facts_Of.calls k _ _ l0 t102 _ ?side1 ?side2 A8.out).mono ?_); (case side1 => repeat (first | exact (Kd.C_below HR0.out HB.out) | (with_reducible refine Kd.C_alloc ?_ _) | (with_reducible refine Kd.C_drewN ?_ _) | (with_reducible refine Kd.C_drew ?_))); (case side2 => exact HC0.out); rintro e w11 ⟨v103, rfl, ho0, hb⟩; refine ⟨_, rfl, ?_⟩; have HO104 := am (Kd.N_lower (Kd.N_mono (ok' := fun k_ => True) ho0 (fun k_ hk_ => trivial)) (below_size (pL HB.out))); replace HB := am (bs_ HB.out hb); (try clear hb); (try clear hb2); (try clear hk); (try clear hi); (try clear ho0)))
  (try simp only [Act.put, List.setIfInBounds_toArray, List.set_cons_zero, List.set_cons_succ])
  go_cut [29] (fun v29 wc => ∃ (kq : Nat) (x29_8 : Bool), v29 = .bool x29_8 ∧ Aside0 (lambrequinlaw21_FactsFlow.j0 kq l0 a1 a2 a3 t101 t102 x29_8 = some r) ∧ Aside0 (kq ≤ k) ∧ Aside0 (Kd.N k44 44 wc w.heap.size (fun _ => True) v103 t102) ∧ Aside0 (Below w.heap.size w wc))
  case first =>
   have H := HC9.out
   clear HC9
   by_cases c12 : a1 < 0
   ·rw [if_pos c12] at H
    have c12b0 : decide (a1 < 0) = true := decide_eq_true c12
    clear c12
    (first | rw [c12b0] | (simp only [i64_w, i32_w]; rw [c12b0]) | skip)
    have H' := am H
    clear H
    go_wp2
    go_meet
    case rel => exact ⟨_, (true), rs_, H', ⟨by first | omega | exact Nat.le_refl _⟩, ⟨by (with_reducible repeat (first | apply Kd.N_alloc | apply Kd.N_drewN | apply Kd.N_drew)); exact HO104.out⟩, ⟨pL HB.out⟩⟩
   ·rw [if_neg c12] at H
    have c12b0 : decide (a1 < 0) = false := decide_eq_false c12
    clear c12
    (first | rw [c12b0] | (simp only [i64_w, i32_w]; rw [c12b0]) | skip)
    have H' := am H
    clear H
    go_wp2
    go_meet
    case rel => exact ⟨_, (decide (a1 ≥ (l0.length : Int))), rs_, H', ⟨by first | omega | exact Nat.le_refl _⟩, ⟨by (with_reducible repeat (first | apply Kd.N_alloc | apply Kd.N_drewN | apply Kd.N_drew)); exact HO104.out⟩, ⟨pL HB.out⟩⟩
  case rest =>
   clear HC9
   try clear c1
   try clear p2
   try clear c4
   try clear c6
   try clear c6b0
   try clear c6b1
   try clear c7
   try clear c8
   try clear c12
   try clear c12b0
   obtain ⟨kq, x29_8, rfl, HA, HJ8, HO_10, HB⟩ := hcut
   cases kq with
   | zero => exact absurd HA.out (by simp [lambrequinlaw21_FactsFlow.j0])
   | succ kj8 =>
    have H := HA.out
    clear HA
    simp only [lambrequinlaw21_FactsFlow.j0] at H
    by_cases c13 : x29_8 = true
    ·subst c13
     have H1 : (if t101 = true then ((lambrequinlaw21_num.f a1).bind fun bt105 => ((lambrequinlaw21_sym.f a2).bind fun bt108 => ((lambrequinlaw21_sym.f a3).bind fun bt111 => ((facts_Has.f t102 (⟨#[102, 108, 111, 119]⟩ : ByteArray) (([(⟨bt105.1, bt105.2.1, bt105.2.2⟩ : Val), (⟨bt108.1, bt108.2.1, bt108.2.2⟩ : Val), (⟨bt111.1, bt111.2.1, bt111.2.2⟩ : Val)] : List (Val)))).bind fun t117 => (some (!t117)))))) else (some false)) = some r := by rw [if_pos rfl] at H; exact H
     clear H
     have H := H1
     clear H1
     by_cases c14 : t101 = true
     ·subst c14
      have H1 : ((lambrequinlaw21_num.f a1).bind fun bt105 => ((lambrequinlaw21_sym.f a2).bind fun bt108 => ((lambrequinlaw21_sym.f a3).bind fun bt111 => ((facts_Has.f t102 (⟨#[102, 108, 111, 119]⟩ : ByteArray) (([(⟨bt105.1, bt105.2.1, bt105.2.2⟩ : Val), (⟨bt108.1, bt108.2.1, bt108.2.2⟩ : Val), (⟨bt111.1, bt111.2.1, bt111.2.2⟩ : Val)] : List (Val)))).bind fun t117 => (some (!t117)))))) = some r := by rw [if_pos rfl] at H; exact H
      clear H
      have H := H1
      clear H1
      replace H := Option.bind_eq_some_iff.mp H
      obtain ⟨⟨t105, t106, t107⟩, A150, H⟩ := H
      replace H : ((lambrequinlaw21_sym.f a2).bind fun bt108 => ((lambrequinlaw21_sym.f a3).bind fun bt111 => ((facts_Has.f t102 (⟨#[102, 108, 111, 119]⟩ : ByteArray) (([(⟨t105, t106, t107⟩ : Val), (⟨bt108.1, bt108.2.1, bt108.2.2⟩ : Val), (⟨bt111.1, bt111.2.1, bt111.2.2⟩ : Val)] : List (Val)))).bind fun t117 => (some (!t117))))) = some r := H
      have A15 := am A150
      clear A150
      replace H := Option.bind_eq_some_iff.mp H
      obtain ⟨⟨t108, t109, t110⟩, A160, H⟩ := H
      replace H : ((lambrequinlaw21_sym.f a3).bind fun bt111 => ((facts_Has.f t102 (⟨#[102, 108, 111, 119]⟩ : ByteArray) (([(⟨t105, t106, t107⟩ : Val), (⟨t108, t109, t110⟩ : Val), (⟨bt111.1, bt111.2.1, bt111.2.2⟩ : Val)] : List (Val)))).bind fun t117 => (some (!t117)))) = some r := H
      have A16 := am A160
      clear A160
      replace H := Option.bind_eq_some_iff.mp H
      obtain ⟨⟨t111, t112, t113⟩, A170, H⟩ := H
      replace H : ((facts_Has.f t102 (⟨#[102, 108, 111, 119]⟩ : ByteArray) (([(⟨t105, t106, t107⟩ : Val), (⟨t108, t109, t110⟩ : Val), (⟨t111, t112, t113⟩ : Val)] : List (Val)))).bind fun t117 => (some (!t117))) = some r := H
      have A17 := am A170
      clear A170
      obtain ⟨y114, hy114⟩ : ∃ y_ : List (Val), y_ = (([(⟨t105, t106, t107⟩ : Val), (⟨t108, t109, t110⟩ : Val), (⟨t111, t112, t113⟩ : Val)] : List (Val))) := ⟨_, rfl⟩
      replace H : ((facts_Has.f t102 (⟨#[102, 108, 111, 119]⟩ : ByteArray) y114).bind fun t117 => (some (!t117))) = some r := by first | (rw [hy114]; with_reducible exact H) | (have H2_ := (Option.bind_some _ _).symm.trans H; rw [hy114]; with_reducible exact H2_) | (have H2_ := (Option.bind_some _ _).symm.trans H; with_reducible exact H2_) | with_reducible exact H | (rw [hy114]; exact H) | exact H
      have Ny114 := am hy114
      clear hy114
      replace H := Option.bind_eq_some_iff.mp H
      obtain ⟨t117, A180, H⟩ := H
      replace H : (some (!t117)) = some r := H
      have A18 := am A180
      clear A180
      obtain rfl := Option.some.inj H
      go_wp2_with (first | (go_at_call 10; (with_reducible refine (lambrequinlaw21_num.calls a1 t105 t106 t107 _ A15.out).mono ?_); rintro e w19 ⟨rfl, hb⟩; (try clear A15); replace HO_10 := am (Kd.N_below (by (with_reducible repeat (first | apply Kd.N_alloc | apply Kd.N_drewN | apply Kd.N_drew)); exact HO_10.out) hb); replace HB := am (bs_ HB.out hb); (try clear hb); (try clear hb2); (try clear hk); (try clear hi)) | (go_at_call 15; (with_reducible refine (lambrequinlaw21_sym.calls a2 t108 t109 t110 _ A16.out).mono ?_); rintro e w20 ⟨rfl, hb⟩; (try clear A16); replace HO_10 := am (Kd.N_below (by (with_reducible repeat (first | apply Kd.N_alloc | apply Kd.N_drewN | apply Kd.N_drew)); exact HO_10.out) hb); replace HB := am (bs_ HB.out hb); (try clear hb); (try clear hb2); (try clear hk); (try clear hi)) | (go_at_call 15; (with_reducible refine (lambrequinlaw21_sym.calls a3 t111 t112 t113 _ A17.out).mono ?_); rintro e w21 ⟨rfl, hb⟩; (try clear A17); replace HO_10 := am (Kd.N_below (by (with_reducible repeat (first | apply Kd.N_alloc | apply Kd.N_drewN | apply Kd.N_drew)); exact HO_10.out) hb); replace HB := am (bs_ HB.out hb); (try clear hb); (try clear hb2); (try clear hk); (try clear hi)) | ((with_reducible refine gate_dst (N := 39) rfl ?_); (try (refine gate_guard (by rfl) ?_; dsimp only)); refine Kd.R_lit k28 _ 28 ?hg (N := 39) ?hd (xs := ([(⟨t105, t106, t107⟩ : Val), (⟨t108, t109, t110⟩ : Val), (⟨t111, t112, t113⟩ : Val)] : List (Val))) (inner := [.bool t105, .string t106, .int .i64 t107, .bool t108, .string t109, .int .i64 t110, .bool t111, .string t112, .int .i64 t113]) (ok := fun _ => True) (okp := fun _ => True) ?hr ?hp (fun _ hk => hk) trivial (Below.refl _ _) (Nat.le_refl _) (by simp) ?_; (case hd => rfl); (case hg => rfl); (case hr => first | (go_simp; done) | (go_simp; rfl)); (case hp => exact (Reps.c3 (show Kd.M k28 _ _ _ (⟨t105, t106, t107⟩ : Val) [.bool t105, .string t106, .int .i64 t107] from (k28_mkM _ _ _ (⟨t105, t106, t107⟩ : Val) )) (Reps.c3 (show Kd.M k28 _ _ _ (⟨t108, t109, t110⟩ : Val) [.bool t108, .string t109, .int .i64 t110] from (k28_mkM _ _ _ (⟨t108, t109, t110⟩ : Val) )) (Reps.c3 (show Kd.M k28 _ _ _ (⟨t111, t112, t113⟩ : Val) [.bool t111, .string t112, .int .i64 t113] from (k28_mkM _ _ _ (⟨t111, t112, t113⟩ : Val) )) (Reps.none _ _))))); intro v115 w22 ho23 hb hg_ hnew_; clear hg_ hnew_; (first | rw [← Ny114.out] at ho23 | (simp only [Int.reduceToNat] at ho23; rw [← Ny114.out] at ho23)); replace HO_10 := am (Kd.N_elder' (by (with_reducible repeat (first | apply Kd.N_alloc | apply Kd.N_drewN | apply Kd.N_drew)); exact HO_10.out) (Kd.R_base ho23) hb); have HO116 := am (Kd.R_lower ho23 (below_size (pL HB.out))); replace HB := am (bs_ HB.out hb); clear hb ho23; obtain ⟨Ao24, co24, eo24⟩ := Kd.N_slice HO_10.out; subst eo24; obtain ⟨Ao25, co25, eo25⟩ := Kd.R_slice HO116.out; subst eo25) | (go_at_call 9; (with_reducible refine (facts_Has.calls _ _ t102 (⟨#[102, 108, 111, 119]⟩ : ByteArray) _ _ y114 t117 _ ?side1 ?side2 ?side3 ?side4 A18.out).mono ?_); (case side1 => repeat (first | exact (Kd.N_reads' HO_10.out).2.2 | (with_reducible refine Kd.C_alloc ?_ _) | (with_reducible refine Kd.C_drewN ?_ _) | (with_reducible refine Kd.C_drew ?_))); (case side2 => exact (Kd.N_reads' HO_10.out).2.1); (case side3 => repeat (first | exact (Kd.R_reads' HO116.out).2.2 | (with_reducible refine Kd.C_alloc ?_ _) | (with_reducible refine Kd.C_drewN ?_ _) | (with_reducible refine Kd.C_drew ?_))); (case side4 => exact (Kd.R_reads' HO116.out).2.1); rintro e w26 ⟨rfl, hb⟩; (try clear A18); replace HO_10 := am (Kd.N_below (by (with_reducible repeat (first | apply Kd.N_alloc | apply Kd.N_drewN | apply Kd.N_drew)); exact HO_10.out) hb); replace HO116 := am (Rb_ HO116.out hb); replace HB := am (bs_ HB.out hb); (try clear hb); (try clear hb2); (try clear hk); (try clear hi)))
      go_ret
      exact ⟨by first | rfl | (simp [errW_none, errW_some] <;> rfl) | (simp [*, errW_none, errW_some] <;> rfl), pL HB.out⟩
     ·replace c14 := Bool.eq_false_iff.mpr c14
      subst c14
      have H1 : (some false) = some r := by rw [if_neg (show ¬ (false = true) by decide)] at H; exact H
      clear H
      have H := H1
      clear H1
      obtain rfl := Option.some.inj H
      go_wp2
      go_ret
      exact ⟨by first | rfl | (simp [errW_none, errW_some] <;> rfl) | (simp [*, errW_none, errW_some] <;> rfl), pL HB.out⟩
    ·replace c13 := Bool.eq_false_iff.mpr c13
     subst c13
     have H1 : (if 0 ≤ a1 then (if a1 < (l0.length : Int) then ((cfg_Def.f ((rd_T33 l0 a1).kind) ((rd_T33 l0 a1).x) ((rd_T33 l0 a1).y) ((rd_T33 l0 a1).z) ((rd_T33 l0 a1).op) ((rd_T33 l0 a1).n) ((rd_T33 l0 a1).a) ((rd_T33 l0 a1).b)).bind fun bt120 => (if bt120.2 = true then (if bt120.1.toList = a2.toList then ((cfg_Uses.f ((rd_T33 l0 a1).kind) ((rd_T33 l0 a1).x) ((rd_T33 l0 a1).y) ((rd_T33 l0 a1).z) ((rd_T33 l0 a1).op) ((rd_T33 l0 a1).n) ((rd_T33 l0 a1).a) ((rd_T33 l0 a1).b)).bind fun t122 => ((lambrequinref09_In.f kj8 t122 a3).bind fun t125 => (if t125 = true then (if ((rd_T33 l0 a1).kind) = 2 then (lambrequinlaw21_FactsFlow.j1 kj8 a1 a2 a3 t101 t102 true) else (lambrequinlaw21_FactsFlow.j1 kj8 a1 a2 a3 t101 t102 (((rd_T33 l0 a1).kind) == 3))) else (lambrequinlaw21_FactsFlow.j1 kj8 a1 a2 a3 t101 t102 false)))) else (lambrequinlaw21_FactsFlow.j1 kj8 a1 a2 a3 t101 t102 false)) else (lambrequinlaw21_FactsFlow.j1 kj8 a1 a2 a3 t101 t102 false))) else (none)) else (none)) = some r := by rw [if_neg (show ¬ (false = true) by decide)] at H; exact H
     clear H
     have H := H1
     clear H1
     by_cases c27 : 0 ≤ a1
     ·rw [if_pos c27] at H
      have c27b0 : decide (0 ≤ a1) = true := decide_eq_true c27
      clear c27
      by_cases c28 : a1 < (l0.length : Int)
      ·rw [if_pos c28] at H
       have c28b0 : decide (a1 < (l0.length : Int)) = true := decide_eq_true c28
       clear c28
       replace H := Option.bind_eq_some_iff.mp H
       obtain ⟨⟨t120, t121⟩, A290, H⟩ := H
       replace H : (if t121 = true then (if t120.toList = a2.toList then ((cfg_Uses.f ((rd_T33 l0 a1).kind) ((rd_T33 l0 a1).x) ((rd_T33 l0 a1).y) ((rd_T33 l0 a1).z) ((rd_T33 l0 a1).op) ((rd_T33 l0 a1).n) ((rd_T33 l0 a1).a) ((rd_T33 l0 a1).b)).bind fun t122 => ((lambrequinref09_In.f kj8 t122 a3).bind fun t125 => (if t125 = true then (if ((rd_T33 l0 a1).kind) = 2 then (lambrequinlaw21_FactsFlow.j1 kj8 a1 a2 a3 t101 t102 true) else (lambrequinlaw21_FactsFlow.j1 kj8 a1 a2 a3 t101 t102 (((rd_T33 l0 a1).kind) == 3))) else (lambrequinlaw21_FactsFlow.j1 kj8 a1 a2 a3 t101 t102 false)))) else (lambrequinlaw21_FactsFlow.j1 kj8 a1 a2 a3 t101 t102 false)) else (lambrequinlaw21_FactsFlow.j1 kj8 a1 a2 a3 t101 t102 false)) = some r := H
       have A29 := am A290
       clear A290
       have HC30 := am H
       clear H
       have p118 : 0 ≤ (a1 : Int) := dt_
       have q118 : a1 < (l0.length : Int) := dt_
       obtain ⟨ad118, e118, hx118_0, hx118_1, hx118_2, hx118_3, hx118_4, hx118_5, hx118_6, hx118_7⟩ := at_T33 HR0.out a1 p118 q118
       cases e118
       replace hx118_0 := up_ HB.out hx118_0
       replace hx118_1 := up_ HB.out hx118_1
       replace hx118_2 := up_ HB.out hx118_2
       replace hx118_3 := up_ HB.out hx118_3
       replace hx118_4 := up_ HB.out hx118_4
       replace hx118_5 := up_ HB.out hx118_5
       replace hx118_6 := up_ HB.out hx118_6
       replace hx118_7 := up_ HB.out hx118_7
       replace p118 := eq_true p118
       replace q118 := eq_true q118
       go_upto_region 9 with (first | ((with_reducible refine gate_dst (N := 11) rfl ?_); (try (refine gate_guard (by rfl) ?_; dsimp only)); refine box_event ?hg (N := 11) ?hd (cs := #[.int .i64 0, .string (⟨#[]⟩ : ByteArray), .string (⟨#[]⟩ : ByteArray), .string (⟨#[]⟩ : ByteArray), .string (⟨#[]⟩ : ByteArray), .int .i64 0, .int .i64 0, .int .i64 0]) (t := 33) ?hr ?_; (case hd => rfl); (case hg => rfl); (case hr => first | (go_simp; done) | (go_simp; rfl)); intro gb119 hg w31 hbox hb; replace HO_10 := am (Kd.N_below (Kd.N_elderB (by (with_reducible repeat (first | apply Kd.N_alloc | apply Kd.N_drewN | apply Kd.N_drew)); exact HO_10.out) gb119 (Nat.le_of_eq hg.symm)) hb); have BK119 := am (hbox); have GW119 := am (gw_ hg HB.out); have GE119 := GW119; replace HB := am (bs_ HB.out hb); clear hb hbox hg; obtain ⟨hcz32_0, hcz32_1, hcz32_2, hcz32_3, hcz32_4, hcz32_5, hcz32_6, hcz32_7, hfz32_0, hfz32_1, hfz32_2, hfz32_3, hfz32_4, hfz32_5, hfz32_6, hfz32_7⟩ := bc8 BK119.out) | ((with_reducible refine gate_callee (f := 12) rfl ?_); refine goesL_ (some 49) rfl rfl Try.func12 (by kernel_rfl) rfl #[.agg #[.int .i64 ((rd_T33 l0 a1).kind), .string ((rd_T33 l0 a1).x), .string ((rd_T33 l0 a1).y), .string ((rd_T33 l0 a1).z), .string ((rd_T33 l0 a1).op), .int .i64 ((rd_T33 l0 a1).n), .int .i64 ((rd_T33 l0 a1).a), .int .i64 ((rd_T33 l0 a1).b)]] rfl (by (try simp only [List.map_toArray, List.map_cons, List.map_nil]); first | done | rfl | (simp only [List.length_drop, List.length_take]; rfl)) ?_; (with_reducible refine (cfg_Def.calls ((rd_T33 l0 a1).kind) ((rd_T33 l0 a1).x) ((rd_T33 l0 a1).y) ((rd_T33 l0 a1).z) ((rd_T33 l0 a1).op) ((rd_T33 l0 a1).n) ((rd_T33 l0 a1).a) ((rd_T33 l0 a1).b) t120 t121 _ A29.out).mono ?_); rintro e w33 ⟨rfl, hb⟩; refine ⟨_, rfl, ?_⟩; replace HO_10 := am (Kd.N_below (by (with_reducible repeat (first | apply Kd.N_alloc | apply Kd.N_drewN | apply Kd.N_drew)); exact (Kd.N_mono (Kd.N_far (p := ⟨gb119, 7, none⟩) (Kd.N_far (p := ⟨gb119, 6, none⟩) (Kd.N_far (p := ⟨gb119, 5, none⟩) (Kd.N_far (p := ⟨gb119, 4, none⟩) (Kd.N_far (p := ⟨gb119, 3, none⟩) (Kd.N_far (p := ⟨gb119, 2, none⟩) (Kd.N_far (p := ⟨gb119, 1, none⟩) (Kd.N_far (p := ⟨gb119, 0, none⟩) (Kd.N_mono HO_10.out (fun k_ hk => (⟨hk, hk.2⟩ : _ ∧ k_ ≠ gb119))) (fun _ hk => hk.2) _) (fun _ hk => hk.2) _) (fun _ hk => hk.2) _) (fun _ hk => hk.2) _) (fun _ hk => hk.2) _) (fun _ hk => hk.2) _) (fun _ hk => hk.2) _) (fun _ hk => hk.2) _) (fun _ h_ => h_.1))) hb); replace BK119 := am (blk_below (g := gb119) (o := .cells #[.int .i64 ((rd_T33 l0 a1).kind), .string ((rd_T33 l0 a1).x), .string ((rd_T33 l0 a1).y), .string ((rd_T33 l0 a1).z), .string ((rd_T33 l0 a1).op), .int .i64 ((rd_T33 l0 a1).n), .int .i64 ((rd_T33 l0 a1).a), .int .i64 ((rd_T33 l0 a1).b)] 33 (0, 0)) (by (with_reducible repeat (first | refine bN ?_ _ | refine bD ?_ | refine bA ?_ _)); exact bp 7 (bp 6 (bp 5 (bp 4 (bp 3 (bp 2 (bp 1 (bp 0 BK119.out)))))))) hb); replace HB := am (bs_ HB.out hb); (try clear hb); (try clear hb2); (try clear hk); (try clear hi)))
       (try simp only [Act.put, List.setIfInBounds_toArray, List.set_cons_zero, List.set_cons_succ])
       go_cut [14] (fun v14 wc => ∃ (kq : Nat) (x14_29 : Bool), v14 = .bool x14_29 ∧ Aside0 (lambrequinlaw21_FactsFlow.j1 kq a1 a2 a3 t101 t102 x14_29 = some r) ∧ Aside0 (kq ≤ kj8) ∧ Aside0 (Kd.N k44 44 wc w.heap.size (fun k_ => k_ ≠ gb119) v103 t102) ∧ Aside0 (wc.heap[gb119]? = some (.cells #[.int .i64 ((rd_T33 l0 a1).kind), .string ((rd_T33 l0 a1).x), .string ((rd_T33 l0 a1).y), .string ((rd_T33 l0 a1).z), .string ((rd_T33 l0 a1).op), .int .i64 ((rd_T33 l0 a1).n), .int .i64 ((rd_T33 l0 a1).a), .int .i64 ((rd_T33 l0 a1).b)] 33 (0, 0))) ∧ Aside0 (Below w.heap.size w wc))
       case first =>
        have H := HC30.out
        clear HC30
        by_cases c34 : t121 = true
        ·subst c34
         have H1 : (if t120.toList = a2.toList then ((cfg_Uses.f ((rd_T33 l0 a1).kind) ((rd_T33 l0 a1).x) ((rd_T33 l0 a1).y) ((rd_T33 l0 a1).z) ((rd_T33 l0 a1).op) ((rd_T33 l0 a1).n) ((rd_T33 l0 a1).a) ((rd_T33 l0 a1).b)).bind fun t122 => ((lambrequinref09_In.f kj8 t122 a3).bind fun t125 => (if t125 = true then (if ((rd_T33 l0 a1).kind) = 2 then (lambrequinlaw21_FactsFlow.j1 kj8 a1 a2 a3 t101 t102 true) else (lambrequinlaw21_FactsFlow.j1 kj8 a1 a2 a3 t101 t102 (((rd_T33 l0 a1).kind) == 3))) else (lambrequinlaw21_FactsFlow.j1 kj8 a1 a2 a3 t101 t102 false)))) else (lambrequinlaw21_FactsFlow.j1 kj8 a1 a2 a3 t101 t102 false)) = some r := by rw [if_pos rfl] at H; exact H
         clear H
         have H := H1
         clear H1
         by_cases c35 : t120.toList = a2.toList
         ·rw [if_pos c35] at H
          have c35b0 : (t120.toList == a2.toList) = true := beq_iff_eq.mpr c35
          have c35b1 : (t120.toList != a2.toList) = false := bne_eq_false_iff_eq.mpr c35
          clear c35
          (first | rw [c35b0] | (simp only [i64_w, i32_w]; rw [c35b0]) | skip)
          replace H := Option.bind_eq_some_iff.mp H
          obtain ⟨t122, A360, H⟩ := H
          replace H : ((lambrequinref09_In.f kj8 t122 a3).bind fun t125 => (if t125 = true then (if ((rd_T33 l0 a1).kind) = 2 then (lambrequinlaw21_FactsFlow.j1 kj8 a1 a2 a3 t101 t102 true) else (lambrequinlaw21_FactsFlow.j1 kj8 a1 a2 a3 t101 t102 (((rd_T33 l0 a1).kind) == 3))) else (lambrequinlaw21_FactsFlow.j1 kj8 a1 a2 a3 t101 t102 false))) = some r := H
          have A36 := am A360
          clear A360
          replace H := Option.bind_eq_some_iff.mp H
          obtain ⟨t125, A370, H⟩ := H
          replace H : (if t125 = true then (if ((rd_T33 l0 a1).kind) = 2 then (lambrequinlaw21_FactsFlow.j1 kj8 a1 a2 a3 t101 t102 true) else (lambrequinlaw21_FactsFlow.j1 kj8 a1 a2 a3 t101 t102 (((rd_T33 l0 a1).kind) == 3))) else (lambrequinlaw21_FactsFlow.j1 kj8 a1 a2 a3 t101 t102 false)) = some r := H
          have A37 := am A370
          clear A370
          by_cases c38 : t125 = true
          ·subst c38
           have H1 : (if ((rd_T33 l0 a1).kind) = 2 then (lambrequinlaw21_FactsFlow.j1 kj8 a1 a2 a3 t101 t102 true) else (lambrequinlaw21_FactsFlow.j1 kj8 a1 a2 a3 t101 t102 (((rd_T33 l0 a1).kind) == 3))) = some r := by rw [if_pos rfl] at H; exact H
           clear H
           have H := H1
           clear H1
           by_cases c39 : ((rd_T33 l0 a1).kind) = 2
           ·rw [if_pos c39] at H
            have c39b0 : (((rd_T33 l0 a1).kind) == 2) = true := beq_iff_eq.mpr c39
            have c39b1 : (((rd_T33 l0 a1).kind) != 2) = false := bne_eq_false_iff_eq.mpr c39
            clear c39
            have H' := am H
            clear H
            obtain ⟨hcz40_0, hcz40_1, hcz40_2, hcz40_3, hcz40_4, hcz40_5, hcz40_6, hcz40_7, hfz40_0, hfz40_1, hfz40_2, hfz40_3, hfz40_4, hfz40_5, hfz40_6, hfz40_7⟩ := bc8 BK119.out
            go_wp2_with (first | (go_at_call 14; (with_reducible refine (cfg_Uses.calls ((rd_T33 l0 a1).kind) ((rd_T33 l0 a1).x) ((rd_T33 l0 a1).y) ((rd_T33 l0 a1).z) ((rd_T33 l0 a1).op) ((rd_T33 l0 a1).n) ((rd_T33 l0 a1).a) ((rd_T33 l0 a1).b) t122 _ A36.out).mono ?_); rintro e w41 ⟨v123, rfl, ho0, hb⟩; (try clear A36); replace HO_10 := am (Kd.N_elder' (by (with_reducible repeat (first | apply Kd.N_alloc | apply Kd.N_drewN | apply Kd.N_drew)); exact HO_10.out) (Kd.R_base ho0) hb); have HO124 := am (Kd.R_lower ho0 (below_size (pL HB.out))); replace BK119 := am (bb_ BK119.out hb); replace HB := am (bs_ HB.out hb); (try clear hb); (try clear hb2); (try clear hk); (try clear hi); (try clear ho0); obtain ⟨Ao42, co42, eo42⟩ := Kd.R_slice HO124.out; subst eo42) | (go_at_call 13; (with_reducible refine (lambrequinref09_In.calls kj8 _ _ t122 a3 true _ ?side1 ?side2 A37.out).mono ?_); (case side1 => repeat (first | exact (Kd.R_reads' HO124.out).2.2 | (with_reducible refine Kd.C_alloc ?_ _) | (with_reducible refine Kd.C_drewN ?_ _) | (with_reducible refine Kd.C_drew ?_))); (case side2 => exact (Kd.R_reads' HO124.out).2.1); rintro e w' ⟨rfl, ⟨nd, rfl⟩⟩; obtain ⟨hcz43_0, hcz43_1, hcz43_2, hcz43_3, hcz43_4, hcz43_5, hcz43_6, hcz43_7, hfz43_0, hfz43_1, hfz43_2, hfz43_3, hfz43_4, hfz43_5, hfz43_6, hfz43_7⟩ := bc8 BK119.out))
            go_meet
            case rel => exact ⟨_, (true), rs_, H', ⟨by have := HJ8.out; first | omega | exact Nat.le_refl _⟩, ⟨by (with_reducible repeat (first | apply Kd.N_alloc | apply Kd.N_drewN | apply Kd.N_drew)); exact Kd.N_mono HO_10.out (fun _ hk => hk.1.2)⟩, ⟨pB BK119.out⟩, ⟨pL HB.out⟩⟩
           ·rw [if_neg c39] at H
            have c39b0 : (((rd_T33 l0 a1).kind) == 2) = false := beq_eq_false_iff_ne.mpr c39
            have c39b1 : (((rd_T33 l0 a1).kind) != 2) = true := bne_iff_ne.mpr c39
            have H' := am H
            clear H
            obtain ⟨hcz44_0, hcz44_1, hcz44_2, hcz44_3, hcz44_4, hcz44_5, hcz44_6, hcz44_7, hfz44_0, hfz44_1, hfz44_2, hfz44_3, hfz44_4, hfz44_5, hfz44_6, hfz44_7⟩ := bc8 BK119.out
            go_wp2_with (first | (go_at_call 14; (with_reducible refine (cfg_Uses.calls ((rd_T33 l0 a1).kind) ((rd_T33 l0 a1).x) ((rd_T33 l0 a1).y) ((rd_T33 l0 a1).z) ((rd_T33 l0 a1).op) ((rd_T33 l0 a1).n) ((rd_T33 l0 a1).a) ((rd_T33 l0 a1).b) t122 _ A36.out).mono ?_); rintro e w45 ⟨v123, rfl, ho0, hb⟩; (try clear A36); replace HO_10 := am (Kd.N_elder' (by (with_reducible repeat (first | apply Kd.N_alloc | apply Kd.N_drewN | apply Kd.N_drew)); exact HO_10.out) (Kd.R_base ho0) hb); have HO124 := am (Kd.R_lower ho0 (below_size (pL HB.out))); replace BK119 := am (bb_ BK119.out hb); replace HB := am (bs_ HB.out hb); (try clear hb); (try clear hb2); (try clear hk); (try clear hi); (try clear ho0); obtain ⟨Ao46, co46, eo46⟩ := Kd.R_slice HO124.out; subst eo46) | (go_at_call 13; (with_reducible refine (lambrequinref09_In.calls kj8 _ _ t122 a3 true _ ?side1 ?side2 A37.out).mono ?_); (case side1 => repeat (first | exact (Kd.R_reads' HO124.out).2.2 | (with_reducible refine Kd.C_alloc ?_ _) | (with_reducible refine Kd.C_drewN ?_ _) | (with_reducible refine Kd.C_drew ?_))); (case side2 => exact (Kd.R_reads' HO124.out).2.1); rintro e w' ⟨rfl, ⟨nd, rfl⟩⟩; obtain ⟨hcz47_0, hcz47_1, hcz47_2, hcz47_3, hcz47_4, hcz47_5, hcz47_6, hcz47_7, hfz47_0, hfz47_1, hfz47_2, hfz47_3, hfz47_4, hfz47_5, hfz47_6, hfz47_7⟩ := bc8 BK119.out))
            go_meet
            case rel => exact ⟨_, ((((rd_T33 l0 a1).kind) == 3)), rs_, H', ⟨by have := HJ8.out; first | omega | exact Nat.le_refl _⟩, ⟨by (with_reducible repeat (first | apply Kd.N_alloc | apply Kd.N_drewN | apply Kd.N_drew)); exact Kd.N_mono HO_10.out (fun _ hk => hk.1.2)⟩, ⟨pB BK119.out⟩, ⟨pL HB.out⟩⟩
          ·replace c38 := Bool.eq_false_iff.mpr c38
           subst c38
           have H1 : (lambrequinlaw21_FactsFlow.j1 kj8 a1 a2 a3 t101 t102 false) = some r := by rw [if_neg (show ¬ (false = true) by decide)] at H; exact H
           clear H
           have H := H1
           clear H1
           have H' := am H
           clear H
           obtain ⟨hcz48_0, hcz48_1, hcz48_2, hcz48_3, hcz48_4, hcz48_5, hcz48_6, hcz48_7, hfz48_0, hfz48_1, hfz48_2, hfz48_3, hfz48_4, hfz48_5, hfz48_6, hfz48_7⟩ := bc8 BK119.out
           go_wp2_with (first | (go_at_call 14; (with_reducible refine (cfg_Uses.calls ((rd_T33 l0 a1).kind) ((rd_T33 l0 a1).x) ((rd_T33 l0 a1).y) ((rd_T33 l0 a1).z) ((rd_T33 l0 a1).op) ((rd_T33 l0 a1).n) ((rd_T33 l0 a1).a) ((rd_T33 l0 a1).b) t122 _ A36.out).mono ?_); rintro e w49 ⟨v123, rfl, ho0, hb⟩; (try clear A36); replace HO_10 := am (Kd.N_elder' (by (with_reducible repeat (first | apply Kd.N_alloc | apply Kd.N_drewN | apply Kd.N_drew)); exact HO_10.out) (Kd.R_base ho0) hb); have HO124 := am (Kd.R_lower ho0 (below_size (pL HB.out))); replace BK119 := am (bb_ BK119.out hb); replace HB := am (bs_ HB.out hb); (try clear hb); (try clear hb2); (try clear hk); (try clear hi); (try clear ho0); obtain ⟨Ao50, co50, eo50⟩ := Kd.R_slice HO124.out; subst eo50) | (go_at_call 13; (with_reducible refine (lambrequinref09_In.calls kj8 _ _ t122 a3 false _ ?side1 ?side2 A37.out).mono ?_); (case side1 => repeat (first | exact (Kd.R_reads' HO124.out).2.2 | (with_reducible refine Kd.C_alloc ?_ _) | (with_reducible refine Kd.C_drewN ?_ _) | (with_reducible refine Kd.C_drew ?_))); (case side2 => exact (Kd.R_reads' HO124.out).2.1); rintro e w' ⟨rfl, ⟨nd, rfl⟩⟩))
           go_meet
           case rel => exact ⟨_, (false), rs_, H', ⟨by have := HJ8.out; first | omega | exact Nat.le_refl _⟩, ⟨by (with_reducible repeat (first | apply Kd.N_alloc | apply Kd.N_drewN | apply Kd.N_drew)); exact Kd.N_mono HO_10.out (fun _ hk => hk.1.2)⟩, ⟨pB BK119.out⟩, ⟨pL HB.out⟩⟩
         ·rw [if_neg c35] at H
          have c35b0 : (t120.toList == a2.toList) = false := beq_eq_false_iff_ne.mpr c35
          have c35b1 : (t120.toList != a2.toList) = true := bne_iff_ne.mpr c35
          (first | rw [c35b0] | (simp only [i64_w, i32_w]; rw [c35b0]) | skip)
          have H' := am H
          clear H
          go_wp2
          go_meet
          case rel => exact ⟨_, (false), rs_, H', ⟨by have := HJ8.out; first | omega | exact Nat.le_refl _⟩, ⟨by (with_reducible repeat (first | apply Kd.N_alloc | apply Kd.N_drewN | apply Kd.N_drew)); exact Kd.N_mono HO_10.out (fun _ hk => hk.2)⟩, ⟨pB BK119.out⟩, ⟨pL HB.out⟩⟩
        ·replace c34 := Bool.eq_false_iff.mpr c34
         subst c34
         have H1 : (lambrequinlaw21_FactsFlow.j1 kj8 a1 a2 a3 t101 t102 false) = some r := by rw [if_neg (show ¬ (false = true) by decide)] at H; exact H
         clear H
         have H := H1
         clear H1
         have H' := am H
         clear H
         go_wp2
         go_meet
         case rel => exact ⟨_, (false), rs_, H', ⟨by have := HJ8.out; first | omega | exact Nat.le_refl _⟩, ⟨by (with_reducible repeat (first | apply Kd.N_alloc | apply Kd.N_drewN | apply Kd.N_drew)); exact Kd.N_mono HO_10.out (fun _ hk => hk.2)⟩, ⟨pB BK119.out⟩, ⟨pL HB.out⟩⟩
       case rest =>
        clear HC30
        try clear c1
        try clear p1
        try clear q1
        try clear hx1
        try clear c2
        try clear p2
        try clear c3
        try clear c4
        try clear c6
        try clear c6b0
        try clear c6b1
        try clear c7
        try clear c8
        try clear p11
        try clear q11
        try clear hx11
        try clear c12
        try clear c12b0
        try clear c13
        try clear c14
        try clear c27
        try clear c27b0
        try clear c28
        try clear c28b0
        try clear c34
        try clear c35
        try clear c35b0
        try clear c35b1
        try clear c38
        try clear c39
        try clear c39b0
        try clear c39b1
        try clear hcz32_0
        try clear hcz32_1
        try clear hcz32_2
        try clear hcz32_3
        try clear hcz32_4
        try clear hcz32_5
        try clear hcz32_6
        try clear hcz32_7
        try clear hcz40_0
        try clear hcz40_1
        try clear hcz40_2
        try clear hcz40_3
        try clear hcz40_4
        try clear hcz40_5
        try clear hcz40_6
        try clear hcz40_7
        try clear hcz43_0
        try clear hcz43_1
        try clear hcz43_2
        try clear hcz43_3
        try clear hcz43_4
        try clear hcz43_5
        try clear hcz43_6
        try clear hcz43_7
        try clear hcz44_0
        try clear hcz44_1
        try clear hcz44_2
        try clear hcz44_3
        try clear hcz44_4
        try clear hcz44_5
        try clear hcz44_6
        try clear hcz44_7
        try clear hcz47_0
        try clear hcz47_1
        try clear hcz47_2
        try clear hcz47_3
        try clear hcz47_4
        try clear hcz47_5
        try clear hcz47_6
        try clear hcz47_7
        try clear hcz48_0
        try clear hcz48_1
        try clear hcz48_2
        try clear hcz48_3
        try clear hcz48_4
        try clear hcz48_5
        try clear hcz48_6
        try clear hcz48_7
        try clear hfz32_0
        try clear hfz32_1
        try clear hfz32_2
        try clear hfz32_3
        try clear hfz32_4
        try clear hfz32_5
        try clear hfz32_6
        try clear hfz32_7
        try clear hfz40_0
        try clear hfz40_1
        try clear hfz40_2
        try clear hfz40_3
        try clear hfz40_4
        try clear hfz40_5
        try clear hfz40_6
        try clear hfz40_7
        try clear hfz43_0
        try clear hfz43_1
        try clear hfz43_2
        try clear hfz43_3
        try clear hfz43_4
        try clear hfz43_5
        try clear hfz43_6
        try clear hfz43_7
        try clear hfz44_0
        try clear hfz44_1
        try clear hfz44_2
        try clear hfz44_3
        try clear hfz44_4
        try clear hfz44_5
        try clear hfz44_6
        try clear hfz44_7
        try clear hfz47_0
        try clear hfz47_1
        try clear hfz47_2
        try clear hfz47_3
        try clear hfz47_4
        try clear hfz47_5
        try clear hfz47_6
        try clear hfz47_7
        try clear hfz48_0
        try clear hfz48_1
        try clear hfz48_2
        try clear hfz48_3
        try clear hfz48_4
        try clear hfz48_5
        try clear hfz48_6
        try clear hfz48_7
        try clear hx118_0
        try clear hx118_1
        try clear hx118_2
        try clear hx118_3
        try clear hx118_4
        try clear hx118_5
        try clear hx118_6
        try clear hx118_7
        try clear p118
        try clear p2
        try clear q118
        obtain ⟨kq, x14_29, rfl, HA, HJ29, HO_10, BK119, HB⟩ := hcut
        cases kq with
        | zero => exact absurd HA.out (by simp [lambrequinlaw21_FactsFlow.j1])
        | succ kj29 =>
         have H := HA.out
         clear HA
         simp only [lambrequinlaw21_FactsFlow.j1] at H
         by_cases c51 : t101 = true
         ·subst c51
          have H1 : ((lambrequinlaw21_num.f a1).bind fun bt126 => ((lambrequinlaw21_sym.f a2).bind fun bt129 => ((lambrequinlaw21_sym.f a3).bind fun bt132 => ((facts_Has.f t102 (⟨#[102, 108, 111, 119]⟩ : ByteArray) (([(⟨bt126.1, bt126.2.1, bt126.2.2⟩ : Val), (⟨bt129.1, bt129.2.1, bt129.2.2⟩ : Val), (⟨bt132.1, bt132.2.1, bt132.2.2⟩ : Val)] : List (Val)))).bind fun t138 => (some (t138 == x14_29)))))) = some r := by rw [if_pos rfl] at H; exact H
          clear H
          have H := H1
          clear H1
          replace H := Option.bind_eq_some_iff.mp H
          obtain ⟨⟨t126, t127, t128⟩, A520, H⟩ := H
          replace H : ((lambrequinlaw21_sym.f a2).bind fun bt129 => ((lambrequinlaw21_sym.f a3).bind fun bt132 => ((facts_Has.f t102 (⟨#[102, 108, 111, 119]⟩ : ByteArray) (([(⟨t126, t127, t128⟩ : Val), (⟨bt129.1, bt129.2.1, bt129.2.2⟩ : Val), (⟨bt132.1, bt132.2.1, bt132.2.2⟩ : Val)] : List (Val)))).bind fun t138 => (some (t138 == x14_29))))) = some r := H
          have A52 := am A520
          clear A520
          replace H := Option.bind_eq_some_iff.mp H
          obtain ⟨⟨t129, t130, t131⟩, A530, H⟩ := H
          replace H : ((lambrequinlaw21_sym.f a3).bind fun bt132 => ((facts_Has.f t102 (⟨#[102, 108, 111, 119]⟩ : ByteArray) (([(⟨t126, t127, t128⟩ : Val), (⟨t129, t130, t131⟩ : Val), (⟨bt132.1, bt132.2.1, bt132.2.2⟩ : Val)] : List (Val)))).bind fun t138 => (some (t138 == x14_29)))) = some r := H
          have A53 := am A530
          clear A530
          replace H := Option.bind_eq_some_iff.mp H
          obtain ⟨⟨t132, t133, t134⟩, A540, H⟩ := H
          replace H : ((facts_Has.f t102 (⟨#[102, 108, 111, 119]⟩ : ByteArray) (([(⟨t126, t127, t128⟩ : Val), (⟨t129, t130, t131⟩ : Val), (⟨t132, t133, t134⟩ : Val)] : List (Val)))).bind fun t138 => (some (t138 == x14_29))) = some r := H
          have A54 := am A540
          clear A540
          obtain ⟨y135, hy135⟩ : ∃ y_ : List (Val), y_ = (([(⟨t126, t127, t128⟩ : Val), (⟨t129, t130, t131⟩ : Val), (⟨t132, t133, t134⟩ : Val)] : List (Val))) := ⟨_, rfl⟩
          replace H : ((facts_Has.f t102 (⟨#[102, 108, 111, 119]⟩ : ByteArray) y135).bind fun t138 => (some (t138 == x14_29))) = some r := by first | (rw [hy135]; with_reducible exact H) | (have H2_ := (Option.bind_some _ _).symm.trans H; rw [hy135]; with_reducible exact H2_) | (have H2_ := (Option.bind_some _ _).symm.trans H; with_reducible exact H2_) | with_reducible exact H | (rw [hy135]; exact H) | exact H
          have Ny135 := am hy135
          clear hy135
          replace H := Option.bind_eq_some_iff.mp H
          obtain ⟨t138, A550, H⟩ := H
          replace H : (some (t138 == x14_29)) = some r := H
          have A55 := am A550
          clear A550
          obtain rfl := Option.some.inj H
          go_wp2_with (first | (go_at_call 10; (with_reducible refine (lambrequinlaw21_num.calls a1 t126 t127 t128 _ A52.out).mono ?_); rintro e w56 ⟨rfl, hb⟩; (try clear A52); replace HO_10 := am (Kd.N_below (by (with_reducible repeat (first | apply Kd.N_alloc | apply Kd.N_drewN | apply Kd.N_drew)); exact HO_10.out) hb); replace BK119 := am (bb_ BK119.out hb); replace HB := am (bs_ HB.out hb); (try clear hb); (try clear hb2); (try clear hk); (try clear hi)) | (go_at_call 15; (with_reducible refine (lambrequinlaw21_sym.calls a2 t129 t130 t131 _ A53.out).mono ?_); rintro e w57 ⟨rfl, hb⟩; (try clear A53); replace HO_10 := am (Kd.N_below (by (with_reducible repeat (first | apply Kd.N_alloc | apply Kd.N_drewN | apply Kd.N_drew)); exact HO_10.out) hb); replace BK119 := am (bb_ BK119.out hb); replace HB := am (bs_ HB.out hb); (try clear hb); (try clear hb2); (try clear hk); (try clear hi)) | (go_at_call 15; (with_reducible refine (lambrequinlaw21_sym.calls a3 t132 t133 t134 _ A54.out).mono ?_); rintro e w58 ⟨rfl, hb⟩; (try clear A54); replace HO_10 := am (Kd.N_below (by (with_reducible repeat (first | apply Kd.N_alloc | apply Kd.N_drewN | apply Kd.N_drew)); exact HO_10.out) hb); replace BK119 := am (bb_ BK119.out hb); replace HB := am (bs_ HB.out hb); (try clear hb); (try clear hb2); (try clear hk); (try clear hi)) | ((with_reducible refine gate_dst (N := 83) rfl ?_); (try (refine gate_guard (by rfl) ?_; dsimp only)); refine Kd.R_lit k28 _ 28 ?hg (N := 83) ?hd (xs := ([(⟨t126, t127, t128⟩ : Val), (⟨t129, t130, t131⟩ : Val), (⟨t132, t133, t134⟩ : Val)] : List (Val))) (inner := [.bool t126, .string t127, .int .i64 t128, .bool t129, .string t130, .int .i64 t131, .bool t132, .string t133, .int .i64 t134]) (ok := fun _ => True) (okp := fun _ => True) ?hr ?hp (fun _ hk => hk) trivial (Below.refl _ _) (Nat.le_refl _) (by simp) ?_; (case hd => rfl); (case hg => rfl); (case hr => first | (go_simp; done) | (go_simp; rfl)); (case hp => exact (Reps.c3 (show Kd.M k28 _ _ _ (⟨t126, t127, t128⟩ : Val) [.bool t126, .string t127, .int .i64 t128] from (k28_mkM _ _ _ (⟨t126, t127, t128⟩ : Val) )) (Reps.c3 (show Kd.M k28 _ _ _ (⟨t129, t130, t131⟩ : Val) [.bool t129, .string t130, .int .i64 t131] from (k28_mkM _ _ _ (⟨t129, t130, t131⟩ : Val) )) (Reps.c3 (show Kd.M k28 _ _ _ (⟨t132, t133, t134⟩ : Val) [.bool t132, .string t133, .int .i64 t134] from (k28_mkM _ _ _ (⟨t132, t133, t134⟩ : Val) )) (Reps.none _ _))))); intro v136 w59 ho60 hb hg_ hnew_; clear hg_ hnew_; (first | rw [← Ny135.out] at ho60 | (simp only [Int.reduceToNat] at ho60; rw [← Ny135.out] at ho60)); replace HO_10 := am (Kd.N_elder' (by (with_reducible repeat (first | apply Kd.N_alloc | apply Kd.N_drewN | apply Kd.N_drew)); exact HO_10.out) (Kd.R_base ho60) hb); have HO137 := am (Kd.R_lower ho60 (below_size (pL HB.out))); replace BK119 := am (bb_ BK119.out hb); replace HB := am (bs_ HB.out hb); clear hb ho60; obtain ⟨Ao61, co61, eo61⟩ := Kd.N_slice HO_10.out; subst eo61; obtain ⟨Ao62, co62, eo62⟩ := Kd.R_slice HO137.out; subst eo62) | (go_at_call 9; (with_reducible refine (facts_Has.calls _ _ t102 (⟨#[102, 108, 111, 119]⟩ : ByteArray) _ _ y135 t138 _ ?side1 ?side2 ?side3 ?side4 A55.out).mono ?_); (case side1 => repeat (first | exact (Kd.N_reads' HO_10.out).2.2 | (with_reducible refine Kd.C_alloc ?_ _) | (with_reducible refine Kd.C_drewN ?_ _) | (with_reducible refine Kd.C_drew ?_))); (case side2 => exact (Kd.N_reads' HO_10.out).2.1); (case side3 => repeat (first | exact (Kd.R_reads' HO137.out).2.2 | (with_reducible refine Kd.C_alloc ?_ _) | (with_reducible refine Kd.C_drewN ?_ _) | (with_reducible refine Kd.C_drew ?_))); (case side4 => exact (Kd.R_reads' HO137.out).2.1); rintro e w63 ⟨rfl, hb⟩; (try clear A55); replace HO_10 := am (Kd.N_below (by (with_reducible repeat (first | apply Kd.N_alloc | apply Kd.N_drewN | apply Kd.N_drew)); exact HO_10.out) hb); replace HO137 := am (Rb_ HO137.out hb); replace BK119 := am (bb_ BK119.out hb); replace HB := am (bs_ HB.out hb); (try clear hb); (try clear hb2); (try clear hk); (try clear hi)))
          go_ret
          exact ⟨by first | rfl | (simp [errW_none, errW_some] <;> rfl) | (simp [*, errW_none, errW_some] <;> rfl), pL HB.out⟩
         ·replace c51 := Bool.eq_false_iff.mpr c51
          subst c51
          have H1 : (some false) = some r := by rw [if_neg (show ¬ (false = true) by decide)] at H; exact H
          clear H
          have H := H1
          clear H1
          obtain rfl := Option.some.inj H
          go_wp2
          go_ret
          exact ⟨by first | rfl | (simp [errW_none, errW_some] <;> rfl) | (simp [*, errW_none, errW_some] <;> rfl), pL HB.out⟩
      ·rw [if_neg c28] at H
       exact absurd H (by simp)
     ·rw [if_neg c27] at H
      exact absurd H (by simp)
end Go.Proofs.Ytoekfmdcplphmaa.H
namespace Go.Proofs.Ytoekfmdcplphmaa.H
open Go.RowKit Go.Proofs.YtoekfmdcplphmaaW.PrintWords
/-- no longer than the model's longest text -/
def bStr (s : ByteArray) : Prop := s.size ≤ 9223372036854775807
/-- What an argument of a type holds, read as the kind kd; B: how long its texts are. -/
structure Opens {α : Type} (P : Program) (t : TypeId) (kd : Kd α) (B : α → Prop) : Prop where
  size : P.cellsOf t = kd.sz
  opened : ∀ {H : Type} {enc : TypeId × Value → H} {w : World} {base : Nat} {sp : Nat → Bool} {held : Bool} {fuel : Nat} {cs : List Value} {x : DataW H × List MemPlace},
    DataW.trod enc P w base sp held fuel t cs = some x → ∃ a, kd.K w a cs ∧ B a
theorem Opens.as {α : Type} {P : Program} {t : TypeId} {kd : Kd α} {B B' : α → Prop} (h : Opens P t kd B) (hB : ∀ a, B a → B' a) : Opens P t kd B' :=
  ⟨h.size, fun hx => by obtain ⟨a, ha, hb⟩ := h.opened hx; exact ⟨a, ha, hB a hb⟩⟩
theorem opens_bool {P : Program} {t : TypeId} (ht : P.underlying t = some .bool) (hs : P.cellsOf t = 1) : Opens P t Kd.bool (fun _ => True) :=
  ⟨hs, fun h => by obtain ⟨b, rfl, _⟩ := DataW.trod_bool ht h; exact ⟨b, rfl, trivial⟩⟩
theorem opens_int {P : Program} {t : TypeId} {k : IntKind} (ht : P.underlying t = some (.int k)) (hs : P.cellsOf t = 1) : Opens P t (Kd.int k) (fun _ => True) :=
  ⟨hs, fun h => by obtain ⟨b, rfl, _⟩ := DataW.trod_int ht h; exact ⟨b, rfl, trivial⟩⟩
theorem opens_string {P : Program} {t : TypeId} (ht : P.underlying t = some .string) (hs : P.cellsOf t = 1) : Opens P t Kd.string bStr :=
  ⟨hs, fun h => by obtain ⟨b, rfl, _, hb⟩ := DataW.trod_string ht h; exact ⟨b, rfl, hb⟩⟩
theorem list_of {α : Type} (p : Nat → α → Prop) : ∀ n : Nat, (∀ i, i < n → ∃ y, p i y) → ∃ l : List α, l.length = n ∧ ∀ i y, l[i]? = some y → p i y
  | 0, _ => ⟨[], rfl, fun i y h => by simp at h⟩
  | n + 1, h => by
    obtain ⟨l, hl, hp⟩ := list_of p n (fun i hi => h i (by omega))
    obtain ⟨y, hy⟩ := h n (by omega)
    refine ⟨l ++ [y], by simp [hl], fun i z hz => ?_⟩
    rcases Nat.lt_trichotomy i n with hi | rfl | hi
    · rw [List.getElem?_append_left (by omega)] at hz
      exact hp i z hz
    · rw [List.getElem?_append_right (by omega), hl, Nat.sub_self] at hz
      simp at hz
      subst hz
      exact hy
    · rw [List.getElem?_eq_none (by simp [hl]; omega)] at hz
      simp at hz
theorem addr_add_add (a : Addr) (i j : Nat) : (a.add i).add j = a.add (i + j) := by
  unfold Addr.add
  by_cases hi : i = 0 <;> by_cases hj : j = 0 <;> simp [hi, hj, Nat.add_assoc]
theorem opens_slice {α : Type} {P : Program} {t e : TypeId} {kd : Kd α} {B : α → Prop} (ht : P.underlying t = some (.slice e)) (hs : P.cellsOf t = 1) (he : Opens P e kd B) (q : Nat) : Opens P t (Kd.slice q kd) (fun l => l.length ≤ 9223372036854775807 ∧ ∀ y ∈ l, B y) := by
  refine ⟨hs, fun {H enc w base sp held fuel cs x} h => ?_⟩
  rcases DataW.trod_slice ht h with ⟨rfl, _⟩ | ⟨a, len, cap, elems, rest, n, _, rfl, _, _, hl, hm, hlen, hel, _⟩
  · exact ⟨[], ⟨none, 0, rfl, Nat.le_refl _, rfl, by simp, fun h => absurd h (by simp)⟩, by simp, by simp⟩
  · obtain ⟨l, hll, hp⟩ := list_of (fun i y => B y ∧ ∃ c, c.length = kd.sz ∧ kd.K w y c ∧ ∀ j u, c[j]? = some u → w.cell? (a.add (i * kd.sz + j)) = some u) len (fun i hi => by
      have h1 := hel i hi
      rw [List.getElem?_eq_getElem (by omega)] at h1
      obtain ⟨cs', h2, h3⟩ := Option.bind_eq_some_iff.1 h1
      obtain ⟨y, hy, hby⟩ := he.opened h3
      obtain ⟨_, h4, h5⟩ := World.cells?_some h2
      refine ⟨y, hby, cs', by rw [h4, he.size], hy, fun j u hu => ?_⟩
      have hj : j < P.cellsOf e := by rw [← h4]; exact (List.getElem?_eq_some_iff.1 hu).1
      rw [← addr_add_add, ← he.size, h5 j hj, hu])
    subst hll
    refine ⟨l, ⟨some a, cap, rfl, hl, rfl, Nat.le_trans hl (Nat.le_trans hm (by decide)), fun _ => ⟨a, rfl, fun j p hj => (hp j p hj).2⟩⟩, Nat.le_trans hl (Nat.le_trans hm (by decide)), fun y hy => ?_⟩
    obtain ⟨i, hi, rfl⟩ := List.mem_iff_getElem.1 hy
    exact (hp i _ (List.getElem?_eq_getElem hi)).1
theorem opens_iso {α β : Type} {P : Program} {t : TypeId} {kd : Kd α} {B : α → Prop} (h : Opens P t kd B) (f : β → α) (hf : ∀ b, ∃ a, f a = b) : Opens P t (Kd.iso kd f) (fun b => B (f b)) :=
  ⟨h.size, fun hx => by obtain ⟨a, ha⟩ := h.opened hx; obtain ⟨b, rfl⟩ := hf a; exact ⟨b, ha⟩⟩
/-- The fields of a struct from the offset o on. -/
structure OpensL {α : Type} (P : Program) (fs : List Field) (o : Nat) (kd : Kd α) (B : α → Prop) : Prop where
  opened : ∀ {H : Type} {enc : TypeId × Value → H} {w : World} {base : Nat} {sp : Nat → Bool} {held : Bool} {fuel : Nat} (cs : List Value), cs.length = o + kd.sz →
    (∀ f ∈ fs, ∃ x, DataW.trod enc P w base sp held fuel f.type ((cs.drop f.offset).take (P.cellsOf f.type)) = some x) → ∃ a, kd.K w a (cs.drop o) ∧ B a
theorem opensL_one {α : Type} {P : Program} {f : Field} {o : Nat} {kd : Kd α} {B : α → Prop} (ho : f.offset = o) (h : Opens P f.type kd B) : OpensL P [f] o kd B := by
  refine ⟨fun {H enc w base sp held fuel} cs hcs hf => ?_⟩
  obtain ⟨x, hx⟩ := hf f (by simp)
  obtain ⟨a, ha, hb⟩ := h.opened hx
  rw [ho, h.size, List.take_of_length_le (by simp [hcs])] at ha
  exact ⟨a, ha, hb⟩
theorem opensL_cons {α β : Type} {P : Program} {f : Field} {fs : List Field} {o : Nat} {kd : Kd α} {kd' : Kd β} {B : α → Prop} {B' : β → Prop} (ho : f.offset = o) (h : Opens P f.type kd B) (hr : OpensL P fs (o + kd.sz) kd' B') : OpensL P (f :: fs) o (Kd.pair kd kd') (fun p => B p.1 ∧ B' p.2) := by
  refine ⟨fun {H enc w base sp held fuel} cs hcs hf => ?_⟩
  obtain ⟨x, hx⟩ := hf f (by simp)
  obtain ⟨a, ha, hba⟩ := h.opened hx
  have hcs' : cs.length = o + kd.sz + kd'.sz := by rw [hcs]; show o + (kd.sz + kd'.sz) = _; omega
  obtain ⟨b, hb, hbb⟩ := hr.opened cs hcs' (fun g hg => hf g (by simp [hg]))
  rw [ho, h.size] at ha
  refine ⟨(a, b), ⟨(cs.drop o).take kd.sz, (cs.drop (o + kd.sz)), ?_, ha, hb⟩, hba, hbb⟩
  rw [← List.drop_drop, List.take_append_drop]
theorem opens_struct {α : Type} {P : Program} {t : TypeId} {fs : List Field} {kd : Kd α} {B : α → Prop} (ht : P.underlying t = some (.struct ⟨fs⟩)) (hs : P.cellsOf t = kd.sz) (h : OpensL P fs 0 kd B) : Opens P t kd B := by
  refine ⟨hs, fun {H enc w base sp held fuel cs x} hx => ?_⟩
  obtain ⟨xs, n, _, _, hl, hlen, hf⟩ := DataW.trod_struct ht hx
  obtain ⟨a, ha, hb⟩ := h.opened (enc := enc) (w := w) (base := base) (sp := sp) (held := held) (fuel := n) cs (by rw [hl, hs]; omega) (fun f hfm => by
    obtain ⟨i, hi, rfl⟩ := List.mem_iff_getElem.1 hfm
    have h1 := hf i fs[i] (by simp [hi])
    exact ⟨xs[i]'(by rw [hlen]; simpa using hi), by rw [h1, List.getElem?_eq_getElem]⟩)
  exact ⟨a, by simpa using ha, hb⟩
/-- an array of two numbers -/
theorem opens_arr2 {P : Program} {t e : TypeId} {k : IntKind} (ht : P.underlying t = some (.array 2 e)) (hu : P.underlying e = some (.int k)) (hs : P.cellsOf t = 2) (he : P.cellsOf e = 1) :
    Opens P t (Kd.pair (Kd.int k) (Kd.int k)) (fun p => (Lit.int k p.1).wf = true ∧ (Lit.int k p.2).wf = true) := by
  refine ⟨hs, fun {H enc w base sp held fuel cs x} hx => ?_⟩
  obtain ⟨xs, m, _, _, hl, hlen, hel⟩ := DataW.trod_array ht hx
  rw [hs] at hl
  match cs, hl with
  | [c0, c1], _ =>
    match xs, hlen with
    | [x0, x1], _ =>
      have h0 := hel 0 (by decide)
      have h1 := hel 1 (by decide)
      rw [he] at h0 h1
      obtain ⟨a, ea, _, wa⟩ := DataW.trod_int hu (show DataW.trod enc P w base sp held m e [c0] = some x0 from h0)
      obtain ⟨b, eb, _, wb⟩ := DataW.trod_int hu (show DataW.trod enc P w base sp held m e [c1] = some x1 from h1)
      cases ea; cases eb
      exact ⟨(a, b), ⟨[.int k a], [.int k b], rfl, rfl, rfl⟩, wa, wb⟩
theorem okWide_array {P : Program} {w : World} {r : Reach} {base : Nat} {t e : TypeId} {n : Nat} {v : Value} (ht : P.underlying t = some (.array n e)) (h : Value.okWide P w r base t v) : ∃ cs, v = .agg cs ∧ cs.size = P.cellsOf t := by
  simp only [Value.okWide, ht] at h
  obtain ⟨cs, h1, h2, _⟩ := h
  exact ⟨cs, h1, h2⟩
theorem opens_isoL {α β : Type} {P : Program} {fs : List Field} {o : Nat} {kd : Kd α} {B : α → Prop} (h : OpensL P fs o kd B) (f : β → α) (hf : ∀ b, ∃ a, f a = b) : OpensL P fs o (Kd.iso kd f) (fun b => B (f b)) := by
  refine ⟨fun {H enc w base sp held fuel} cs hcs hx => ?_⟩
  obtain ⟨a, ha⟩ := h.opened cs hcs hx
  obtain ⟨b, rfl⟩ := hf a
  exact ⟨b, ha⟩
/-- an argument's value, opened -/
theorem Opens.argB {α : Type} {P : Program} {t : TypeId} {kd : Kd α} {B : α → Prop} (h : Opens P t kd B) {H : Type} {enc : TypeId × Value → H} {w : World} {base : Nat} {sp : Nat → Bool} {held : Bool} {v : Value} {d : DataW H} {ps : List MemPlace}
    (hv : DataW.Trod enc P w base sp held t v d ps) : ∃ a, kd.K w a v.cells.toList ∧ B a := by
  obtain ⟨fuel, hf⟩ := hv
  exact h.opened hf
theorem Opens.arg {α : Type} {P : Program} {t : TypeId} {kd : Kd α} {B : α → Prop} (h : Opens P t kd B) {H : Type} {enc : TypeId × Value → H} {w : World} {base : Nat} {sp : Nat → Bool} {held : Bool} {v : Value} {d : DataW H} {ps : List MemPlace}
    (hv : DataW.Trod enc P w base sp held t v d ps) : ∃ a, kd.K w a v.cells.toList := by
  obtain ⟨a, ha, _⟩ := h.argB hv
  exact ⟨a, ha⟩
/-- An argument's row is no longer than its weight allows. -/
theorem sized_row {H : Type} {enc : TypeId × Value → H} {P : Program} {W : World} {base : Nat} {spare : Nat → Bool} {held : Bool} {t e : TypeId} {a : Option Addr} {len cap : Nat} {d : DataW H} {ps : List MemPlace} {ts : List TypeId} {ds : List (DataW H)} {j : Nat}
    (hsz : (DataW.weightsEach P ts ds).all (· ≤ reachBytes) = true) (ht : ts[j]? = some t) (hd : ds[j]? = some d) (hu : P.underlying t = some (.slice e)) {B : Nat} (hB : P.bytesOf e = B)
    (h : DataW.Trod enc P W base spare held t (.slice a len cap) d ps) : len * B ≤ 140737488351232 := by
  obtain ⟨fuel, hf⟩ := h
  rcases DataW.trod_slice hu hf with ⟨hcs, _⟩ | ⟨x, l, c, elems, rest, n, _, hcs, hx, _, hl, _, hlen, _⟩
  · simp [Value.cells] at hcs
    obtain ⟨rfl, rfl, rfl⟩ := hcs
    simp
  · simp [Value.cells] at hcs
    obtain ⟨rfl, rfl, rfl⟩ := hcs
    obtain ⟨rfl, _⟩ := Prod.mk.inj hx
    have z := sized_slice hsz ht hd hu
    rw [hB, List.length_map, List.length_map, hlen] at z
    exact Nat.le_trans (Nat.mul_le_mul_right _ (Nat.le_add_right _ _)) z
def bVal (x : Val) : Prop := True ∧ bStr (x.sym) ∧ True
theorem opens_Val : Opens Try.prog 28 k28 bVal :=
  Opens.as (opens_struct Try.underlying28 (by kernel_rfl) (opens_isoL (opensL_cons rfl (opens_bool (by kernel_rfl) (by kernel_rfl)) (opensL_cons rfl (opens_string (by kernel_rfl) (by kernel_rfl)) (opensL_one rfl (opens_int (by kernel_rfl) (by kernel_rfl))))) _ (fun b => ⟨⟨b.1, b.2.1, b.2.2⟩, rfl⟩))) (fun _ h => h)
def bFact (x : Fact) : Prop := bStr (x.pred) ∧ (x.args.length ≤ 9223372036854775807 ∧ ∀ y ∈ x.args, bVal (y))
theorem opens_Fact : Opens Try.prog 44 k44 bFact :=
  Opens.as (opens_struct Try.underlying44 (by kernel_rfl) (opens_isoL (opensL_cons rfl (opens_string (by kernel_rfl) (by kernel_rfl)) (opensL_one rfl (opens_slice (by kernel_rfl) (by kernel_rfl) opens_Val 28))) _ (fun b => ⟨⟨b.1, b.2⟩, rfl⟩))) (fun _ h => h)
def bStmt (x : Stmt) : Prop := True ∧ bStr (x.x) ∧ bStr (x.y) ∧ bStr (x.z) ∧ bStr (x.op) ∧ True ∧ True ∧ True
theorem opens_Stmt : Opens Try.prog 33 k33 bStmt :=
  Opens.as (opens_struct Try.underlying33 (by kernel_rfl) (opens_isoL (opensL_cons rfl (opens_int (by kernel_rfl) (by kernel_rfl)) (opensL_cons rfl (opens_string (by kernel_rfl) (by kernel_rfl)) (opensL_cons rfl (opens_string (by kernel_rfl) (by kernel_rfl)) (opensL_cons rfl (opens_string (by kernel_rfl) (by kernel_rfl)) (opensL_cons rfl (opens_string (by kernel_rfl) (by kernel_rfl)) (opensL_cons rfl (opens_int (by kernel_rfl) (by kernel_rfl)) (opensL_cons rfl (opens_int (by kernel_rfl) (by kernel_rfl)) (opensL_one rfl (opens_int (by kernel_rfl) (by kernel_rfl)))))))))) _ (fun b => ⟨⟨b.1, b.2.1, b.2.2.1, b.2.2.2.1, b.2.2.2.2.1, b.2.2.2.2.2.1, b.2.2.2.2.2.2.1, b.2.2.2.2.2.2.2⟩, rfl⟩))) (fun _ h => h)
end Go.Proofs.Ytoekfmdcplphmaa.H
/- FactsFlow: a flow of names is told just of an operation, or a copy, from each name that it uses to the one that it defines. Conditions: the statement's own. -/
namespace Go.Proofs.Ytoekfmdcplphmaa.H
open Go.RowKit Go.Proofs.YtoekfmdcplphmaaW.PrintWords
theorem Flow_j1 (s : List Stmt) (n : Int) (x y : ByteArray) (v : Bool) (h : v = true ↔ fFlow n x y ∈ factsL s) : Ev (fun k => lambrequinlaw21_FactsFlow.j1 k n x y true (ofF s) v) true := by
  refine Ev.step (fun k => by rw [lambrequinlaw21_FactsFlow.j1]) ?_
  refine Ev.pos rfl ?_
  refine Ev.pure rfl ?_
  refine Ev.pure rfl ?_
  refine Ev.pure rfl ?_
  refine Ev.pure (HasOf (b := v) rfl h) ?_
  exact Ev.some (by simp)
theorem Flow_out (s : List Stmt) (n : Int) (x y : ByteArray) (h : ¬ (0 ≤ n ∧ n < (s.length : Int))) : Ev (fun k => lambrequinlaw21_FactsFlow.j0 k s n x y true (ofF s) true) true := by
  refine Ev.step (fun k => by rw [lambrequinlaw21_FactsFlow.j0]) ?_
  refine Ev.pos rfl ?_
  refine Ev.pos rfl ?_
  refine Ev.pure rfl ?_
  refine Ev.pure rfl ?_
  refine Ev.pure rfl ?_
  refine Ev.pure (HasOf (b := false) rfl ?_) ?_
  · constructor
    · intro h; cases h
    · intro h'
      have := (mem_flow (s := s) (n := n) (x := x) (y := y)).1 h'
      omega
  exact Ev.now _
theorem Flow_in (s : List Stmt) (n : Int) (x y : ByteArray) (h0 : 0 ≤ n) (h1 : n < (s.length : Int)) : Ev (fun k => lambrequinlaw21_FactsFlow.j0 k s n x y true (ofF s) false) true := by
  refine Ev.step (fun k => by rw [lambrequinlaw21_FactsFlow.j0]) ?_
  refine Ev.neg (by decide) ?_
  refine Ev.pos h0 ?_
  refine Ev.pos h1 ?_
  refine Ev.pure (Def_eq (at_ s n)) ?_
  have hm := mem_flow (s := s) (n := n) (x := x) (y := y)
  by_cases hd : (defN (at_ s n)).2 = true
  · refine Ev.pos hd ?_
    by_cases hx : (defN (at_ s n)).1 = x
    · refine Ev.pos (lib_ba_eq.2 hx) ?_
      refine Ev.pure (Uses_eq (at_ s n)) ?_
      have := usesS_len (at_ s n)
      refine Ev.bind (In_ev _ y (by omega)) ?_
      by_cases hy : y ∈ usesS (at_ s n)
      · refine Ev.pos (mem_iff.2 hy) ?_
        by_cases k2 : (at_ s n).kind = 2
        · refine Ev.pos k2 ?_
          exact Flow_j1 s n x y true (by rw [hm]; simp only [h0, h1, hd, hx, hy, k2, true_and, true_or, and_self])
        · refine Ev.neg k2 ?_
          refine Flow_j1 s n x y _ ?_
          rw [hm]
          simp only [h0, h1, hd, hx, hy, k2, true_and, false_or, and_true]
          simp [at_]
      · refine Ev.neg (fun e => hy (mem_iff.1 e)) ?_
        exact Flow_j1 s n x y false (by rw [hm]; simp only [hy, and_false, Bool.false_eq_true])
    · refine Ev.neg (fun e => hx (lib_ba_eq.1 e)) ?_
      exact Flow_j1 s n x y false (by rw [hm]; simp only [hx, false_and, and_false, Bool.false_eq_true])
  · refine Ev.neg hd ?_
    exact Flow_j1 s n x y false (by rw [hm]; simp only [hd, false_and, and_false, Bool.false_eq_true])
theorem FactsFlow_pure (s : List Stmt) (_hl : s.length * 96 ≤ 140737488351232) (n : Int) (w1 : (Lit.int .i64 n).wf = true) (x : ByteArray) (w2 : x.size ≤ 140737488351232) (y : ByteArray) (w3 : y.size ≤ 140737488351232) : ∃ k, lambrequinlaw21_FactsFlow.f k s n x y = some true := by
  refine Ev.rounds ?_
  unfold lambrequinlaw21_FactsFlow.f
  refine Ev.bind shown21_ev ?_
  by_cases hs : (s.length : Int) > 60
  · exact Ev.pos hs (Ev.now _)
  · refine Ev.neg hs ?_
    refine Ev.bind (of_ev s (by omega)) ?_
    by_cases h0 : n < 0
    · refine Ev.pos h0 ?_
      exact Flow_out s n x y (by omega)
    · refine Ev.neg h0 ?_
      by_cases h1 : n ≥ (s.length : Int)
      · rw [decide_eq_true h1]
        exact Flow_out s n x y (by omega)
      · rw [decide_eq_false h1]
        exact Flow_in s n x y (by omega) (by omega)
theorem FactsFlow_walk (w : World) (x0 : (List Stmt)) (A0 : Option Addr) (c0 : Nat) (l0 : x0.length ≤ c0) (g0 : Kd.C k33 w A0 x0.length x0) (y0 : x0.length * 96 ≤ 140737488351232) (a1 : Int) (w1 : (Lit.int .i64 a1).wf = true) (a2 : ByteArray) (w2 : a2.size ≤ 140737488351232) (a3 : ByteArray) (w3 : a3.size ≤ 140737488351232) :
    Calls Try.prog 4 #[.slice A0 x0.length c0, .int .i64 a1, .string a2, .string a3] w fun e w' => e = .returned (.bool true) ∧ Below w.heap.size w w' := by
  obtain ⟨k, h⟩ := FactsFlow_pure x0 y0 a1 w1 a2 w2 a3 w3
  exact (lambrequinlaw21_FactsFlow.calls k A0 c0 x0 a1 a2 a3 true w g0 l0 h).mono (fun e w' h' => ⟨h'.1, h'.2⟩)
end Go.Proofs.Ytoekfmdcplphmaa.H
namespace Go.Proofs.Ytoekfmdcplphmaa.factsFlow
open Go.ChangeShapes Go.WideShapes Go.ChangeAt Go.RowKit Go.Proofs.Ytoekfmdcplphmaa.H Go.Proofs.YtoekfmdcplphmaaW.PrintWords
open Go.ChangeMaps (open_string shut_string)
theorem own : ownKnob Try.prog.godebug = none := by kernel_rfl
theorem laidOut : laidOutB Try.prog = true := by kernel_rfl
set_option maxRecDepth 100000 in
theorem lifted (os : Os) (started : os.Started) (H : Type) (enc : TypeId × Value → H) :
    ReturnsInHanded {} Try.checked os 4 .any (Rows.factsFlowSpec.pre6 enc Try.prog Try.f4 Rows.factsFlowRow.domain false) (Rows.factsFlowSpec.post enc Try.prog Try.f4 false true false false) := by
  refine returnsInHanded_of_change_sized (C := Try.checked) own started (by kernel_rfl) Try.func4
    (ChangeSpec.witness6 (enc := enc) (C := Try.checked) false ⟨#[], #[.slice none 0 0, .int .i64 0, .string ⟨#[]⟩, .string ⟨#[]⟩], []⟩ 8 (by kernel_rfl) (by kernel_rfl) (by kernel_rfl) (by kernel_rfl)) ?_
  intro W base args ds gs before hval0 hW hcnd hsz0 _
  have hsz : (DataW.weightsEach Try.prog (Try.f4.params.toList ++ Rows.factsFlowSpec.plain.varTypes Try.prog) (ds ++ gs)).all (· ≤ reachBytes) = true := hsz0
  have hval : ∀ (j : Nat) t v, Try.f4.params[j]? = some t → args[j]? = some v → Value.okWide Try.prog W .any base t v := hval0
  have hW' := hW
  obtain ⟨p, q, hA0, hV, rfl, hfz, hnd⟩ := hW
  have hA : DataW.TrodAll enc Try.prog W 0 (fun _ => true) true Try.f4.params.toList args.toList ds p := hA0
  rw [Try.params4] at hA hval hsz
  obtain ⟨v0, vs0, d0, ds0, p0, q0, hargs, rfl, rfl, h0, r0⟩ := trodAll_cons hA
  obtain ⟨v1, vs1, d1, ds1, p1, q1, rfl, rfl, rfl, h1, r1⟩ := trodAll_cons r0
  obtain ⟨v2, vs2, d2, ds2, p2, q2, rfl, rfl, rfl, h2, r2⟩ := trodAll_cons r1
  obtain ⟨v3, vs3, d3, ds3, p3, q3, rfl, rfl, rfl, h3, r3⟩ := trodAll_cons r2
  obtain ⟨rfl, rfl, rfl⟩ := trodAll_nil r3
  obtain rfl : args = #[v0, v1, v2, v3] := by cases args; simp_all
  obtain ⟨rfl, rfl⟩ := trodVars_none hV
  have k0 := h0
  have lt0 : ∀ x ∈ p0, x.block < W.heap.size := by obtain ⟨m, hm⟩ := k0; exact DataW.trod_lt m _ _ _ hm
  obtain ⟨a0, len0, cap0, rfl⟩ := okWide_slice Try.underlying22 (hval 0 22 v0 rfl rfl)
  have y0 := sized_row hsz (j := 0) (t := 22) rfl rfl Try.underlying22 (B := 96) (by kernel_rfl) h0
  obtain ⟨x0, A0, c0, e0, l0, g0⟩ := (opens_slice Try.underlying22 (by kernel_rfl) opens_Stmt 33).arg k0
  simp only [Value.cells, List.cons.injEq, and_true, Value.slice.injEq] at e0
  obtain ⟨rfl, rfl, rfl⟩ := e0
  obtain ⟨a1, rfl, rfl, rfl, w1⟩ := open_int Try.underlying3 (hval 1 3 v1 rfl rfl) h1
  obtain ⟨a2, rfl, rfl, rfl, y2⟩ := open_string Try.underlying9 (hval 2 9 v2 rfl rfl) h2
  have w2 : a2.size ≤ 140737488351232 := by
    have z := sized_string hsz (j := 2) (t := 9) rfl rfl
    rw [Array.length_toList] at z
    exact z
  obtain ⟨a3, rfl, rfl, rfl, y3⟩ := open_string Try.underlying9 (hval 3 9 v3 rfl rfl) h3
  have w3 : a3.size ≤ 140737488351232 := by
    have z := sized_string hsz (j := 3) (t := 9) rfl rfl
    rw [Array.length_toList] at z
    exact z
  clear hA0 hval0 hsz0 hsz
  refine (FactsFlow_walk W x0 a0 cap0 l0 g0 y0 a1 w1 a2 w2 a3 w3).mono fun e W' ⟨he, bel⟩ => ?_
  subst he
  exact ⟨_, rfl, _, _, _, [], _, [], hW', trodAll_mk1 (shut_bool Try.underlying4 _), (trodAll_cons_mk (Below.trod laidOut (by kernel_rfl) (of_decide_eq_true (by kernel_rfl)) k0 bel lt0) (trodAll_cons_mk (shut_int Try.underlying3 w1) (trodAll_cons_mk (shut_string Try.underlying9 y2) (trodAll_cons_mk (shut_string Try.underlying9 y3) trodAll_mk0)))), rfl, bel.frame _, fun h => by cases h⟩
theorem over : Rows.factsFlowRow.holds Try.pinned (OpenSpec.ofChange Rows.factsFlowSpec) :=
  OpenClaim.holds_of_wide 4 Try.f4 rfl rfl rfl rfl rfl rfl rfl ⟨rfl, rfl, rfl, rfl, rfl⟩ rfl rfl rfl rfl rfl (by kernel_rfl) Try.func4 (by kernel_rfl)
    (of_decide_eq_true (by kernel_rfl)) (by unfold Func.isWrapper; first | (rw [if_pos (by decide +kernel)]; kernel_rfl) | (rw [if_neg (by decide +kernel)]; exact ⟨rfl, rfl⟩))
    (fun os started H enc _ => lifted os started H enc)
theorem proved : Rows.FactsFlowSaid := over
end Go.Proofs.Ytoekfmdcplphmaa.factsFlow
namespace Go.Proofs.Ytoekfmdcplphmaa
theorem factsFlow_holds : Rows.FactsFlowSaid := factsFlow.proved
#print axioms factsFlow_holds
end Go.Proofs.Ytoekfmdcplphmaa

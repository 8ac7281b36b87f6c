/- RowFactsTell of the seat's law FactsTell: the law holds, under the statement's own conditions. -/
import Derived.Test.YtoekfmdcplphmaaNXFactsTell
import Derived.Test.YtoekfmdcplphmaaNXFactsTell2
import Derived.OpenShut
import Derived.SizedLaws
import Derived.DataReads
import Derived.Test.YtoekfmdcplphmaaRows
import Derived.Test.YtoekfmdcplphmaaNW
import Derived.WalkKit
import Derived.ProofKit
import Derived.ShutString
import Derived.ChangeOld
import Derived.Below
import Derived.Carry
set_option linter.unusedVariables false
set_option linter.unusedSimpArgs false
set_option linter.unusedSectionVars false
namespace Go.Proofs.Ytoekfmdcplphmaa.H
open Go.RowKit Go.Proofs.YtoekfmdcplphmaaW.PrintWords Go.Proofs.YtoekfmdcplphmaaW.PrintLast Go.Proofs.YtoekfmdcplphmaaW.PrintMore
attribute [local go_sem] max2_int min2_int max_two min_two max_three min_three max_four min_four
def lambrequinlaw21_num.f (a0 : Int) : Option (Bool × ByteArray × Int) := some (false, (⟨#[]⟩ : ByteArray), a0)
set_option maxHeartbeats 8000000 in
set_option maxRecDepth 100000 in
theorem lambrequinlaw21_num.calls (a0 : Int) (r1 : Bool) (r2 : ByteArray) (r3 : Int) (w : World) (h : lambrequinlaw21_num.f a0 = some (r1, r2, r3)) :
  Calls Try.prog 10 #[.int .i64 a0] w fun e w' => e = .returned (.agg #[.bool r1, .string r2, .int .i64 r3]) ∧ Below w.heap.size w w' := by
 have hu28 := Try.underlying28
 have HB := Aside0.mk (Below.refl w.heap.size w)
 have H : (some (false, (⟨#[]⟩ : ByteArray), a0)) = some (r1, r2, r3) := h
 clear h
 simp only [Option.some.injEq, Prod.mk.injEq] at H
 obtain ⟨rfl, rfl, rfl⟩ := H
 go_enter Try.func10, Try.ntmps10
 go_wp2_with (first | ((with_reducible refine gate_dst (N := 2) rfl ?_); refine box_event ?hg (N := 2) ?hd (cs := #[.bool false, .string (⟨#[]⟩ : ByteArray), .int .i64 0]) (t := 28) ?hr ?_; (case hd => rfl); (case hg => rfl); (case hr => first | (go_simp; done) | (go_simp; rfl)); intro gb101 hg w2 hbox hb; have n0_ := Aside0.mk (below_step (by repeat (first | (with_reducible first | exact HB.out | apply below_alloc | apply pw_below_drewN | apply below_drew1) | exact HB.out)) hb); have n1_ := Aside0.mk (hbox); have n2_ := Aside0.mk ((by rw [hg]; exact (below_size (by repeat (first | (with_reducible first | exact HB.out | apply below_alloc | apply pw_below_drewN | apply below_drew1) | exact HB.out))) : w.heap.size ≤ gb101)); have n3_ := Aside0.mk ((by rw [hg]; exact (below_size (by repeat (first | (with_reducible first | exact HB.out | apply below_alloc | apply pw_below_drewN | apply below_drew1) | exact HB.out))) : w.heap.size ≤ gb101)); clear HB; have HB := n0_; have BK101 := n1_; have GW101 := n2_; have GE101 := n3_; clear n0_ n1_ n2_ n3_; clear hb hbox hg; have hcz3_0 : w2.cell? ⟨gb101, 0, none⟩ = some (.bool false) := (blk_cell BK101.out 0).trans rfl; have hcz3_1 : w2.cell? ⟨gb101, 1, none⟩ = some (.string (⟨#[]⟩ : ByteArray)) := (blk_cell BK101.out 1).trans rfl; have hcz3_2 : w2.cell? ⟨gb101, 2, none⟩ = some (.int .i64 0) := (blk_cell BK101.out 2).trans rfl; have hfz3_0 := blk_frozen BK101.out 0; have hfz3_1 := blk_frozen BK101.out 1; have hfz3_2 := blk_frozen BK101.out 2))
 refine bodyPost_ret (results_cell_row rfl _ _ gb101 28 #[.bool false, .string (⟨#[]⟩ : ByteArray), .int .i64 a0] (0, 0) _ rfl (by (with_reducible repeat (first | refine blk_drewN ?_ _ | refine blk_drew ?_ | refine blk_alloc ?_ _)); refine blk_put (cs := #[.bool false, .string (⟨#[]⟩ : ByteArray), .int .i64 0]) ?_ 2 _ rfl; (with_reducible repeat (first | refine blk_drewN ?_ _ | refine blk_drew ?_ | refine blk_alloc ?_ _)); refine blk_put (cs := #[.bool false, .string (⟨#[]⟩ : ByteArray), .int .i64 0]) ?_ 1 _ rfl; (with_reducible repeat (first | refine blk_drewN ?_ _ | refine blk_drew ?_ | refine blk_alloc ?_ _)); refine blk_put (cs := #[.bool false, .string (⟨#[]⟩ : ByteArray), .int .i64 0]) ?_ 0 _ rfl; (with_reducible repeat (first | refine blk_drewN ?_ _ | refine blk_drew ?_ | refine blk_alloc ?_ _)); exact BK101.out) Try.underlying28 rfl (by kernel_rfl)) rfl ?_
 exact ⟨by first | rfl | (simp [errW_none, errW_some] <;> rfl) | (simp [*, errW_none, errW_some] <;> rfl), by repeat (first | (with_reducible first | exact HB.out | apply below_alloc | apply pw_below_drewN | apply below_drew1 | refine below_set ?_ GE101.out) | exact HB.out)⟩
def lambrequinlaw21_sym.f (a0 : ByteArray) : Option (Bool × ByteArray × Int) := some (true, a0, 0)
set_option maxHeartbeats 8000000 in
set_option maxRecDepth 100000 in
theorem lambrequinlaw21_sym.calls (a0 : ByteArray) (r1 : Bool) (r2 : ByteArray) (r3 : Int) (w : World) (h : lambrequinlaw21_sym.f a0 = some (r1, r2, r3)) :
  Calls Try.prog 15 #[.string a0] w fun e w' => e = .returned (.agg #[.bool r1, .string r2, .int .i64 r3]) ∧ Below w.heap.size w w' := by
 have hu28 := Try.underlying28
 have HB := Aside0.mk (Below.refl w.heap.size w)
 have H : (some (true, a0, 0)) = some (r1, r2, r3) := h
 clear h
 simp only [Option.some.injEq, Prod.mk.injEq] at H
 obtain ⟨rfl, rfl, rfl⟩ := H
 go_enter Try.func15, Try.ntmps15
 go_wp2_with (first | ((with_reducible refine gate_dst (N := 2) rfl ?_); refine box_event ?hg (N := 2) ?hd (cs := #[.bool false, .string (⟨#[]⟩ : ByteArray), .int .i64 0]) (t := 28) ?hr ?_; (case hd => rfl); (case hg => rfl); (case hr => first | (go_simp; done) | (go_simp; rfl)); intro gb101 hg w2 hbox hb; have n0_ := Aside0.mk (below_step (by repeat (first | (with_reducible first | exact HB.out | apply below_alloc | apply pw_below_drewN | apply below_drew1) | exact HB.out)) hb); have n1_ := Aside0.mk (hbox); have n2_ := Aside0.mk ((by rw [hg]; exact (below_size (by repeat (first | (with_reducible first | exact HB.out | apply below_alloc | apply pw_below_drewN | apply below_drew1) | exact HB.out))) : w.heap.size ≤ gb101)); have n3_ := Aside0.mk ((by rw [hg]; exact (below_size (by repeat (first | (with_reducible first | exact HB.out | apply below_alloc | apply pw_below_drewN | apply below_drew1) | exact HB.out))) : w.heap.size ≤ gb101)); clear HB; have HB := n0_; have BK101 := n1_; have GW101 := n2_; have GE101 := n3_; clear n0_ n1_ n2_ n3_; clear hb hbox hg; have hcz3_0 : w2.cell? ⟨gb101, 0, none⟩ = some (.bool false) := (blk_cell BK101.out 0).trans rfl; have hcz3_1 : w2.cell? ⟨gb101, 1, none⟩ = some (.string (⟨#[]⟩ : ByteArray)) := (blk_cell BK101.out 1).trans rfl; have hcz3_2 : w2.cell? ⟨gb101, 2, none⟩ = some (.int .i64 0) := (blk_cell BK101.out 2).trans rfl; have hfz3_0 := blk_frozen BK101.out 0; have hfz3_1 := blk_frozen BK101.out 1; have hfz3_2 := blk_frozen BK101.out 2))
 refine bodyPost_ret (results_cell_row rfl _ _ gb101 28 #[.bool true, .string a0, .int .i64 0] (0, 0) _ rfl (by (with_reducible repeat (first | refine blk_drewN ?_ _ | refine blk_drew ?_ | refine blk_alloc ?_ _)); refine blk_put (cs := #[.bool true, .string a0, .int .i64 0]) ?_ 2 _ rfl; (with_reducible repeat (first | refine blk_drewN ?_ _ | refine blk_drew ?_ | refine blk_alloc ?_ _)); refine blk_put (cs := #[.bool true, .string (⟨#[]⟩ : ByteArray), .int .i64 0]) ?_ 1 _ rfl; (with_reducible repeat (first | refine blk_drewN ?_ _ | refine blk_drew ?_ | refine blk_alloc ?_ _)); refine blk_put (cs := #[.bool false, .string (⟨#[]⟩ : ByteArray), .int .i64 0]) ?_ 0 _ rfl; (with_reducible repeat (first | refine blk_drewN ?_ _ | refine blk_drew ?_ | refine blk_alloc ?_ _)); exact BK101.out) Try.underlying28 rfl (by kernel_rfl)) rfl ?_
 exact ⟨by first | rfl | (simp [errW_none, errW_some] <;> rfl) | (simp [*, errW_none, errW_some] <;> rfl), by repeat (first | (with_reducible first | exact HB.out | apply below_alloc | apply pw_below_drewN | apply below_drew1 | refine below_set ?_ GE101.out) | exact HB.out)⟩
def lambrequinlaw21_shown.f (k : Nat)  : Option (Bool) := (facts_Of.f k (([(⟨4, (⟨#[120]⟩ : ByteArray), (⟨#[]⟩ : ByteArray), (⟨#[]⟩ : ByteArray), (⟨#[]⟩ : ByteArray), 0, 0, 0⟩ : Stmt), (⟨9, (⟨#[]⟩ : ByteArray), (⟨#[]⟩ : ByteArray), (⟨#[]⟩ : ByteArray), (⟨#[]⟩ : ByteArray), 0, 0, 0⟩ : Stmt)] : List (Stmt)))).bind fun t104 => (if (t104.length : Int) = 5 then (if 0 < (t104.length : Int) then (if ((rd_T44 t104 0).pred).toList = ([100, 101, 102] : List UInt8) then ((lambrequinlaw21_num.f 0).bind fun bt108 => ((lambrequinlaw21_num.f 1).bind fun bt111 => ((facts_Has.f t104 (⟨#[110, 101, 120, 116]⟩ : ByteArray) (([(⟨bt108.1, bt108.2.1, bt108.2.2⟩ : Val), (⟨bt111.1, bt111.2.1, bt111.2.2⟩ : Val)] : List (Val)))).bind fun t117 => (if t117 = true then ((lambrequinlaw21_num.f 0).bind fun bt118 => ((lambrequinlaw21_sym.f (⟨#[120]⟩ : ByteArray)).bind fun bt121 => ((facts_Has.f t104 (⟨#[115, 111, 117, 114, 99, 101]⟩ : ByteArray) (([(⟨bt118.1, bt118.2.1, bt118.2.2⟩ : Val), (⟨bt121.1, bt121.2.1, bt121.2.2⟩ : Val)] : List (Val)))).bind fun t127 => (if t127 = true then ((lambrequinlaw21_num.f 1).bind fun bt128 => ((lambrequinlaw21_num.f 0).bind fun bt131 => ((facts_Has.f t104 (⟨#[110, 101, 120, 116]⟩ : ByteArray) (([(⟨bt128.1, bt128.2.1, bt128.2.2⟩ : Val), (⟨bt131.1, bt131.2.1, bt131.2.2⟩ : Val)] : List (Val)))).bind fun t137 => (some (!t137))))) else (some false))))) else (some false))))) else (some false)) else (none)) else (some false))
theorem lambrequinlaw21_shown.mono : ∀ k, LeO (lambrequinlaw21_shown.f k ) (lambrequinlaw21_shown.f (k + 1) ) := by
 intro  k
 unfold lambrequinlaw21_shown.f
 repeat' first
   | (with_reducible exact facts_Of.mono _ _)
   | (with_reducible exact LeO.refl _)
   | (with_reducible exact LeO.none _)
   | (with_reducible refine LeO.ite ?_ ?_)
   | (with_reducible refine LeO.bind ?_ (fun _ => ?_))
   | exact facts_Of.mono _ _
   | exact LeO.none _
   | refine LeO.ite ?_ ?_
   | refine LeO.bind ?_ (fun _ => ?_)
set_option maxHeartbeats 8000000 in
set_option maxRecDepth 100000 in
theorem lambrequinlaw21_shown.calls (k : Nat)  (r : Bool) (w : World) (h : lambrequinlaw21_shown.f k  = some r) :
  Calls Try.prog 7 #[] w fun e w' => e = .returned (.bool r) ∧ Below w.heap.size w w' := by
 have hu33 := Try.underlying33
 have HB := am (Below.refl w.heap.size w)
 have H : ((facts_Of.f k (([(⟨4, (⟨#[120]⟩ : ByteArray), (⟨#[]⟩ : ByteArray), (⟨#[]⟩ : ByteArray), (⟨#[]⟩ : ByteArray), 0, 0, 0⟩ : Stmt), (⟨9, (⟨#[]⟩ : ByteArray), (⟨#[]⟩ : ByteArray), (⟨#[]⟩ : ByteArray), (⟨#[]⟩ : ByteArray), 0, 0, 0⟩ : Stmt)] : List (Stmt)))).bind fun t104 => (if (t104.length : Int) = 5 then (if 0 < (t104.length : Int) then (if ((rd_T44 t104 0).pred).toList = ([100, 101, 102] : List UInt8) then ((lambrequinlaw21_num.f 0).bind fun bt108 => ((lambrequinlaw21_num.f 1).bind fun bt111 => ((facts_Has.f t104 (⟨#[110, 101, 120, 116]⟩ : ByteArray) (([(⟨bt108.1, bt108.2.1, bt108.2.2⟩ : Val), (⟨bt111.1, bt111.2.1, bt111.2.2⟩ : Val)] : List (Val)))).bind fun t117 => (if t117 = true then ((lambrequinlaw21_num.f 0).bind fun bt118 => ((lambrequinlaw21_sym.f (⟨#[120]⟩ : ByteArray)).bind fun bt121 => ((facts_Has.f t104 (⟨#[115, 111, 117, 114, 99, 101]⟩ : ByteArray) (([(⟨bt118.1, bt118.2.1, bt118.2.2⟩ : Val), (⟨bt121.1, bt121.2.1, bt121.2.2⟩ : Val)] : List (Val)))).bind fun t127 => (if t127 = true then ((lambrequinlaw21_num.f 1).bind fun bt128 => ((lambrequinlaw21_num.f 0).bind fun bt131 => ((facts_Has.f t104 (⟨#[110, 101, 120, 116]⟩ : ByteArray) (([(⟨bt128.1, bt128.2.1, bt128.2.2⟩ : Val), (⟨bt131.1, bt131.2.1, bt131.2.2⟩ : Val)] : List (Val)))).bind fun t137 => (some (!t137))))) else (some false))))) else (some false))))) else (some false)) else (none)) else (some false))) = some r := h
 clear h
 obtain ⟨y101, hy101⟩ : ∃ y_ : List (Stmt), y_ = (([(⟨4, (⟨#[120]⟩ : ByteArray), (⟨#[]⟩ : ByteArray), (⟨#[]⟩ : ByteArray), (⟨#[]⟩ : ByteArray), 0, 0, 0⟩ : Stmt), (⟨9, (⟨#[]⟩ : ByteArray), (⟨#[]⟩ : ByteArray), (⟨#[]⟩ : ByteArray), (⟨#[]⟩ : ByteArray), 0, 0, 0⟩ : Stmt)] : List (Stmt))) := ⟨_, rfl⟩
 replace H : ((facts_Of.f k y101).bind fun t104 => (if (t104.length : Int) = 5 then (if 0 < (t104.length : Int) then (if ((rd_T44 t104 0).pred).toList = ([100, 101, 102] : List UInt8) then ((lambrequinlaw21_num.f 0).bind fun bt108 => ((lambrequinlaw21_num.f 1).bind fun bt111 => ((facts_Has.f t104 (⟨#[110, 101, 120, 116]⟩ : ByteArray) (([(⟨bt108.1, bt108.2.1, bt108.2.2⟩ : Val), (⟨bt111.1, bt111.2.1, bt111.2.2⟩ : Val)] : List (Val)))).bind fun t117 => (if t117 = true then ((lambrequinlaw21_num.f 0).bind fun bt118 => ((lambrequinlaw21_sym.f (⟨#[120]⟩ : ByteArray)).bind fun bt121 => ((facts_Has.f t104 (⟨#[115, 111, 117, 114, 99, 101]⟩ : ByteArray) (([(⟨bt118.1, bt118.2.1, bt118.2.2⟩ : Val), (⟨bt121.1, bt121.2.1, bt121.2.2⟩ : Val)] : List (Val)))).bind fun t127 => (if t127 = true then ((lambrequinlaw21_num.f 1).bind fun bt128 => ((lambrequinlaw21_num.f 0).bind fun bt131 => ((facts_Has.f t104 (⟨#[110, 101, 120, 116]⟩ : ByteArray) (([(⟨bt128.1, bt128.2.1, bt128.2.2⟩ : Val), (⟨bt131.1, bt131.2.1, bt131.2.2⟩ : Val)] : List (Val)))).bind fun t137 => (some (!t137))))) else (some false))))) else (some false))))) else (some false)) else (none)) else (some false))) = some r := by first | (rw [hy101]; with_reducible exact H) | (have H2_ := (Option.bind_some _ _).symm.trans H; rw [hy101]; with_reducible exact H2_) | (have H2_ := (Option.bind_some _ _).symm.trans H; with_reducible exact H2_) | with_reducible exact H | (rw [hy101]; exact H) | exact H
 have Ny101 := am hy101
 clear hy101
 replace H := Option.bind_eq_some_iff.mp H
 obtain ⟨t104, A10, H⟩ := H
 replace H : (if (t104.length : Int) = 5 then (if 0 < (t104.length : Int) then (if ((rd_T44 t104 0).pred).toList = ([100, 101, 102] : List UInt8) then ((lambrequinlaw21_num.f 0).bind fun bt108 => ((lambrequinlaw21_num.f 1).bind fun bt111 => ((facts_Has.f t104 (⟨#[110, 101, 120, 116]⟩ : ByteArray) (([(⟨bt108.1, bt108.2.1, bt108.2.2⟩ : Val), (⟨bt111.1, bt111.2.1, bt111.2.2⟩ : Val)] : List (Val)))).bind fun t117 => (if t117 = true then ((lambrequinlaw21_num.f 0).bind fun bt118 => ((lambrequinlaw21_sym.f (⟨#[120]⟩ : ByteArray)).bind fun bt121 => ((facts_Has.f t104 (⟨#[115, 111, 117, 114, 99, 101]⟩ : ByteArray) (([(⟨bt118.1, bt118.2.1, bt118.2.2⟩ : Val), (⟨bt121.1, bt121.2.1, bt121.2.2⟩ : Val)] : List (Val)))).bind fun t127 => (if t127 = true then ((lambrequinlaw21_num.f 1).bind fun bt128 => ((lambrequinlaw21_num.f 0).bind fun bt131 => ((facts_Has.f t104 (⟨#[110, 101, 120, 116]⟩ : ByteArray) (([(⟨bt128.1, bt128.2.1, bt128.2.2⟩ : Val), (⟨bt131.1, bt131.2.1, bt131.2.2⟩ : Val)] : List (Val)))).bind fun t137 => (some (!t137))))) else (some false))))) else (some false))))) else (some false)) else (none)) else (some false)) = some r := H
 have A1 := am A10
 clear A10
 by_cases c2 : (t104.length : Int) = 5
 ·rw [if_pos c2] at H
  have c2b0 : ((t104.length : Int) == 5) = true := beq_iff_eq.mpr c2
  have c2b1 : ((t104.length : Int) != 5) = false := bne_eq_false_iff_eq.mpr c2
  clear c2
  by_cases c3 : 0 < (t104.length : Int)
  ·rw [if_pos c3] at H
   have c3b0 : decide (0 < (t104.length : Int)) = true := decide_eq_true c3
   have c3b1 : decide (0 < t104.length) = true := decide_eq_true (by omega)
   clear c3
   by_cases c4 : ((rd_T44 t104 0).pred).toList = ([100, 101, 102] : List UInt8)
   ·rw [if_pos c4] at H
    have c4b0 : (((rd_T44 t104 0).pred).toList == ([100, 101, 102] : List UInt8)) = true := beq_iff_eq.mpr c4
    have c4b1 : (((rd_T44 t104 0).pred).toList != ([100, 101, 102] : List UInt8)) = false := bne_eq_false_iff_eq.mpr c4
    clear c4
    replace H := Option.bind_eq_some_iff.mp H
    obtain ⟨⟨t108, t109, t110⟩, A50, H⟩ := H
    replace H : ((lambrequinlaw21_num.f 1).bind fun bt111 => ((facts_Has.f t104 (⟨#[110, 101, 120, 116]⟩ : ByteArray) (([(⟨t108, t109, t110⟩ : Val), (⟨bt111.1, bt111.2.1, bt111.2.2⟩ : Val)] : List (Val)))).bind fun t117 => (if t117 = true then ((lambrequinlaw21_num.f 0).bind fun bt118 => ((lambrequinlaw21_sym.f (⟨#[120]⟩ : ByteArray)).bind fun bt121 => ((facts_Has.f t104 (⟨#[115, 111, 117, 114, 99, 101]⟩ : ByteArray) (([(⟨bt118.1, bt118.2.1, bt118.2.2⟩ : Val), (⟨bt121.1, bt121.2.1, bt121.2.2⟩ : Val)] : List (Val)))).bind fun t127 => (if t127 = true then ((lambrequinlaw21_num.f 1).bind fun bt128 => ((lambrequinlaw21_num.f 0).bind fun bt131 => ((facts_Has.f t104 (⟨#[110, 101, 120, 116]⟩ : ByteArray) (([(⟨bt128.1, bt128.2.1, bt128.2.2⟩ : Val), (⟨bt131.1, bt131.2.1, bt131.2.2⟩ : Val)] : List (Val)))).bind fun t137 => (some (!t137))))) else (some false))))) else (some false)))) = some r := H
    have A5 := am A50
    clear A50
    replace H := Option.bind_eq_some_iff.mp H
    obtain ⟨⟨t111, t112, t113⟩, A60, H⟩ := H
    replace H : ((facts_Has.f t104 (⟨#[110, 101, 120, 116]⟩ : ByteArray) (([(⟨t108, t109, t110⟩ : Val), (⟨t111, t112, t113⟩ : Val)] : List (Val)))).bind fun t117 => (if t117 = true then ((lambrequinlaw21_num.f 0).bind fun bt118 => ((lambrequinlaw21_sym.f (⟨#[120]⟩ : ByteArray)).bind fun bt121 => ((facts_Has.f t104 (⟨#[115, 111, 117, 114, 99, 101]⟩ : ByteArray) (([(⟨bt118.1, bt118.2.1, bt118.2.2⟩ : Val), (⟨bt121.1, bt121.2.1, bt121.2.2⟩ : Val)] : List (Val)))).bind fun t127 => (if t127 = true then ((lambrequinlaw21_num.f 1).bind fun bt128 => ((lambrequinlaw21_num.f 0).bind fun bt131 => ((facts_Has.f t104 (⟨#[110, 101, 120, 116]⟩ : ByteArray) (([(⟨bt128.1, bt128.2.1, bt128.2.2⟩ : Val), (⟨bt131.1, bt131.2.1, bt131.2.2⟩ : Val)] : List (Val)))).bind fun t137 => (some (!t137))))) else (some false))))) else (some false))) = some r := H
    have A6 := am A60
    clear A60
    obtain ⟨y114, hy114⟩ : ∃ y_ : List (Val), y_ = (([(⟨t108, t109, t110⟩ : Val), (⟨t111, t112, t113⟩ : Val)] : List (Val))) := ⟨_, rfl⟩
    replace H : ((facts_Has.f t104 (⟨#[110, 101, 120, 116]⟩ : ByteArray) y114).bind fun t117 => (if t117 = true then ((lambrequinlaw21_num.f 0).bind fun bt118 => ((lambrequinlaw21_sym.f (⟨#[120]⟩ : ByteArray)).bind fun bt121 => ((facts_Has.f t104 (⟨#[115, 111, 117, 114, 99, 101]⟩ : ByteArray) (([(⟨bt118.1, bt118.2.1, bt118.2.2⟩ : Val), (⟨bt121.1, bt121.2.1, bt121.2.2⟩ : Val)] : List (Val)))).bind fun t127 => (if t127 = true then ((lambrequinlaw21_num.f 1).bind fun bt128 => ((lambrequinlaw21_num.f 0).bind fun bt131 => ((facts_Has.f t104 (⟨#[110, 101, 120, 116]⟩ : ByteArray) (([(⟨bt128.1, bt128.2.1, bt128.2.2⟩ : Val), (⟨bt131.1, bt131.2.1, bt131.2.2⟩ : Val)] : List (Val)))).bind fun t137 => (some (!t137))))) else (some false))))) else (some false))) = some r := by first | (rw [hy114]; with_reducible exact H) | (have H2_ := (Option.bind_some _ _).symm.trans H; rw [hy114]; with_reducible exact H2_) | (have H2_ := (Option.bind_some _ _).symm.trans H; with_reducible exact H2_) | with_reducible exact H | (rw [hy114]; exact H) | exact H
    have Ny114 := am hy114
    clear hy114
    replace H := Option.bind_eq_some_iff.mp H
    obtain ⟨t117, A70, H⟩ := H
    replace H : (if t117 = true then ((lambrequinlaw21_num.f 0).bind fun bt118 => ((lambrequinlaw21_sym.f (⟨#[120]⟩ : ByteArray)).bind fun bt121 => ((facts_Has.f t104 (⟨#[115, 111, 117, 114, 99, 101]⟩ : ByteArray) (([(⟨bt118.1, bt118.2.1, bt118.2.2⟩ : Val), (⟨bt121.1, bt121.2.1, bt121.2.2⟩ : Val)] : List (Val)))).bind fun t127 => (if t127 = true then ((lambrequinlaw21_num.f 1).bind fun bt128 => ((lambrequinlaw21_num.f 0).bind fun bt131 => ((facts_Has.f t104 (⟨#[110, 101, 120, 116]⟩ : ByteArray) (([(⟨bt128.1, bt128.2.1, bt128.2.2⟩ : Val), (⟨bt131.1, bt131.2.1, bt131.2.2⟩ : Val)] : List (Val)))).bind fun t137 => (some (!t137))))) else (some false))))) else (some false)) = some r := H
    have A7 := am A70
    clear A70
    by_cases c8 : t117 = true
    ·subst c8
     have H1 : ((lambrequinlaw21_num.f 0).bind fun bt118 => ((lambrequinlaw21_sym.f (⟨#[120]⟩ : ByteArray)).bind fun bt121 => ((facts_Has.f t104 (⟨#[115, 111, 117, 114, 99, 101]⟩ : ByteArray) (([(⟨bt118.1, bt118.2.1, bt118.2.2⟩ : Val), (⟨bt121.1, bt121.2.1, bt121.2.2⟩ : Val)] : List (Val)))).bind fun t127 => (if t127 = true then ((lambrequinlaw21_num.f 1).bind fun bt128 => ((lambrequinlaw21_num.f 0).bind fun bt131 => ((facts_Has.f t104 (⟨#[110, 101, 120, 116]⟩ : ByteArray) (([(⟨bt128.1, bt128.2.1, bt128.2.2⟩ : Val), (⟨bt131.1, bt131.2.1, bt131.2.2⟩ : Val)] : List (Val)))).bind fun t137 => (some (!t137))))) else (some false))))) = some r := by rw [if_pos rfl] at H; exact H
     clear H
     have H := H1
     clear H1
     replace H := Option.bind_eq_some_iff.mp H
     obtain ⟨⟨t118, t119, t120⟩, A90, H⟩ := H
     replace H : ((lambrequinlaw21_sym.f (⟨#[120]⟩ : ByteArray)).bind fun bt121 => ((facts_Has.f t104 (⟨#[115, 111, 117, 114, 99, 101]⟩ : ByteArray) (([(⟨t118, t119, t120⟩ : Val), (⟨bt121.1, bt121.2.1, bt121.2.2⟩ : Val)] : List (Val)))).bind fun t127 => (if t127 = true then ((lambrequinlaw21_num.f 1).bind fun bt128 => ((lambrequinlaw21_num.f 0).bind fun bt131 => ((facts_Has.f t104 (⟨#[110, 101, 120, 116]⟩ : ByteArray) (([(⟨bt128.1, bt128.2.1, bt128.2.2⟩ : Val), (⟨bt131.1, bt131.2.1, bt131.2.2⟩ : Val)] : List (Val)))).bind fun t137 => (some (!t137))))) else (some false)))) = some r := H
     have A9 := am A90
     clear A90
     replace H := Option.bind_eq_some_iff.mp H
     obtain ⟨⟨t121, t122, t123⟩, A100, H⟩ := H
     replace H : ((facts_Has.f t104 (⟨#[115, 111, 117, 114, 99, 101]⟩ : ByteArray) (([(⟨t118, t119, t120⟩ : Val), (⟨t121, t122, t123⟩ : Val)] : List (Val)))).bind fun t127 => (if t127 = true then ((lambrequinlaw21_num.f 1).bind fun bt128 => ((lambrequinlaw21_num.f 0).bind fun bt131 => ((facts_Has.f t104 (⟨#[110, 101, 120, 116]⟩ : ByteArray) (([(⟨bt128.1, bt128.2.1, bt128.2.2⟩ : Val), (⟨bt131.1, bt131.2.1, bt131.2.2⟩ : Val)] : List (Val)))).bind fun t137 => (some (!t137))))) else (some false))) = some r := H
     have A10 := am A100
     clear A100
     obtain ⟨y124, hy124⟩ : ∃ y_ : List (Val), y_ = (([(⟨t118, t119, t120⟩ : Val), (⟨t121, t122, t123⟩ : Val)] : List (Val))) := ⟨_, rfl⟩
     replace H : ((facts_Has.f t104 (⟨#[115, 111, 117, 114, 99, 101]⟩ : ByteArray) y124).bind fun t127 => (if t127 = true then ((lambrequinlaw21_num.f 1).bind fun bt128 => ((lambrequinlaw21_num.f 0).bind fun bt131 => ((facts_Has.f t104 (⟨#[110, 101, 120, 116]⟩ : ByteArray) (([(⟨bt128.1, bt128.2.1, bt128.2.2⟩ : Val), (⟨bt131.1, bt131.2.1, bt131.2.2⟩ : Val)] : List (Val)))).bind fun t137 => (some (!t137))))) else (some false))) = some r := by first | (rw [hy124]; with_reducible exact H) | (have H2_ := (Option.bind_some _ _).symm.trans H; rw [hy124]; with_reducible exact H2_) | (have H2_ := (Option.bind_some _ _).symm.trans H; with_reducible exact H2_) | with_reducible exact H | (rw [hy124]; exact H) | exact H
     have Ny124 := am hy124
     clear hy124
     replace H := Option.bind_eq_some_iff.mp H
     obtain ⟨t127, A110, H⟩ := H
     replace H : (if t127 = true then ((lambrequinlaw21_num.f 1).bind fun bt128 => ((lambrequinlaw21_num.f 0).bind fun bt131 => ((facts_Has.f t104 (⟨#[110, 101, 120, 116]⟩ : ByteArray) (([(⟨bt128.1, bt128.2.1, bt128.2.2⟩ : Val), (⟨bt131.1, bt131.2.1, bt131.2.2⟩ : Val)] : List (Val)))).bind fun t137 => (some (!t137))))) else (some false)) = some r := H
     have A11 := am A110
     clear A110
     by_cases c12 : t127 = true
     ·subst c12
      have H1 : ((lambrequinlaw21_num.f 1).bind fun bt128 => ((lambrequinlaw21_num.f 0).bind fun bt131 => ((facts_Has.f t104 (⟨#[110, 101, 120, 116]⟩ : ByteArray) (([(⟨bt128.1, bt128.2.1, bt128.2.2⟩ : Val), (⟨bt131.1, bt131.2.1, bt131.2.2⟩ : Val)] : List (Val)))).bind fun t137 => (some (!t137))))) = some r := by rw [if_pos rfl] at H; exact H
      clear H
      have H := H1
      clear H1
      replace H := Option.bind_eq_some_iff.mp H
      obtain ⟨⟨t128, t129, t130⟩, A130, H⟩ := H
      replace H : ((lambrequinlaw21_num.f 0).bind fun bt131 => ((facts_Has.f t104 (⟨#[110, 101, 120, 116]⟩ : ByteArray) (([(⟨t128, t129, t130⟩ : Val), (⟨bt131.1, bt131.2.1, bt131.2.2⟩ : Val)] : List (Val)))).bind fun t137 => (some (!t137)))) = some r := H
      have A13 := am A130
      clear A130
      replace H := Option.bind_eq_some_iff.mp H
      obtain ⟨⟨t131, t132, t133⟩, A140, H⟩ := H
      replace H : ((facts_Has.f t104 (⟨#[110, 101, 120, 116]⟩ : ByteArray) (([(⟨t128, t129, t130⟩ : Val), (⟨t131, t132, t133⟩ : Val)] : List (Val)))).bind fun t137 => (some (!t137))) = some r := H
      have A14 := am A140
      clear A140
      obtain ⟨y134, hy134⟩ : ∃ y_ : List (Val), y_ = (([(⟨t128, t129, t130⟩ : Val), (⟨t131, t132, t133⟩ : Val)] : List (Val))) := ⟨_, rfl⟩
      replace H : ((facts_Has.f t104 (⟨#[110, 101, 120, 116]⟩ : ByteArray) y134).bind fun t137 => (some (!t137))) = some r := by first | (rw [hy134]; with_reducible exact H) | (have H2_ := (Option.bind_some _ _).symm.trans H; rw [hy134]; with_reducible exact H2_) | (have H2_ := (Option.bind_some _ _).symm.trans H; with_reducible exact H2_) | with_reducible exact H | (rw [hy134]; exact H) | exact H
      have Ny134 := am hy134
      clear hy134
      replace H := Option.bind_eq_some_iff.mp H
      obtain ⟨t137, A150, H⟩ := H
      replace H : (some (!t137)) = some r := H
      have A15 := am A150
      clear A150
      obtain rfl := Option.some.inj H
      go_enter Try.func7, Try.ntmps7
      go_wp2_with (first | ((with_reducible refine gate_dst (N := 4) rfl ?_); (try (refine gate_guard (by rfl) ?_; dsimp only)); refine Kd.R_lit k33 _ 33 ?hg (N := 4) ?hd (xs := ([(⟨4, (⟨#[120]⟩ : ByteArray), (⟨#[]⟩ : ByteArray), (⟨#[]⟩ : ByteArray), (⟨#[]⟩ : ByteArray), 0, 0, 0⟩ : Stmt), (⟨9, (⟨#[]⟩ : ByteArray), (⟨#[]⟩ : ByteArray), (⟨#[]⟩ : ByteArray), (⟨#[]⟩ : ByteArray), 0, 0, 0⟩ : Stmt)] : List (Stmt))) (inner := [.int .i64 4, .string (⟨#[120]⟩ : ByteArray), .string (⟨#[]⟩ : ByteArray), .string (⟨#[]⟩ : ByteArray), .string (⟨#[]⟩ : ByteArray), .int .i64 0, .int .i64 0, .int .i64 0, .int .i64 9, .string (⟨#[]⟩ : ByteArray), .string (⟨#[]⟩ : ByteArray), .string (⟨#[]⟩ : ByteArray), .string (⟨#[]⟩ : ByteArray), .int .i64 0, .int .i64 0, .int .i64 0]) (ok := fun _ => True) (okp := fun _ => True) ?hr ?hp (fun _ hk => hk) trivial (Below.refl _ _) (Nat.le_refl _) (by simp) ?_; (case hd => rfl); (case hg => rfl); (case hr => first | (go_simp; done) | (go_simp; rfl)); (case hp => exact (Reps.c8 (show Kd.M k33 _ _ _ (⟨4, (⟨#[120]⟩ : ByteArray), (⟨#[]⟩ : ByteArray), (⟨#[]⟩ : ByteArray), (⟨#[]⟩ : ByteArray), 0, 0, 0⟩ : Stmt) [.int .i64 4, .string (⟨#[120]⟩ : ByteArray), .string (⟨#[]⟩ : ByteArray), .string (⟨#[]⟩ : ByteArray), .string (⟨#[]⟩ : ByteArray), .int .i64 0, .int .i64 0, .int .i64 0] from (k33_mkM _ _ _ (⟨4, (⟨#[120]⟩ : ByteArray), (⟨#[]⟩ : ByteArray), (⟨#[]⟩ : ByteArray), (⟨#[]⟩ : ByteArray), 0, 0, 0⟩ : Stmt) )) (Reps.c8 (show Kd.M k33 _ _ _ (⟨9, (⟨#[]⟩ : ByteArray), (⟨#[]⟩ : ByteArray), (⟨#[]⟩ : ByteArray), (⟨#[]⟩ : ByteArray), 0, 0, 0⟩ : Stmt) [.int .i64 9, .string (⟨#[]⟩ : ByteArray), .string (⟨#[]⟩ : ByteArray), .string (⟨#[]⟩ : ByteArray), .string (⟨#[]⟩ : ByteArray), .int .i64 0, .int .i64 0, .int .i64 0] from (k33_mkM _ _ _ (⟨9, (⟨#[]⟩ : ByteArray), (⟨#[]⟩ : ByteArray), (⟨#[]⟩ : ByteArray), (⟨#[]⟩ : ByteArray), 0, 0, 0⟩ : Stmt) )) (Reps.none _ _)))); intro v102 w16 ho17 hb hg_ hnew_; clear hg_ hnew_; (first | rw [← Ny101.out] at ho17 | (simp only [Int.reduceToNat] at ho17; rw [← Ny101.out] at ho17)); have HO103 := am (Kd.R_lower ho17 (below_size (pL HB.out))); replace HB := am (bs_ HB.out hb); clear hb ho17; obtain ⟨Ao18, co18, eo18⟩ := Kd.R_slice HO103.out; subst eo18) | ((with_reducible refine gate_callee (f := 8) rfl ?_); refine goesL_ (some 5) rfl rfl Try.func8 (by kernel_rfl) rfl #[.slice Ao18 y101.length co18] rfl (by (try simp only [List.map_toArray, List.map_cons, List.map_nil]); first | done | rfl | (simp only [List.length_drop, List.length_take]; rfl)) ?_; (with_reducible refine (facts_Of.calls k _ _ y101 t104 _ ?side1 ?side2 A1.out).mono ?_); (case side1 => repeat (first | exact (Kd.R_reads' HO103.out).2.2 | (with_reducible refine Kd.C_alloc ?_ _) | (with_reducible refine Kd.C_drewN ?_ _) | (with_reducible refine Kd.C_drew ?_))); (case side2 => exact (Kd.R_reads' HO103.out).2.1); rintro e w19 ⟨v105, rfl, ho0, hb⟩; refine ⟨_, rfl, ?_⟩; have HO106 := am (Kd.N_lower (Kd.N_mono (ok' := fun k_ => some k_ ≠ (.slice Ao18 y101.length co18 : Value).ownBlock) ho0 (fun k_ hk_ => (Kd.fresh' (Kd.R_lt (pR HO103.out)) k_ hk_))) (below_size (pL HB.out))); replace HO103 := am (Rb_ HO103.out hb); replace HB := am (bs_ HB.out hb); (try clear hb); (try clear hb2); (try clear hk); (try clear hi); (try clear ho0); obtain ⟨Ao20, co20, eo20⟩ := Kd.N_slice HO106.out; subst eo20; have p107 : 0 ≤ (0 : Int) := (by omega); have q107 : 0 < (t104.length : Int) := dt_; obtain ⟨ad107, A107_1, c107_1, e107, hx107_0, hx107_1, hl107_1, hi107_1⟩ := at_T44 (Kd.N_reads' HO106.out).2.2 0 p107 q107; cases e107; obtain ⟨ce107, hce107, hMe107, hcc107⟩ := Kd.N_get HO106.out z44 0 p107 (by first | exact q107 | exact dt_ | (have e_ := (Kd.N_reads' HO106.out).1; omega)); obtain ⟨ua107_1, uc107_1, rfl, ul107_1, ge107_1⟩ := k44_openF hMe107; have hv107_1 := hcc107 1 _ rfl; rw [add_field _ _ 1 (by omega)] at hv107_1; replace hv107_1 := Option.some.inj (hv107_1.symm.trans hx107_1); injection hv107_1 with hva_ hvn_ hvc_; rw [hva_] at ge107_1; rw [hvc_] at ul107_1; have HL107_1 := am (show Kd.V k28 28 _ w.heap.size _ _ ((rd_T44 t104 0).args) from Kd.V_mk ul107_1 ge107_1); clear hva_ hvn_ hvc_ ge107_1 ul107_1; clear hcc107 hce107; have qi107 : (0 < t104.length) = True := eq_true (by omega); (try rw [show ((0 : Int)).toNat = 0 from rfl] at hx107_0); (try rw [show 0 * 2 = 0 from rfl] at hx107_0); (try rw [Addr.add_zero'] at hx107_0); (try rw [show ((0 : Int)).toNat = 0 from rfl] at hx107_1); (try rw [show 0 * 2 = 0 from rfl] at hx107_1); (try rw [Addr.add_zero'] at hx107_1); have HR107_1 := am hi107_1; have HC107_1 := am hl107_1; clear hi107_1 hl107_1; replace p107 := eq_true p107; replace q107 := eq_true q107) | (go_at_call 10; (with_reducible refine (lambrequinlaw21_num.calls 0 t108 t109 t110 _ A5.out).mono ?_); rintro e w21 ⟨rfl, hb⟩; (try clear A5); replace HO103 := am (Rb_ HO103.out hb); replace HO106 := am (Kd.N_below (by (with_reducible repeat (first | apply Kd.N_alloc | apply Kd.N_drewN | apply Kd.N_drew)); exact HO106.out) hb); replace HL107_1 := am (Kd.V_below (pV HL107_1.out) hb); replace HR107_1 := am (Kd.C_below (by repeat (first | (with_reducible exact HR107_1.out) | (with_reducible refine Kd.C_alloc ?_ _) | (with_reducible refine Kd.C_drewN ?_ _) | (with_reducible refine Kd.C_drew ?_) | exact HR107_1.out)) hb); replace HB := am (bs_ HB.out hb); (try clear hb); (try clear hb2); (try clear hk); (try clear hi)) | (go_at_call 10; (with_reducible refine (lambrequinlaw21_num.calls 1 t111 t112 t113 _ A6.out).mono ?_); rintro e w22 ⟨rfl, hb⟩; (try clear A6); replace HO103 := am (Rb_ HO103.out hb); replace HO106 := am (Kd.N_below (by (with_reducible repeat (first | apply Kd.N_alloc | apply Kd.N_drewN | apply Kd.N_drew)); exact HO106.out) hb); replace HL107_1 := am (Kd.V_below (pV HL107_1.out) hb); replace HR107_1 := am (Kd.C_below (by repeat (first | (with_reducible exact HR107_1.out) | (with_reducible refine Kd.C_alloc ?_ _) | (with_reducible refine Kd.C_drewN ?_ _) | (with_reducible refine Kd.C_drew ?_) | exact HR107_1.out)) hb); replace HB := am (bs_ HB.out hb); (try clear hb); (try clear hb2); (try clear hk); (try clear hi)) | ((with_reducible refine gate_dst (N := 20) rfl ?_); (try (refine gate_guard (by rfl) ?_; dsimp only)); refine Kd.R_lit k28 _ 28 ?hg (N := 20) ?hd (xs := ([(⟨t108, t109, t110⟩ : Val), (⟨t111, t112, t113⟩ : Val)] : List (Val))) (inner := [.bool t108, .string t109, .int .i64 t110, .bool t111, .string t112, .int .i64 t113]) (ok := fun _ => True) (okp := fun _ => True) ?hr ?hp (fun _ hk => hk) trivial (Below.refl _ _) (Nat.le_refl _) (by simp) ?_; (case hd => rfl); (case hg => rfl); (case hr => first | (go_simp; done) | (go_simp; rfl)); (case hp => exact (Reps.c3 (show Kd.M k28 _ _ _ (⟨t108, t109, t110⟩ : Val) [.bool t108, .string t109, .int .i64 t110] from (k28_mkM _ _ _ (⟨t108, t109, t110⟩ : Val) )) (Reps.c3 (show Kd.M k28 _ _ _ (⟨t111, t112, t113⟩ : Val) [.bool t111, .string t112, .int .i64 t113] from (k28_mkM _ _ _ (⟨t111, t112, t113⟩ : Val) )) (Reps.none _ _)))); intro v115 w23 ho24 hb hg_ hnew_; clear hg_ hnew_; (first | rw [← Ny114.out] at ho24 | (simp only [Int.reduceToNat] at ho24; rw [← Ny114.out] at ho24)); replace HO103 := am (Rb_ HO103.out hb); replace HO106 := am (Kd.N_elder' (by (with_reducible repeat (first | apply Kd.N_alloc | apply Kd.N_drewN | apply Kd.N_drew)); exact HO106.out) (Kd.R_base ho24) hb); replace HL107_1 := am (Kd.V_elder' (pV HL107_1.out) (Kd.R_base ho24) hb); have HO116 := am (Kd.R_lower ho24 (below_size (pL HB.out))); replace HR107_1 := am (Kd.C_below (by repeat (first | (with_reducible exact HR107_1.out) | (with_reducible refine Kd.C_alloc ?_ _) | (with_reducible refine Kd.C_drewN ?_ _) | (with_reducible refine Kd.C_drew ?_) | exact HR107_1.out)) hb); replace HB := am (bs_ HB.out hb); clear hb ho24; obtain ⟨Ao25, co25, eo25⟩ := Kd.R_slice HO116.out; subst eo25) | (go_at_call 9; (with_reducible refine (facts_Has.calls _ _ t104 (⟨#[110, 101, 120, 116]⟩ : ByteArray) _ _ y114 true _ ?side1 ?side2 ?side3 ?side4 A7.out).mono ?_); (case side1 => repeat (first | exact (Kd.N_reads' HO106.out).2.2 | (with_reducible refine Kd.C_alloc ?_ _) | (with_reducible refine Kd.C_drewN ?_ _) | (with_reducible refine Kd.C_drew ?_))); (case side2 => exact (Kd.N_reads' HO106.out).2.1); (case side3 => repeat (first | exact (Kd.R_reads' HO116.out).2.2 | (with_reducible refine Kd.C_alloc ?_ _) | (with_reducible refine Kd.C_drewN ?_ _) | (with_reducible refine Kd.C_drew ?_))); (case side4 => exact (Kd.R_reads' HO116.out).2.1); rintro e w26 ⟨rfl, hb⟩; (try clear A7); replace HO103 := am (Rb_ HO103.out hb); replace HO106 := am (Kd.N_below (by (with_reducible repeat (first | apply Kd.N_alloc | apply Kd.N_drewN | apply Kd.N_drew)); exact HO106.out) hb); replace HL107_1 := am (Kd.V_below (pV HL107_1.out) hb); replace HO116 := am (Rb_ HO116.out hb); replace HR107_1 := am (Kd.C_below (by repeat (first | (with_reducible exact HR107_1.out) | (with_reducible refine Kd.C_alloc ?_ _) | (with_reducible refine Kd.C_drewN ?_ _) | (with_reducible refine Kd.C_drew ?_) | exact HR107_1.out)) hb); replace HB := am (bs_ HB.out hb); (try clear hb); (try clear hb2); (try clear hk); (try clear hi)) | (go_at_call 10; (with_reducible refine (lambrequinlaw21_num.calls 0 t118 t119 t120 _ A9.out).mono ?_); rintro e w27 ⟨rfl, hb⟩; (try clear A9); replace HO103 := am (Rb_ HO103.out hb); replace HO106 := am (Kd.N_below (by (with_reducible repeat (first | apply Kd.N_alloc | apply Kd.N_drewN | apply Kd.N_drew)); exact HO106.out) hb); replace HL107_1 := am (Kd.V_below (pV HL107_1.out) hb); replace HO116 := am (Rb_ HO116.out hb); replace HR107_1 := am (Kd.C_below (by repeat (first | (with_reducible exact HR107_1.out) | (with_reducible refine Kd.C_alloc ?_ _) | (with_reducible refine Kd.C_drewN ?_ _) | (with_reducible refine Kd.C_drew ?_) | exact HR107_1.out)) hb); replace HB := am (bs_ HB.out hb); (try clear hb); (try clear hb2); (try clear hk); (try clear hi)) | (go_at_call 15; (with_reducible refine (lambrequinlaw21_sym.calls (⟨#[120]⟩ : ByteArray) t121 t122 t123 _ A10.out).mono ?_); rintro e w28 ⟨rfl, hb⟩; (try clear A10); replace HO103 := am (Rb_ HO103.out hb); replace HO106 := am (Kd.N_below (by (with_reducible repeat (first | apply Kd.N_alloc | apply Kd.N_drewN | apply Kd.N_drew)); exact HO106.out) hb); replace HL107_1 := am (Kd.V_below (pV HL107_1.out) hb); replace HO116 := am (Rb_ HO116.out hb); replace HR107_1 := am (Kd.C_below (by repeat (first | (with_reducible exact HR107_1.out) | (with_reducible refine Kd.C_alloc ?_ _) | (with_reducible refine Kd.C_drewN ?_ _) | (with_reducible refine Kd.C_drew ?_) | exact HR107_1.out)) hb); replace HB := am (bs_ HB.out hb); (try clear hb); (try clear hb2); (try clear hk); (try clear hi)) | ((with_reducible refine gate_dst (N := 27) rfl ?_); (try (refine gate_guard (by rfl) ?_; dsimp only)); refine Kd.R_lit k28 _ 28 ?hg (N := 27) ?hd (xs := ([(⟨t118, t119, t120⟩ : Val), (⟨t121, t122, t123⟩ : Val)] : List (Val))) (inner := [.bool t118, .string t119, .int .i64 t120, .bool t121, .string t122, .int .i64 t123]) (ok := fun _ => True) (okp := fun _ => True) ?hr ?hp (fun _ hk => hk) trivial (Below.refl _ _) (Nat.le_refl _) (by simp) ?_; (case hd => rfl); (case hg => rfl); (case hr => first | (go_simp; done) | (go_simp; rfl)); (case hp => exact (Reps.c3 (show Kd.M k28 _ _ _ (⟨t118, t119, t120⟩ : Val) [.bool t118, .string t119, .int .i64 t120] from (k28_mkM _ _ _ (⟨t118, t119, t120⟩ : Val) )) (Reps.c3 (show Kd.M k28 _ _ _ (⟨t121, t122, t123⟩ : Val) [.bool t121, .string t122, .int .i64 t123] from (k28_mkM _ _ _ (⟨t121, t122, t123⟩ : Val) )) (Reps.none _ _)))); intro v125 w29 ho30 hb hg_ hnew_; clear hg_ hnew_; (first | rw [← Ny124.out] at ho30 | (simp only [Int.reduceToNat] at ho30; rw [← Ny124.out] at ho30)); replace HO103 := am (Rb_ HO103.out hb); replace HO106 := am (Kd.N_elder' (by (with_reducible repeat (first | apply Kd.N_alloc | apply Kd.N_drewN | apply Kd.N_drew)); exact HO106.out) (Kd.R_base ho30) hb); replace HL107_1 := am (Kd.V_elder' (pV HL107_1.out) (Kd.R_base ho30) hb); have HO126 := am (Kd.R_lower (Kd.R_new' ho30 (Kd.R_lt (pR HO116.out))) (below_size (pL HB.out))); replace HO116 := am (Kd.R_elder' (pR HO116.out) (Kd.R_base ho30) hb); replace HR107_1 := am (Kd.C_below (by repeat (first | (with_reducible exact HR107_1.out) | (with_reducible refine Kd.C_alloc ?_ _) | (with_reducible refine Kd.C_drewN ?_ _) | (with_reducible refine Kd.C_drew ?_) | exact HR107_1.out)) hb); replace HB := am (bs_ HB.out hb); clear hb ho30; obtain ⟨Ao31, co31, eo31⟩ := Kd.R_slice HO126.out; subst eo31) | (go_at_call 9; (with_reducible refine (facts_Has.calls _ _ t104 (⟨#[115, 111, 117, 114, 99, 101]⟩ : ByteArray) _ _ y124 true _ ?side1 ?side2 ?side3 ?side4 A11.out).mono ?_); (case side1 => repeat (first | exact (Kd.N_reads' HO106.out).2.2 | (with_reducible refine Kd.C_alloc ?_ _) | (with_reducible refine Kd.C_drewN ?_ _) | (with_reducible refine Kd.C_drew ?_))); (case side2 => exact (Kd.N_reads' HO106.out).2.1); (case side3 => repeat (first | exact (Kd.R_reads' HO126.out).2.2 | (with_reducible refine Kd.C_alloc ?_ _) | (with_reducible refine Kd.C_drewN ?_ _) | (with_reducible refine Kd.C_drew ?_))); (case side4 => exact (Kd.R_reads' HO126.out).2.1); rintro e w32 ⟨rfl, hb⟩; (try clear A11); replace HO103 := am (Rb_ HO103.out hb); replace HO106 := am (Kd.N_below (by (with_reducible repeat (first | apply Kd.N_alloc | apply Kd.N_drewN | apply Kd.N_drew)); exact HO106.out) hb); replace HL107_1 := am (Kd.V_below (pV HL107_1.out) hb); replace HO116 := am (Rb_ HO116.out hb); replace HO126 := am (Rb_ HO126.out hb); replace HR107_1 := am (Kd.C_below (by repeat (first | (with_reducible exact HR107_1.out) | (with_reducible refine Kd.C_alloc ?_ _) | (with_reducible refine Kd.C_drewN ?_ _) | (with_reducible refine Kd.C_drew ?_) | exact HR107_1.out)) hb); replace HB := am (bs_ HB.out hb); (try clear hb); (try clear hb2); (try clear hk); (try clear hi)) | (go_at_call 10; (with_reducible refine (lambrequinlaw21_num.calls 1 t128 t129 t130 _ A13.out).mono ?_); rintro e w33 ⟨rfl, hb⟩; (try clear A13); replace HO103 := am (Rb_ HO103.out hb); replace HO106 := am (Kd.N_below (by (with_reducible repeat (first | apply Kd.N_alloc | apply Kd.N_drewN | apply Kd.N_drew)); exact HO106.out) hb); replace HL107_1 := am (Kd.V_below (pV HL107_1.out) hb); replace HO116 := am (Rb_ HO116.out hb); replace HO126 := am (Rb_ HO126.out hb); replace HR107_1 := am (Kd.C_below (by repeat (first | (with_reducible exact HR107_1.out) | (with_reducible refine Kd.C_alloc ?_ _) | (with_reducible refine Kd.C_drewN ?_ _) | (with_reducible refine Kd.C_drew ?_) | exact HR107_1.out)) hb); replace HB := am (bs_ HB.out hb); (try clear hb); (try clear hb2); (try clear hk); (try clear hi)) | (go_at_call 10; (with_reducible refine (lambrequinlaw21_num.calls 0 t131 t132 t133 _ A14.out).mono ?_); rintro e w34 ⟨rfl, hb⟩; (try clear A14); replace HO103 := am (Rb_ HO103.out hb); replace HO106 := am (Kd.N_below (by (with_reducible repeat (first | apply Kd.N_alloc | apply Kd.N_drewN | apply Kd.N_drew)); exact HO106.out) hb); replace HL107_1 := am (Kd.V_below (pV HL107_1.out) hb); replace HO116 := am (Rb_ HO116.out hb); replace HO126 := am (Rb_ HO126.out hb); replace HR107_1 := am (Kd.C_below (by repeat (first | (with_reducible exact HR107_1.out) | (with_reducible refine Kd.C_alloc ?_ _) | (with_reducible refine Kd.C_drewN ?_ _) | (with_reducible refine Kd.C_drew ?_) | exact HR107_1.out)) hb); replace HB := am (bs_ HB.out hb); (try clear hb); (try clear hb2); (try clear hk); (try clear hi)) | ((with_reducible refine gate_dst (N := 34) rfl ?_); (try (refine gate_guard (by rfl) ?_; dsimp only)); refine Kd.R_lit k28 _ 28 ?hg (N := 34) ?hd (xs := ([(⟨t128, t129, t130⟩ : Val), (⟨t131, t132, t133⟩ : Val)] : List (Val))) (inner := [.bool t128, .string t129, .int .i64 t130, .bool t131, .string t132, .int .i64 t133]) (ok := fun _ => True) (okp := fun _ => True) ?hr ?hp (fun _ hk => hk) trivial (Below.refl _ _) (Nat.le_refl _) (by simp) ?_; (case hd => rfl); (case hg => rfl); (case hr => first | (go_simp; done) | (go_simp; rfl)); (case hp => exact (Reps.c3 (show Kd.M k28 _ _ _ (⟨t128, t129, t130⟩ : Val) [.bool t128, .string t129, .int .i64 t130] from (k28_mkM _ _ _ (⟨t128, t129, t130⟩ : Val) )) (Reps.c3 (show Kd.M k28 _ _ _ (⟨t131, t132, t133⟩ : Val) [.bool t131, .string t132, .int .i64 t133] from (k28_mkM _ _ _ (⟨t131, t132, t133⟩ : Val) )) (Reps.none _ _)))); intro v135 w35 ho36 hb hg_ hnew_; clear hg_ hnew_; (first | rw [← Ny134.out] at ho36 | (simp only [Int.reduceToNat] at ho36; rw [← Ny134.out] at ho36)); replace HO103 := am (Rb_ HO103.out hb); replace HO106 := am (Kd.N_elder' (by (with_reducible repeat (first | apply Kd.N_alloc | apply Kd.N_drewN | apply Kd.N_drew)); exact HO106.out) (Kd.R_base ho36) hb); replace HL107_1 := am (Kd.V_elder' (pV HL107_1.out) (Kd.R_base ho36) hb); have HO136 := am (Kd.R_lower (Kd.R_new' (Kd.R_new' ho36 (Kd.R_lt (pR HO116.out))) (Kd.R_lt (pR HO126.out))) (below_size (pL HB.out))); replace HO116 := am (Kd.R_elder' (pR HO116.out) (Kd.R_base ho36) hb); replace HO126 := am (Kd.R_elder' (pR HO126.out) (Kd.R_base ho36) hb); replace HR107_1 := am (Kd.C_below (by repeat (first | (with_reducible exact HR107_1.out) | (with_reducible refine Kd.C_alloc ?_ _) | (with_reducible refine Kd.C_drewN ?_ _) | (with_reducible refine Kd.C_drew ?_) | exact HR107_1.out)) hb); replace HB := am (bs_ HB.out hb); clear hb ho36; obtain ⟨Ao37, co37, eo37⟩ := Kd.R_slice HO136.out; subst eo37) | (go_at_call 9; (with_reducible refine (facts_Has.calls _ _ t104 (⟨#[110, 101, 120, 116]⟩ : ByteArray) _ _ y134 t137 _ ?side1 ?side2 ?side3 ?side4 A15.out).mono ?_); (case side1 => repeat (first | exact (Kd.N_reads' HO106.out).2.2 | (with_reducible refine Kd.C_alloc ?_ _) | (with_reducible refine Kd.C_drewN ?_ _) | (with_reducible refine Kd.C_drew ?_))); (case side2 => exact (Kd.N_reads' HO106.out).2.1); (case side3 => repeat (first | exact (Kd.R_reads' HO136.out).2.2 | (with_reducible refine Kd.C_alloc ?_ _) | (with_reducible refine Kd.C_drewN ?_ _) | (with_reducible refine Kd.C_drew ?_))); (case side4 => exact (Kd.R_reads' HO136.out).2.1); rintro e w38 ⟨rfl, hb⟩; (try clear A15); replace HO103 := am (Rb_ HO103.out hb); replace HO106 := am (Kd.N_below (by (with_reducible repeat (first | apply Kd.N_alloc | apply Kd.N_drewN | apply Kd.N_drew)); exact HO106.out) hb); replace HL107_1 := am (Kd.V_below (pV HL107_1.out) hb); replace HO116 := am (Rb_ HO116.out hb); replace HO126 := am (Rb_ HO126.out hb); replace HO136 := am (Rb_ HO136.out hb); replace HR107_1 := am (Kd.C_below (by repeat (first | (with_reducible exact HR107_1.out) | (with_reducible refine Kd.C_alloc ?_ _) | (with_reducible refine Kd.C_drewN ?_ _) | (with_reducible refine Kd.C_drew ?_) | exact HR107_1.out)) hb); replace HB := am (bs_ HB.out hb); (try clear hb); (try clear hb2); (try clear hk); (try clear hi)))
      go_ret
      exact ⟨by first | rfl | (simp [errW_none, errW_some] <;> rfl) | (simp [*, errW_none, errW_some] <;> rfl), pL HB.out⟩
     ·replace c12 := Bool.eq_false_iff.mpr c12
      subst c12
      have H1 : (some false) = some r := by rw [if_neg (show ¬ (false = true) by decide)] at H; exact H
      clear H
      have H := H1
      clear H1
      obtain rfl := Option.some.inj H
      go_enter Try.func7, Try.ntmps7
      go_wp2_with (first | ((with_reducible refine gate_dst (N := 4) rfl ?_); (try (refine gate_guard (by rfl) ?_; dsimp only)); refine Kd.R_lit k33 _ 33 ?hg (N := 4) ?hd (xs := ([(⟨4, (⟨#[120]⟩ : ByteArray), (⟨#[]⟩ : ByteArray), (⟨#[]⟩ : ByteArray), (⟨#[]⟩ : ByteArray), 0, 0, 0⟩ : Stmt), (⟨9, (⟨#[]⟩ : ByteArray), (⟨#[]⟩ : ByteArray), (⟨#[]⟩ : ByteArray), (⟨#[]⟩ : ByteArray), 0, 0, 0⟩ : Stmt)] : List (Stmt))) (inner := [.int .i64 4, .string (⟨#[120]⟩ : ByteArray), .string (⟨#[]⟩ : ByteArray), .string (⟨#[]⟩ : ByteArray), .string (⟨#[]⟩ : ByteArray), .int .i64 0, .int .i64 0, .int .i64 0, .int .i64 9, .string (⟨#[]⟩ : ByteArray), .string (⟨#[]⟩ : ByteArray), .string (⟨#[]⟩ : ByteArray), .string (⟨#[]⟩ : ByteArray), .int .i64 0, .int .i64 0, .int .i64 0]) (ok := fun _ => True) (okp := fun _ => True) ?hr ?hp (fun _ hk => hk) trivial (Below.refl _ _) (Nat.le_refl _) (by simp) ?_; (case hd => rfl); (case hg => rfl); (case hr => first | (go_simp; done) | (go_simp; rfl)); (case hp => exact (Reps.c8 (show Kd.M k33 _ _ _ (⟨4, (⟨#[120]⟩ : ByteArray), (⟨#[]⟩ : ByteArray), (⟨#[]⟩ : ByteArray), (⟨#[]⟩ : ByteArray), 0, 0, 0⟩ : Stmt) [.int .i64 4, .string (⟨#[120]⟩ : ByteArray), .string (⟨#[]⟩ : ByteArray), .string (⟨#[]⟩ : ByteArray), .string (⟨#[]⟩ : ByteArray), .int .i64 0, .int .i64 0, .int .i64 0] from (k33_mkM _ _ _ (⟨4, (⟨#[120]⟩ : ByteArray), (⟨#[]⟩ : ByteArray), (⟨#[]⟩ : ByteArray), (⟨#[]⟩ : ByteArray), 0, 0, 0⟩ : Stmt) )) (Reps.c8 (show Kd.M k33 _ _ _ (⟨9, (⟨#[]⟩ : ByteArray), (⟨#[]⟩ : ByteArray), (⟨#[]⟩ : ByteArray), (⟨#[]⟩ : ByteArray), 0, 0, 0⟩ : Stmt) [.int .i64 9, .string (⟨#[]⟩ : ByteArray), .string (⟨#[]⟩ : ByteArray), .string (⟨#[]⟩ : ByteArray), .string (⟨#[]⟩ : ByteArray), .int .i64 0, .int .i64 0, .int .i64 0] from (k33_mkM _ _ _ (⟨9, (⟨#[]⟩ : ByteArray), (⟨#[]⟩ : ByteArray), (⟨#[]⟩ : ByteArray), (⟨#[]⟩ : ByteArray), 0, 0, 0⟩ : Stmt) )) (Reps.none _ _)))); intro v102 w39 ho40 hb hg_ hnew_; clear hg_ hnew_; (first | rw [← Ny101.out] at ho40 | (simp only [Int.reduceToNat] at ho40; rw [← Ny101.out] at ho40)); have HO103 := am (Kd.R_lower ho40 (below_size (pL HB.out))); replace HB := am (bs_ HB.out hb); clear hb ho40; obtain ⟨Ao41, co41, eo41⟩ := Kd.R_slice HO103.out; subst eo41) | ((with_reducible refine gate_callee (f := 8) rfl ?_); refine goesL_ (some 5) rfl rfl Try.func8 (by kernel_rfl) rfl #[.slice Ao41 y101.length co41] rfl (by (try simp only [List.map_toArray, List.map_cons, List.map_nil]); first | done | rfl | (simp only [List.length_drop, List.length_take]; rfl)) ?_; (with_reducible refine (facts_Of.calls k _ _ y101 t104 _ ?side1 ?side2 A1.out).mono ?_); (case side1 => repeat (first | exact (Kd.R_reads' HO103.out).2.2 | (with_reducible refine Kd.C_alloc ?_ _) | (with_reducible refine Kd.C_drewN ?_ _) | (with_reducible refine Kd.C_drew ?_))); (case side2 => exact (Kd.R_reads' HO103.out).2.1); rintro e w42 ⟨v105, rfl, ho0, hb⟩; refine ⟨_, rfl, ?_⟩; have HO106 := am (Kd.N_lower (Kd.N_mono (ok' := fun k_ => some k_ ≠ (.slice Ao41 y101.length co41 : Value).ownBlock) ho0 (fun k_ hk_ => (Kd.fresh' (Kd.R_lt (pR HO103.out)) k_ hk_))) (below_size (pL HB.out))); replace HO103 := am (Rb_ HO103.out hb); replace HB := am (bs_ HB.out hb); (try clear hb); (try clear hb2); (try clear hk); (try clear hi); (try clear ho0); obtain ⟨Ao43, co43, eo43⟩ := Kd.N_slice HO106.out; subst eo43; have p107 : 0 ≤ (0 : Int) := (by omega); have q107 : 0 < (t104.length : Int) := dt_; obtain ⟨ad107, A107_1, c107_1, e107, hx107_0, hx107_1, hl107_1, hi107_1⟩ := at_T44 (Kd.N_reads' HO106.out).2.2 0 p107 q107; cases e107; obtain ⟨ce107, hce107, hMe107, hcc107⟩ := Kd.N_get HO106.out z44 0 p107 (by first | exact q107 | exact dt_ | (have e_ := (Kd.N_reads' HO106.out).1; omega)); obtain ⟨ua107_1, uc107_1, rfl, ul107_1, ge107_1⟩ := k44_openF hMe107; have hv107_1 := hcc107 1 _ rfl; rw [add_field _ _ 1 (by omega)] at hv107_1; replace hv107_1 := Option.some.inj (hv107_1.symm.trans hx107_1); injection hv107_1 with hva_ hvn_ hvc_; rw [hva_] at ge107_1; rw [hvc_] at ul107_1; have HL107_1 := am (show Kd.V k28 28 _ w.heap.size _ _ ((rd_T44 t104 0).args) from Kd.V_mk ul107_1 ge107_1); clear hva_ hvn_ hvc_ ge107_1 ul107_1; clear hcc107 hce107; have qi107 : (0 < t104.length) = True := eq_true (by omega); (try rw [show ((0 : Int)).toNat = 0 from rfl] at hx107_0); (try rw [show 0 * 2 = 0 from rfl] at hx107_0); (try rw [Addr.add_zero'] at hx107_0); (try rw [show ((0 : Int)).toNat = 0 from rfl] at hx107_1); (try rw [show 0 * 2 = 0 from rfl] at hx107_1); (try rw [Addr.add_zero'] at hx107_1); have HR107_1 := am hi107_1; have HC107_1 := am hl107_1; clear hi107_1 hl107_1; replace p107 := eq_true p107; replace q107 := eq_true q107) | (go_at_call 10; (with_reducible refine (lambrequinlaw21_num.calls 0 t108 t109 t110 _ A5.out).mono ?_); rintro e w44 ⟨rfl, hb⟩; (try clear A5); replace HO103 := am (Rb_ HO103.out hb); replace HO106 := am (Kd.N_below (by (with_reducible repeat (first | apply Kd.N_alloc | apply Kd.N_drewN | apply Kd.N_drew)); exact HO106.out) hb); replace HL107_1 := am (Kd.V_below (pV HL107_1.out) hb); replace HR107_1 := am (Kd.C_below (by repeat (first | (with_reducible exact HR107_1.out) | (with_reducible refine Kd.C_alloc ?_ _) | (with_reducible refine Kd.C_drewN ?_ _) | (with_reducible refine Kd.C_drew ?_) | exact HR107_1.out)) hb); replace HB := am (bs_ HB.out hb); (try clear hb); (try clear hb2); (try clear hk); (try clear hi)) | (go_at_call 10; (with_reducible refine (lambrequinlaw21_num.calls 1 t111 t112 t113 _ A6.out).mono ?_); rintro e w45 ⟨rfl, hb⟩; (try clear A6); replace HO103 := am (Rb_ HO103.out hb); replace HO106 := am (Kd.N_below (by (with_reducible repeat (first | apply Kd.N_alloc | apply Kd.N_drewN | apply Kd.N_drew)); exact HO106.out) hb); replace HL107_1 := am (Kd.V_below (pV HL107_1.out) hb); replace HR107_1 := am (Kd.C_below (by repeat (first | (with_reducible exact HR107_1.out) | (with_reducible refine Kd.C_alloc ?_ _) | (with_reducible refine Kd.C_drewN ?_ _) | (with_reducible refine Kd.C_drew ?_) | exact HR107_1.out)) hb); replace HB := am (bs_ HB.out hb); (try clear hb); (try clear hb2); (try clear hk); (try clear hi)) | ((with_reducible refine gate_dst (N := 20) rfl ?_); (try (refine gate_guard (by rfl) ?_; dsimp only)); refine Kd.R_lit k28 _ 28 ?hg (N := 20) ?hd (xs := ([(⟨t108, t109, t110⟩ : Val), (⟨t111, t112, t113⟩ : Val)] : List (Val))) (inner := [.bool t108, .string t109, .int .i64 t110, .bool t111, .string t112, .int .i64 t113]) (ok := fun _ => True) (okp := fun _ => True) ?hr ?hp (fun _ hk => hk) trivial (Below.refl _ _) (Nat.le_refl _) (by simp) ?_; (case hd => rfl); (case hg => rfl); (case hr => first | (go_simp; done) | (go_simp; rfl)); (case hp => exact (Reps.c3 (show Kd.M k28 _ _ _ (⟨t108, t109, t110⟩ : Val) [.bool t108, .string t109, .int .i64 t110] from (k28_mkM _ _ _ (⟨t108, t109, t110⟩ : Val) )) (Reps.c3 (show Kd.M k28 _ _ _ (⟨t111, t112, t113⟩ : Val) [.bool t111, .string t112, .int .i64 t113] from (k28_mkM _ _ _ (⟨t111, t112, t113⟩ : Val) )) (Reps.none _ _)))); intro v115 w46 ho47 hb hg_ hnew_; clear hg_ hnew_; (first | rw [← Ny114.out] at ho47 | (simp only [Int.reduceToNat] at ho47; rw [← Ny114.out] at ho47)); replace HO103 := am (Rb_ HO103.out hb); replace HO106 := am (Kd.N_elder' (by (with_reducible repeat (first | apply Kd.N_alloc | apply Kd.N_drewN | apply Kd.N_drew)); exact HO106.out) (Kd.R_base ho47) hb); replace HL107_1 := am (Kd.V_elder' (pV HL107_1.out) (Kd.R_base ho47) hb); have HO116 := am (Kd.R_lower ho47 (below_size (pL HB.out))); replace HR107_1 := am (Kd.C_below (by repeat (first | (with_reducible exact HR107_1.out) | (with_reducible refine Kd.C_alloc ?_ _) | (with_reducible refine Kd.C_drewN ?_ _) | (with_reducible refine Kd.C_drew ?_) | exact HR107_1.out)) hb); replace HB := am (bs_ HB.out hb); clear hb ho47; obtain ⟨Ao48, co48, eo48⟩ := Kd.R_slice HO116.out; subst eo48) | (go_at_call 9; (with_reducible refine (facts_Has.calls _ _ t104 (⟨#[110, 101, 120, 116]⟩ : ByteArray) _ _ y114 true _ ?side1 ?side2 ?side3 ?side4 A7.out).mono ?_); (case side1 => repeat (first | exact (Kd.N_reads' HO106.out).2.2 | (with_reducible refine Kd.C_alloc ?_ _) | (with_reducible refine Kd.C_drewN ?_ _) | (with_reducible refine Kd.C_drew ?_))); (case side2 => exact (Kd.N_reads' HO106.out).2.1); (case side3 => repeat (first | exact (Kd.R_reads' HO116.out).2.2 | (with_reducible refine Kd.C_alloc ?_ _) | (with_reducible refine Kd.C_drewN ?_ _) | (with_reducible refine Kd.C_drew ?_))); (case side4 => exact (Kd.R_reads' HO116.out).2.1); rintro e w49 ⟨rfl, hb⟩; (try clear A7); replace HO103 := am (Rb_ HO103.out hb); replace HO106 := am (Kd.N_below (by (with_reducible repeat (first | apply Kd.N_alloc | apply Kd.N_drewN | apply Kd.N_drew)); exact HO106.out) hb); replace HL107_1 := am (Kd.V_below (pV HL107_1.out) hb); replace HO116 := am (Rb_ HO116.out hb); replace HR107_1 := am (Kd.C_below (by repeat (first | (with_reducible exact HR107_1.out) | (with_reducible refine Kd.C_alloc ?_ _) | (with_reducible refine Kd.C_drewN ?_ _) | (with_reducible refine Kd.C_drew ?_) | exact HR107_1.out)) hb); replace HB := am (bs_ HB.out hb); (try clear hb); (try clear hb2); (try clear hk); (try clear hi)) | (go_at_call 10; (with_reducible refine (lambrequinlaw21_num.calls 0 t118 t119 t120 _ A9.out).mono ?_); rintro e w50 ⟨rfl, hb⟩; (try clear A9); replace HO103 := am (Rb_ HO103.out hb); replace HO106 := am (Kd.N_below (by (with_reducible repeat (first | apply Kd.N_alloc | apply Kd.N_drewN | apply Kd.N_drew)); exact HO106.out) hb); replace HL107_1 := am (Kd.V_below (pV HL107_1.out) hb); replace HO116 := am (Rb_ HO116.out hb); replace HR107_1 := am (Kd.C_below (by repeat (first | (with_reducible exact HR107_1.out) | (with_reducible refine Kd.C_alloc ?_ _) | (with_reducible refine Kd.C_drewN ?_ _) | (with_reducible refine Kd.C_drew ?_) | exact HR107_1.out)) hb); replace HB := am (bs_ HB.out hb); (try clear hb); (try clear hb2); (try clear hk); (try clear hi)) | (go_at_call 15; (with_reducible refine (lambrequinlaw21_sym.calls (⟨#[120]⟩ : ByteArray) t121 t122 t123 _ A10.out).mono ?_); rintro e w51 ⟨rfl, hb⟩; (try clear A10); replace HO103 := am (Rb_ HO103.out hb); replace HO106 := am (Kd.N_below (by (with_reducible repeat (first | apply Kd.N_alloc | apply Kd.N_drewN | apply Kd.N_drew)); exact HO106.out) hb); replace HL107_1 := am (Kd.V_below (pV HL107_1.out) hb); replace HO116 := am (Rb_ HO116.out hb); replace HR107_1 := am (Kd.C_below (by repeat (first | (with_reducible exact HR107_1.out) | (with_reducible refine Kd.C_alloc ?_ _) | (with_reducible refine Kd.C_drewN ?_ _) | (with_reducible refine Kd.C_drew ?_) | exact HR107_1.out)) hb); replace HB := am (bs_ HB.out hb); (try clear hb); (try clear hb2); (try clear hk); (try clear hi)) | ((with_reducible refine gate_dst (N := 27) rfl ?_); (try (refine gate_guard (by rfl) ?_; dsimp only)); refine Kd.R_lit k28 _ 28 ?hg (N := 27) ?hd (xs := ([(⟨t118, t119, t120⟩ : Val), (⟨t121, t122, t123⟩ : Val)] : List (Val))) (inner := [.bool t118, .string t119, .int .i64 t120, .bool t121, .string t122, .int .i64 t123]) (ok := fun _ => True) (okp := fun _ => True) ?hr ?hp (fun _ hk => hk) trivial (Below.refl _ _) (Nat.le_refl _) (by simp) ?_; (case hd => rfl); (case hg => rfl); (case hr => first | (go_simp; done) | (go_simp; rfl)); (case hp => exact (Reps.c3 (show Kd.M k28 _ _ _ (⟨t118, t119, t120⟩ : Val) [.bool t118, .string t119, .int .i64 t120] from (k28_mkM _ _ _ (⟨t118, t119, t120⟩ : Val) )) (Reps.c3 (show Kd.M k28 _ _ _ (⟨t121, t122, t123⟩ : Val) [.bool t121, .string t122, .int .i64 t123] from (k28_mkM _ _ _ (⟨t121, t122, t123⟩ : Val) )) (Reps.none _ _)))); intro v125 w52 ho53 hb hg_ hnew_; clear hg_ hnew_; (first | rw [← Ny124.out] at ho53 | (simp only [Int.reduceToNat] at ho53; rw [← Ny124.out] at ho53)); replace HO103 := am (Rb_ HO103.out hb); replace HO106 := am (Kd.N_elder' (by (with_reducible repeat (first | apply Kd.N_alloc | apply Kd.N_drewN | apply Kd.N_drew)); exact HO106.out) (Kd.R_base ho53) hb); replace HL107_1 := am (Kd.V_elder' (pV HL107_1.out) (Kd.R_base ho53) hb); have HO126 := am (Kd.R_lower (Kd.R_new' ho53 (Kd.R_lt (pR HO116.out))) (below_size (pL HB.out))); replace HO116 := am (Kd.R_elder' (pR HO116.out) (Kd.R_base ho53) hb); replace HR107_1 := am (Kd.C_below (by repeat (first | (with_reducible exact HR107_1.out) | (with_reducible refine Kd.C_alloc ?_ _) | (with_reducible refine Kd.C_drewN ?_ _) | (with_reducible refine Kd.C_drew ?_) | exact HR107_1.out)) hb); replace HB := am (bs_ HB.out hb); clear hb ho53; obtain ⟨Ao54, co54, eo54⟩ := Kd.R_slice HO126.out; subst eo54) | (go_at_call 9; (with_reducible refine (facts_Has.calls _ _ t104 (⟨#[115, 111, 117, 114, 99, 101]⟩ : ByteArray) _ _ y124 false _ ?side1 ?side2 ?side3 ?side4 A11.out).mono ?_); (case side1 => repeat (first | exact (Kd.N_reads' HO106.out).2.2 | (with_reducible refine Kd.C_alloc ?_ _) | (with_reducible refine Kd.C_drewN ?_ _) | (with_reducible refine Kd.C_drew ?_))); (case side2 => exact (Kd.N_reads' HO106.out).2.1); (case side3 => repeat (first | exact (Kd.R_reads' HO126.out).2.2 | (with_reducible refine Kd.C_alloc ?_ _) | (with_reducible refine Kd.C_drewN ?_ _) | (with_reducible refine Kd.C_drew ?_))); (case side4 => exact (Kd.R_reads' HO126.out).2.1); rintro e w55 ⟨rfl, hb⟩; (try clear A11); replace HO103 := am (Rb_ HO103.out hb); replace HO106 := am (Kd.N_below (by (with_reducible repeat (first | apply Kd.N_alloc | apply Kd.N_drewN | apply Kd.N_drew)); exact HO106.out) hb); replace HL107_1 := am (Kd.V_below (pV HL107_1.out) hb); replace HO116 := am (Rb_ HO116.out hb); replace HO126 := am (Rb_ HO126.out hb); replace HR107_1 := am (Kd.C_below (by repeat (first | (with_reducible exact HR107_1.out) | (with_reducible refine Kd.C_alloc ?_ _) | (with_reducible refine Kd.C_drewN ?_ _) | (with_reducible refine Kd.C_drew ?_) | exact HR107_1.out)) hb); replace HB := am (bs_ HB.out hb); (try clear hb); (try clear hb2); (try clear hk); (try clear hi)))
      go_ret
      exact ⟨by first | rfl | (simp [errW_none, errW_some] <;> rfl) | (simp [*, errW_none, errW_some] <;> rfl), pL HB.out⟩
    ·replace c8 := Bool.eq_false_iff.mpr c8
     subst c8
     have H1 : (some false) = some r := by rw [if_neg (show ¬ (false = true) by decide)] at H; exact H
     clear H
     have H := H1
     clear H1
     obtain rfl := Option.some.inj H
     go_enter Try.func7, Try.ntmps7
     go_wp2_with (first | ((with_reducible refine gate_dst (N := 4) rfl ?_); (try (refine gate_guard (by rfl) ?_; dsimp only)); refine Kd.R_lit k33 _ 33 ?hg (N := 4) ?hd (xs := ([(⟨4, (⟨#[120]⟩ : ByteArray), (⟨#[]⟩ : ByteArray), (⟨#[]⟩ : ByteArray), (⟨#[]⟩ : ByteArray), 0, 0, 0⟩ : Stmt), (⟨9, (⟨#[]⟩ : ByteArray), (⟨#[]⟩ : ByteArray), (⟨#[]⟩ : ByteArray), (⟨#[]⟩ : ByteArray), 0, 0, 0⟩ : Stmt)] : List (Stmt))) (inner := [.int .i64 4, .string (⟨#[120]⟩ : ByteArray), .string (⟨#[]⟩ : ByteArray), .string (⟨#[]⟩ : ByteArray), .string (⟨#[]⟩ : ByteArray), .int .i64 0, .int .i64 0, .int .i64 0, .int .i64 9, .string (⟨#[]⟩ : ByteArray), .string (⟨#[]⟩ : ByteArray), .string (⟨#[]⟩ : ByteArray), .string (⟨#[]⟩ : ByteArray), .int .i64 0, .int .i64 0, .int .i64 0]) (ok := fun _ => True) (okp := fun _ => True) ?hr ?hp (fun _ hk => hk) trivial (Below.refl _ _) (Nat.le_refl _) (by simp) ?_; (case hd => rfl); (case hg => rfl); (case hr => first | (go_simp; done) | (go_simp; rfl)); (case hp => exact (Reps.c8 (show Kd.M k33 _ _ _ (⟨4, (⟨#[120]⟩ : ByteArray), (⟨#[]⟩ : ByteArray), (⟨#[]⟩ : ByteArray), (⟨#[]⟩ : ByteArray), 0, 0, 0⟩ : Stmt) [.int .i64 4, .string (⟨#[120]⟩ : ByteArray), .string (⟨#[]⟩ : ByteArray), .string (⟨#[]⟩ : ByteArray), .string (⟨#[]⟩ : ByteArray), .int .i64 0, .int .i64 0, .int .i64 0] from (k33_mkM _ _ _ (⟨4, (⟨#[120]⟩ : ByteArray), (⟨#[]⟩ : ByteArray), (⟨#[]⟩ : ByteArray), (⟨#[]⟩ : ByteArray), 0, 0, 0⟩ : Stmt) )) (Reps.c8 (show Kd.M k33 _ _ _ (⟨9, (⟨#[]⟩ : ByteArray), (⟨#[]⟩ : ByteArray), (⟨#[]⟩ : ByteArray), (⟨#[]⟩ : ByteArray), 0, 0, 0⟩ : Stmt) [.int .i64 9, .string (⟨#[]⟩ : ByteArray), .string (⟨#[]⟩ : ByteArray), .string (⟨#[]⟩ : ByteArray), .string (⟨#[]⟩ : ByteArray), .int .i64 0, .int .i64 0, .int .i64 0] from (k33_mkM _ _ _ (⟨9, (⟨#[]⟩ : ByteArray), (⟨#[]⟩ : ByteArray), (⟨#[]⟩ : ByteArray), (⟨#[]⟩ : ByteArray), 0, 0, 0⟩ : Stmt) )) (Reps.none _ _)))); intro v102 w56 ho57 hb hg_ hnew_; clear hg_ hnew_; (first | rw [← Ny101.out] at ho57 | (simp only [Int.reduceToNat] at ho57; rw [← Ny101.out] at ho57)); have HO103 := am (Kd.R_lower ho57 (below_size (pL HB.out))); replace HB := am (bs_ HB.out hb); clear hb ho57; obtain ⟨Ao58, co58, eo58⟩ := Kd.R_slice HO103.out; subst eo58) | ((with_reducible refine gate_callee (f := 8) rfl ?_); refine goesL_ (some 5) rfl rfl Try.func8 (by kernel_rfl) rfl #[.slice Ao58 y101.length co58] rfl (by (try simp only [List.map_toArray, List.map_cons, List.map_nil]); first | done | rfl | (simp only [List.length_drop, List.length_take]; rfl)) ?_; (with_reducible refine (facts_Of.calls k _ _ y101 t104 _ ?side1 ?side2 A1.out).mono ?_); (case side1 => repeat (first | exact (Kd.R_reads' HO103.out).2.2 | (with_reducible refine Kd.C_alloc ?_ _) | (with_reducible refine Kd.C_drewN ?_ _) | (with_reducible refine Kd.C_drew ?_))); (case side2 => exact (Kd.R_reads' HO103.out).2.1); rintro e w59 ⟨v105, rfl, ho0, hb⟩; refine ⟨_, rfl, ?_⟩; have HO106 := am (Kd.N_lower (Kd.N_mono (ok' := fun k_ => some k_ ≠ (.slice Ao58 y101.length co58 : Value).ownBlock) ho0 (fun k_ hk_ => (Kd.fresh' (Kd.R_lt (pR HO103.out)) k_ hk_))) (below_size (pL HB.out))); replace HO103 := am (Rb_ HO103.out hb); replace HB := am (bs_ HB.out hb); (try clear hb); (try clear hb2); (try clear hk); (try clear hi); (try clear ho0); obtain ⟨Ao60, co60, eo60⟩ := Kd.N_slice HO106.out; subst eo60; have p107 : 0 ≤ (0 : Int) := (by omega); have q107 : 0 < (t104.length : Int) := dt_; obtain ⟨ad107, A107_1, c107_1, e107, hx107_0, hx107_1, hl107_1, hi107_1⟩ := at_T44 (Kd.N_reads' HO106.out).2.2 0 p107 q107; cases e107; obtain ⟨ce107, hce107, hMe107, hcc107⟩ := Kd.N_get HO106.out z44 0 p107 (by first | exact q107 | exact dt_ | (have e_ := (Kd.N_reads' HO106.out).1; omega)); obtain ⟨ua107_1, uc107_1, rfl, ul107_1, ge107_1⟩ := k44_openF hMe107; have hv107_1 := hcc107 1 _ rfl; rw [add_field _ _ 1 (by omega)] at hv107_1; replace hv107_1 := Option.some.inj (hv107_1.symm.trans hx107_1); injection hv107_1 with hva_ hvn_ hvc_; rw [hva_] at ge107_1; rw [hvc_] at ul107_1; have HL107_1 := am (show Kd.V k28 28 _ w.heap.size _ _ ((rd_T44 t104 0).args) from Kd.V_mk ul107_1 ge107_1); clear hva_ hvn_ hvc_ ge107_1 ul107_1; clear hcc107 hce107; have qi107 : (0 < t104.length) = True := eq_true (by omega); (try rw [show ((0 : Int)).toNat = 0 from rfl] at hx107_0); (try rw [show 0 * 2 = 0 from rfl] at hx107_0); (try rw [Addr.add_zero'] at hx107_0); (try rw [show ((0 : Int)).toNat = 0 from rfl] at hx107_1); (try rw [show 0 * 2 = 0 from rfl] at hx107_1); (try rw [Addr.add_zero'] at hx107_1); have HR107_1 := am hi107_1; have HC107_1 := am hl107_1; clear hi107_1 hl107_1; replace p107 := eq_true p107; replace q107 := eq_true q107) | (go_at_call 10; (with_reducible refine (lambrequinlaw21_num.calls 0 t108 t109 t110 _ A5.out).mono ?_); rintro e w61 ⟨rfl, hb⟩; (try clear A5); replace HO103 := am (Rb_ HO103.out hb); replace HO106 := am (Kd.N_below (by (with_reducible repeat (first | apply Kd.N_alloc | apply Kd.N_drewN | apply Kd.N_drew)); exact HO106.out) hb); replace HL107_1 := am (Kd.V_below (pV HL107_1.out) hb); replace HR107_1 := am (Kd.C_below (by repeat (first | (with_reducible exact HR107_1.out) | (with_reducible refine Kd.C_alloc ?_ _) | (with_reducible refine Kd.C_drewN ?_ _) | (with_reducible refine Kd.C_drew ?_) | exact HR107_1.out)) hb); replace HB := am (bs_ HB.out hb); (try clear hb); (try clear hb2); (try clear hk); (try clear hi)) | (go_at_call 10; (with_reducible refine (lambrequinlaw21_num.calls 1 t111 t112 t113 _ A6.out).mono ?_); rintro e w62 ⟨rfl, hb⟩; (try clear A6); replace HO103 := am (Rb_ HO103.out hb); replace HO106 := am (Kd.N_below (by (with_reducible repeat (first | apply Kd.N_alloc | apply Kd.N_drewN | apply Kd.N_drew)); exact HO106.out) hb); replace HL107_1 := am (Kd.V_below (pV HL107_1.out) hb); replace HR107_1 := am (Kd.C_below (by repeat (first | (with_reducible exact HR107_1.out) | (with_reducible refine Kd.C_alloc ?_ _) | (with_reducible refine Kd.C_drewN ?_ _) | (with_reducible refine Kd.C_drew ?_) | exact HR107_1.out)) hb); replace HB := am (bs_ HB.out hb); (try clear hb); (try clear hb2); (try clear hk); (try clear hi)) | ((with_reducible refine gate_dst (N := 20) rfl ?_); (try (refine gate_guard (by rfl) ?_; dsimp only)); refine Kd.R_lit k28 _ 28 ?hg (N := 20) ?hd (xs := ([(⟨t108, t109, t110⟩ : Val), (⟨t111, t112, t113⟩ : Val)] : List (Val))) (inner := [.bool t108, .string t109, .int .i64 t110, .bool t111, .string t112, .int .i64 t113]) (ok := fun _ => True) (okp := fun _ => True) ?hr ?hp (fun _ hk => hk) trivial (Below.refl _ _) (Nat.le_refl _) (by simp) ?_; (case hd => rfl); (case hg => rfl); (case hr => first | (go_simp; done) | (go_simp; rfl)); (case hp => exact (Reps.c3 (show Kd.M k28 _ _ _ (⟨t108, t109, t110⟩ : Val) [.bool t108, .string t109, .int .i64 t110] from (k28_mkM _ _ _ (⟨t108, t109, t110⟩ : Val) )) (Reps.c3 (show Kd.M k28 _ _ _ (⟨t111, t112, t113⟩ : Val) [.bool t111, .string t112, .int .i64 t113] from (k28_mkM _ _ _ (⟨t111, t112, t113⟩ : Val) )) (Reps.none _ _)))); intro v115 w63 ho64 hb hg_ hnew_; clear hg_ hnew_; (first | rw [← Ny114.out] at ho64 | (simp only [Int.reduceToNat] at ho64; rw [← Ny114.out] at ho64)); replace HO103 := am (Rb_ HO103.out hb); replace HO106 := am (Kd.N_elder' (by (with_reducible repeat (first | apply Kd.N_alloc | apply Kd.N_drewN | apply Kd.N_drew)); exact HO106.out) (Kd.R_base ho64) hb); replace HL107_1 := am (Kd.V_elder' (pV HL107_1.out) (Kd.R_base ho64) hb); have HO116 := am (Kd.R_lower ho64 (below_size (pL HB.out))); replace HR107_1 := am (Kd.C_below (by repeat (first | (with_reducible exact HR107_1.out) | (with_reducible refine Kd.C_alloc ?_ _) | (with_reducible refine Kd.C_drewN ?_ _) | (with_reducible refine Kd.C_drew ?_) | exact HR107_1.out)) hb); replace HB := am (bs_ HB.out hb); clear hb ho64; obtain ⟨Ao65, co65, eo65⟩ := Kd.R_slice HO116.out; subst eo65) | (go_at_call 9; (with_reducible refine (facts_Has.calls _ _ t104 (⟨#[110, 101, 120, 116]⟩ : ByteArray) _ _ y114 false _ ?side1 ?side2 ?side3 ?side4 A7.out).mono ?_); (case side1 => repeat (first | exact (Kd.N_reads' HO106.out).2.2 | (with_reducible refine Kd.C_alloc ?_ _) | (with_reducible refine Kd.C_drewN ?_ _) | (with_reducible refine Kd.C_drew ?_))); (case side2 => exact (Kd.N_reads' HO106.out).2.1); (case side3 => repeat (first | exact (Kd.R_reads' HO116.out).2.2 | (with_reducible refine Kd.C_alloc ?_ _) | (with_reducible refine Kd.C_drewN ?_ _) | (with_reducible refine Kd.C_drew ?_))); (case side4 => exact (Kd.R_reads' HO116.out).2.1); rintro e w66 ⟨rfl, hb⟩; (try clear A7); replace HO103 := am (Rb_ HO103.out hb); replace HO106 := am (Kd.N_below (by (with_reducible repeat (first | apply Kd.N_alloc | apply Kd.N_drewN | apply Kd.N_drew)); exact HO106.out) hb); replace HL107_1 := am (Kd.V_below (pV HL107_1.out) hb); replace HO116 := am (Rb_ HO116.out hb); replace HR107_1 := am (Kd.C_below (by repeat (first | (with_reducible exact HR107_1.out) | (with_reducible refine Kd.C_alloc ?_ _) | (with_reducible refine Kd.C_drewN ?_ _) | (with_reducible refine Kd.C_drew ?_) | exact HR107_1.out)) hb); replace HB := am (bs_ HB.out hb); (try clear hb); (try clear hb2); (try clear hk); (try clear hi)))
     go_ret
     exact ⟨by first | rfl | (simp [errW_none, errW_some] <;> rfl) | (simp [*, errW_none, errW_some] <;> rfl), pL HB.out⟩
   ·rw [if_neg c4] at H
    have c4b0 : (((rd_T44 t104 0).pred).toList == ([100, 101, 102] : List UInt8)) = false := beq_eq_false_iff_ne.mpr c4
    have c4b1 : (((rd_T44 t104 0).pred).toList != ([100, 101, 102] : List UInt8)) = true := bne_iff_ne.mpr c4
    obtain rfl := Option.some.inj H
    go_enter Try.func7, Try.ntmps7
    go_wp2_with (first | ((with_reducible refine gate_dst (N := 4) rfl ?_); (try (refine gate_guard (by rfl) ?_; dsimp only)); refine Kd.R_lit k33 _ 33 ?hg (N := 4) ?hd (xs := ([(⟨4, (⟨#[120]⟩ : ByteArray), (⟨#[]⟩ : ByteArray), (⟨#[]⟩ : ByteArray), (⟨#[]⟩ : ByteArray), 0, 0, 0⟩ : Stmt), (⟨9, (⟨#[]⟩ : ByteArray), (⟨#[]⟩ : ByteArray), (⟨#[]⟩ : ByteArray), (⟨#[]⟩ : ByteArray), 0, 0, 0⟩ : Stmt)] : List (Stmt))) (inner := [.int .i64 4, .string (⟨#[120]⟩ : ByteArray), .string (⟨#[]⟩ : ByteArray), .string (⟨#[]⟩ : ByteArray), .string (⟨#[]⟩ : ByteArray), .int .i64 0, .int .i64 0, .int .i64 0, .int .i64 9, .string (⟨#[]⟩ : ByteArray), .string (⟨#[]⟩ : ByteArray), .string (⟨#[]⟩ : ByteArray), .string (⟨#[]⟩ : ByteArray), .int .i64 0, .int .i64 0, .int .i64 0]) (ok := fun _ => True) (okp := fun _ => True) ?hr ?hp (fun _ hk => hk) trivial (Below.refl _ _) (Nat.le_refl _) (by simp) ?_; (case hd => rfl); (case hg => rfl); (case hr => first | (go_simp; done) | (go_simp; rfl)); (case hp => exact (Reps.c8 (show Kd.M k33 _ _ _ (⟨4, (⟨#[120]⟩ : ByteArray), (⟨#[]⟩ : ByteArray), (⟨#[]⟩ : ByteArray), (⟨#[]⟩ : ByteArray), 0, 0, 0⟩ : Stmt) [.int .i64 4, .string (⟨#[120]⟩ : ByteArray), .string (⟨#[]⟩ : ByteArray), .string (⟨#[]⟩ : ByteArray), .string (⟨#[]⟩ : ByteArray), .int .i64 0, .int .i64 0, .int .i64 0] from (k33_mkM _ _ _ (⟨4, (⟨#[120]⟩ : ByteArray), (⟨#[]⟩ : ByteArray), (⟨#[]⟩ : ByteArray), (⟨#[]⟩ : ByteArray), 0, 0, 0⟩ : Stmt) )) (Reps.c8 (show Kd.M k33 _ _ _ (⟨9, (⟨#[]⟩ : ByteArray), (⟨#[]⟩ : ByteArray), (⟨#[]⟩ : ByteArray), (⟨#[]⟩ : ByteArray), 0, 0, 0⟩ : Stmt) [.int .i64 9, .string (⟨#[]⟩ : ByteArray), .string (⟨#[]⟩ : ByteArray), .string (⟨#[]⟩ : ByteArray), .string (⟨#[]⟩ : ByteArray), .int .i64 0, .int .i64 0, .int .i64 0] from (k33_mkM _ _ _ (⟨9, (⟨#[]⟩ : ByteArray), (⟨#[]⟩ : ByteArray), (⟨#[]⟩ : ByteArray), (⟨#[]⟩ : ByteArray), 0, 0, 0⟩ : Stmt) )) (Reps.none _ _)))); intro v102 w67 ho68 hb hg_ hnew_; clear hg_ hnew_; (first | rw [← Ny101.out] at ho68 | (simp only [Int.reduceToNat] at ho68; rw [← Ny101.out] at ho68)); have HO103 := am (Kd.R_lower ho68 (below_size (pL HB.out))); replace HB := am (bs_ HB.out hb); clear hb ho68; obtain ⟨Ao69, co69, eo69⟩ := Kd.R_slice HO103.out; subst eo69) | ((with_reducible refine gate_callee (f := 8) rfl ?_); refine goesL_ (some 5) rfl rfl Try.func8 (by kernel_rfl) rfl #[.slice Ao69 y101.length co69] rfl (by (try simp only [List.map_toArray, List.map_cons, List.map_nil]); first | done | rfl | (simp only [List.length_drop, List.length_take]; rfl)) ?_; (with_reducible refine (facts_Of.calls k _ _ y101 t104 _ ?side1 ?side2 A1.out).mono ?_); (case side1 => repeat (first | exact (Kd.R_reads' HO103.out).2.2 | (with_reducible refine Kd.C_alloc ?_ _) | (with_reducible refine Kd.C_drewN ?_ _) | (with_reducible refine Kd.C_drew ?_))); (case side2 => exact (Kd.R_reads' HO103.out).2.1); rintro e w70 ⟨v105, rfl, ho0, hb⟩; refine ⟨_, rfl, ?_⟩; have HO106 := am (Kd.N_lower (Kd.N_mono (ok' := fun k_ => some k_ ≠ (.slice Ao69 y101.length co69 : Value).ownBlock) ho0 (fun k_ hk_ => (Kd.fresh' (Kd.R_lt (pR HO103.out)) k_ hk_))) (below_size (pL HB.out))); replace HO103 := am (Rb_ HO103.out hb); replace HB := am (bs_ HB.out hb); (try clear hb); (try clear hb2); (try clear hk); (try clear hi); (try clear ho0); obtain ⟨Ao71, co71, eo71⟩ := Kd.N_slice HO106.out; subst eo71; have p107 : 0 ≤ (0 : Int) := (by omega); have q107 : 0 < (t104.length : Int) := dt_; obtain ⟨ad107, A107_1, c107_1, e107, hx107_0, hx107_1, hl107_1, hi107_1⟩ := at_T44 (Kd.N_reads' HO106.out).2.2 0 p107 q107; cases e107; obtain ⟨ce107, hce107, hMe107, hcc107⟩ := Kd.N_get HO106.out z44 0 p107 (by first | exact q107 | exact dt_ | (have e_ := (Kd.N_reads' HO106.out).1; omega)); obtain ⟨ua107_1, uc107_1, rfl, ul107_1, ge107_1⟩ := k44_openF hMe107; have hv107_1 := hcc107 1 _ rfl; rw [add_field _ _ 1 (by omega)] at hv107_1; replace hv107_1 := Option.some.inj (hv107_1.symm.trans hx107_1); injection hv107_1 with hva_ hvn_ hvc_; rw [hva_] at ge107_1; rw [hvc_] at ul107_1; have HL107_1 := am (show Kd.V k28 28 _ w.heap.size _ _ ((rd_T44 t104 0).args) from Kd.V_mk ul107_1 ge107_1); clear hva_ hvn_ hvc_ ge107_1 ul107_1; clear hcc107 hce107; have qi107 : (0 < t104.length) = True := eq_true (by omega); (try rw [show ((0 : Int)).toNat = 0 from rfl] at hx107_0); (try rw [show 0 * 2 = 0 from rfl] at hx107_0); (try rw [Addr.add_zero'] at hx107_0); (try rw [show ((0 : Int)).toNat = 0 from rfl] at hx107_1); (try rw [show 0 * 2 = 0 from rfl] at hx107_1); (try rw [Addr.add_zero'] at hx107_1); have HR107_1 := am hi107_1; have HC107_1 := am hl107_1; clear hi107_1 hl107_1; replace p107 := eq_true p107; replace q107 := eq_true q107))
    go_ret
    exact ⟨by first | rfl | (simp [errW_none, errW_some] <;> rfl) | (simp [*, errW_none, errW_some] <;> rfl), pL HB.out⟩
  ·rw [if_neg c3] at H
   exact absurd H (by simp)
 ·rw [if_neg c2] at H
  have c2b0 : ((t104.length : Int) == 5) = false := beq_eq_false_iff_ne.mpr c2
  have c2b1 : ((t104.length : Int) != 5) = true := bne_iff_ne.mpr c2
  obtain rfl := Option.some.inj H
  go_enter Try.func7, Try.ntmps7
  go_wp2_with (first | ((with_reducible refine gate_dst (N := 4) rfl ?_); (try (refine gate_guard (by rfl) ?_; dsimp only)); refine Kd.R_lit k33 _ 33 ?hg (N := 4) ?hd (xs := ([(⟨4, (⟨#[120]⟩ : ByteArray), (⟨#[]⟩ : ByteArray), (⟨#[]⟩ : ByteArray), (⟨#[]⟩ : ByteArray), 0, 0, 0⟩ : Stmt), (⟨9, (⟨#[]⟩ : ByteArray), (⟨#[]⟩ : ByteArray), (⟨#[]⟩ : ByteArray), (⟨#[]⟩ : ByteArray), 0, 0, 0⟩ : Stmt)] : List (Stmt))) (inner := [.int .i64 4, .string (⟨#[120]⟩ : ByteArray), .string (⟨#[]⟩ : ByteArray), .string (⟨#[]⟩ : ByteArray), .string (⟨#[]⟩ : ByteArray), .int .i64 0, .int .i64 0, .int .i64 0, .int .i64 9, .string (⟨#[]⟩ : ByteArray), .string (⟨#[]⟩ : ByteArray), .string (⟨#[]⟩ : ByteArray), .string (⟨#[]⟩ : ByteArray), .int .i64 0, .int .i64 0, .int .i64 0]) (ok := fun _ => True) (okp := fun _ => True) ?hr ?hp (fun _ hk => hk) trivial (Below.refl _ _) (Nat.le_refl _) (by simp) ?_; (case hd => rfl); (case hg => rfl); (case hr => first | (go_simp; done) | (go_simp; rfl)); (case hp => exact (Reps.c8 (show Kd.M k33 _ _ _ (⟨4, (⟨#[120]⟩ : ByteArray), (⟨#[]⟩ : ByteArray), (⟨#[]⟩ : ByteArray), (⟨#[]⟩ : ByteArray), 0, 0, 0⟩ : Stmt) [.int .i64 4, .string (⟨#[120]⟩ : ByteArray), .string (⟨#[]⟩ : ByteArray), .string (⟨#[]⟩ : ByteArray), .string (⟨#[]⟩ : ByteArray), .int .i64 0, .int .i64 0, .int .i64 0] from (k33_mkM _ _ _ (⟨4, (⟨#[120]⟩ : ByteArray), (⟨#[]⟩ : ByteArray), (⟨#[]⟩ : ByteArray), (⟨#[]⟩ : ByteArray), 0, 0, 0⟩ : Stmt) )) (Reps.c8 (show Kd.M k33 _ _ _ (⟨9, (⟨#[]⟩ : ByteArray), (⟨#[]⟩ : ByteArray), (⟨#[]⟩ : ByteArray), (⟨#[]⟩ : ByteArray), 0, 0, 0⟩ : Stmt) [.int .i64 9, .string (⟨#[]⟩ : ByteArray), .string (⟨#[]⟩ : ByteArray), .string (⟨#[]⟩ : ByteArray), .string (⟨#[]⟩ : ByteArray), .int .i64 0, .int .i64 0, .int .i64 0] from (k33_mkM _ _ _ (⟨9, (⟨#[]⟩ : ByteArray), (⟨#[]⟩ : ByteArray), (⟨#[]⟩ : ByteArray), (⟨#[]⟩ : ByteArray), 0, 0, 0⟩ : Stmt) )) (Reps.none _ _)))); intro v102 w72 ho73 hb hg_ hnew_; clear hg_ hnew_; (first | rw [← Ny101.out] at ho73 | (simp only [Int.reduceToNat] at ho73; rw [← Ny101.out] at ho73)); have HO103 := am (Kd.R_lower ho73 (below_size (pL HB.out))); replace HB := am (bs_ HB.out hb); clear hb ho73; obtain ⟨Ao74, co74, eo74⟩ := Kd.R_slice HO103.out; subst eo74) | ((with_reducible refine gate_callee (f := 8) rfl ?_); refine goesL_ (some 5) rfl rfl Try.func8 (by kernel_rfl) rfl #[.slice Ao74 y101.length co74] rfl (by (try simp only [List.map_toArray, List.map_cons, List.map_nil]); first | done | rfl | (simp only [List.length_drop, List.length_take]; rfl)) ?_; (with_reducible refine (facts_Of.calls k _ _ y101 t104 _ ?side1 ?side2 A1.out).mono ?_); (case side1 => repeat (first | exact (Kd.R_reads' HO103.out).2.2 | (with_reducible refine Kd.C_alloc ?_ _) | (with_reducible refine Kd.C_drewN ?_ _) | (with_reducible refine Kd.C_drew ?_))); (case side2 => exact (Kd.R_reads' HO103.out).2.1); rintro e w75 ⟨v105, rfl, ho0, hb⟩; refine ⟨_, rfl, ?_⟩; have HO106 := am (Kd.N_lower (Kd.N_mono (ok' := fun k_ => some k_ ≠ (.slice Ao74 y101.length co74 : Value).ownBlock) ho0 (fun k_ hk_ => (Kd.fresh' (Kd.R_lt (pR HO103.out)) k_ hk_))) (below_size (pL HB.out))); replace HO103 := am (Rb_ HO103.out hb); replace HB := am (bs_ HB.out hb); (try clear hb); (try clear hb2); (try clear hk); (try clear hi); (try clear ho0); obtain ⟨Ao76, co76, eo76⟩ := Kd.N_slice HO106.out; subst eo76))
  go_ret
  exact ⟨by first | rfl | (simp [errW_none, errW_some] <;> rfl) | (simp [*, errW_none, errW_some] <;> rfl), pL HB.out⟩
end Go.Proofs.Ytoekfmdcplphmaa.H
/- the document's example holds -/
namespace Go.Proofs.Ytoekfmdcplphmaa.H
open Go.RowKit Go.Proofs.YtoekfmdcplphmaaW.PrintWords
theorem HasEx {p : ByteArray} {a : List Val} {b : Bool} (hb : bareF ⟨p, a⟩ = true) (h : b = true ↔ (⟨p, a⟩ : Fact) ∈ factsL ex21) : facts_Has.f exF p a = some b := by
  rw [← ex_of]
  exact HasOf hb h
theorem shown21_ev : Ev (fun k => lambrequinlaw21_shown.f k) true := by
  unfold lambrequinlaw21_shown.f
  refine Ev.bind (a := exF) (ex_of ▸ of_ev ex21 (by decide)) ?_
  refine Ev.pos (by decide) ?_
  refine Ev.pos (by decide) ?_
  refine Ev.pos (by rw [ByteArray.toList_eq]; rfl) ?_
  refine Ev.pure rfl ?_
  refine Ev.pure rfl ?_
  refine Ev.pure (HasEx (b := true) rfl (by rw [ex_facts]; simp)) ?_
  refine Ev.pos rfl ?_
  refine Ev.pure rfl ?_
  refine Ev.pure rfl ?_
  refine Ev.pure (HasEx (b := true) rfl (by rw [ex_facts]; simp)) ?_
  refine Ev.pos rfl ?_
  refine Ev.pure rfl ?_
  refine Ev.pure rfl ?_
  refine Ev.pure (HasEx (b := false) rfl (by rw [ex_facts]; simp)) ?_
  exact Ev.now _
end Go.Proofs.Ytoekfmdcplphmaa.H
namespace Go.Proofs.Ytoekfmdcplphmaa.H
open Go.RowKit Go.Proofs.YtoekfmdcplphmaaW.PrintWords Go.Proofs.YtoekfmdcplphmaaW.PrintLast Go.Proofs.YtoekfmdcplphmaaW.PrintMore
attribute [local go_sem] max2_int min2_int max_two min_two max_three min_three max_four min_four
def lambrequinref09_In.l0 : Nat → List ByteArray → ByteArray → Int → Option (Bool)
 | 0, _, _, _ => none
 | k + 1, x0, x1, x5 => if x5 < (x0.length : Int) then (if 0 ≤ x5 then (if (rdOf ByteArray.empty x0 x5).toList = x1.toList then (some true) else (lambrequinref09_In.l0 k x0 x1 (wrap64 (x5 + 1)))) else (none)) else (some false)
def lambrequinref09_In.f (k : Nat) (l0 : List ByteArray) (a1 : ByteArray) : Option (Bool) := lambrequinref09_In.l0 k l0 a1 0
theorem lambrequinref09_In.mono_l : ∀ k, (∀ y0 y1 y2, LeO (lambrequinref09_In.l0 k y0 y1 y2) (lambrequinref09_In.l0 (k + 1) y0 y1 y2))
 | 0 => fun _ _ _ r h => by simp [lambrequinref09_In.l0] at h
 | k + 1 => by
  have ih0 := lambrequinref09_In.mono_l k
  ·intro y0 y1 y2
   unfold lambrequinref09_In.l0
   repeat' first
   | (with_reducible exact ih0 _ _ _)
   | (with_reducible exact LeO.refl _)
   | (with_reducible exact LeO.none _)
   | (with_reducible refine LeO.ite ?_ ?_)
   | (with_reducible refine LeO.bind ?_ (fun _ => ?_))
   | exact ih0 _ _ _
   | exact LeO.none _
   | refine LeO.ite ?_ ?_
   | refine LeO.bind ?_ (fun _ => ?_)
theorem lambrequinref09_In.mono : ∀ a0 a1 k, LeO (lambrequinref09_In.f k a0 a1) (lambrequinref09_In.f (k + 1) a0 a1) := by
 intro a0 a1 k
 have ih0 := lambrequinref09_In.mono_l k
 unfold lambrequinref09_In.f
 repeat' first
   | (with_reducible exact ih0 _ _ _)
   | (with_reducible exact LeO.refl _)
   | (with_reducible exact LeO.none _)
   | (with_reducible refine LeO.ite ?_ ?_)
   | (with_reducible refine LeO.bind ?_ (fun _ => ?_))
   | exact ih0 _ _ _
   | exact LeO.none _
   | refine LeO.ite ?_ ?_
   | refine LeO.bind ?_ (fun _ => ?_)
set_option maxHeartbeats 8000000 in
set_option maxRecDepth 100000 in
theorem lambrequinref09_In.calls (k : Nat) (A0 : Option Addr) (c0 : Nat) (l0 : List ByteArray) (a1 : ByteArray) (r : Bool) (w : World) (hr0 : Kd.C Kd.string w A0 l0.length l0) (hc0 : l0.length ≤ c0) (h : lambrequinref09_In.f k l0 a1 = some r) :
  Calls Try.prog 13 #[.slice A0 l0.length c0, .string a1] w fun e w' => e = .returned (.bool r) ∧ Drawn0 w w' := by
 have HR0 := Aside0.mk hr0
 have HC0 := Aside0.mk hc0
 clear hr0 hc0
 have H : (lambrequinref09_In.l0 k l0 a1 0) = some r := h
 clear h
 have H' := Aside0.mk H
 clear H
 go_enter Try.func13, Try.ntmps13
 go_wp2
 go_loopg [5] k (fun kq v5 w' => ∃ (x5_1 : Int), v5 = .int .i64 x5_1 ∧ Aside0 (lambrequinref09_In.l0 kq l0 a1 x5_1 = some r) ∧ Aside0 (kq ≤ k) ∧ Drawn0 w w')
 case atStart => exact ⟨(0), (by first | rfl | (simp; done) | (simp [*]; done)), H', ⟨Nat.le_refl _⟩, by repeat (first | exact Drawn0.refl _ | apply Drawn0.step)⟩
 case round =>
  clear H'
  try clear c1
  try clear p2
  obtain ⟨x5_1, rfl, HA, HK1, ⟨m1, rfl⟩⟩ := hrel
  cases gk with
  | zero => exact absurd HA.out (by simp [lambrequinref09_In.l0])
  | succ k1 =>
   have H := HA.out
   clear HA
   simp only [lambrequinref09_In.l0] at H
   by_cases c3 : x5_1 < (l0.length : Int)
   ·rw [if_pos c3] at H
    have c3b0 : decide (x5_1 < (l0.length : Int)) = true := decide_eq_true c3
    clear c3
    by_cases c4 : 0 ≤ x5_1
    ·rw [if_pos c4] at H
     have c4b0 : decide (0 ≤ x5_1) = true := decide_eq_true c4
     clear c4
     by_cases c5 : (rdOf ByteArray.empty l0 x5_1).toList = a1.toList
     ·rw [if_pos c5] at H
      have c5b0 : ((rdOf ByteArray.empty l0 x5_1).toList == a1.toList) = true := beq_iff_eq.mpr c5
      have c5b1 : ((rdOf ByteArray.empty l0 x5_1).toList != a1.toList) = false := bne_eq_false_iff_eq.mpr c5
      clear c5
      obtain rfl := Option.some.inj H
      have p101 : 0 ≤ (x5_1 : Int) := of_decide_eq_true (by first | (with_reducible assumption) | assumption)
      have q101 : x5_1 < (l0.length : Int) := of_decide_eq_true (by first | (with_reducible assumption) | assumption)
      obtain ⟨ad101, e101, hx101_0⟩ := Kd.at_string HR0.out x5_1 p101 q101
      cases e101
      replace p101 := eq_true p101
      replace q101 := eq_true q101
      go_wp2
      go_ret
      exact ⟨by first | rfl | (simp; done) | (simp [*]; done), by repeat (first | exact Drawn0.refl _ | apply Drawn0.step)⟩
     ·rw [if_neg c5] at H
      have c5b0 : ((rdOf ByteArray.empty l0 x5_1).toList == a1.toList) = false := beq_eq_false_iff_ne.mpr c5
      have c5b1 : ((rdOf ByteArray.empty l0 x5_1).toList != a1.toList) = true := bne_iff_ne.mpr c5
      have H' := Aside0.mk H
      clear H
      have p101 : 0 ≤ (x5_1 : Int) := of_decide_eq_true (by first | (with_reducible assumption) | assumption)
      have q101 : x5_1 < (l0.length : Int) := of_decide_eq_true (by first | (with_reducible assumption) | assumption)
      obtain ⟨ad101, e101, hx101_0⟩ := Kd.at_string HR0.out x5_1 p101 q101
      cases e101
      replace p101 := eq_true p101
      replace q101 := eq_true q101
      go_wp2
      go_roundg k1
      case measure => have := HK1.out; omega
      case rel => exact ⟨(wrap64 (x5_1 + 1)), (by first | rfl | (simp; done) | (simp [*]; done)), H', ⟨by have := HK1.out; omega⟩, by repeat (first | exact Drawn0.refl _ | apply Drawn0.step)⟩
    ·rw [if_neg c4] at H
     exact absurd H (by simp)
   ·rw [if_neg c3] at H
    have c3b0 : decide (x5_1 < (l0.length : Int)) = false := decide_eq_false c3
    clear c3
    obtain rfl := Option.some.inj H
    go_wp2
    go_ret
    exact ⟨by first | rfl | (simp; done) | (simp [*]; done), by repeat (first | exact Drawn0.refl _ | apply Drawn0.step)⟩
end Go.Proofs.Ytoekfmdcplphmaa.H
namespace Go.Proofs.Ytoekfmdcplphmaa.H
open Go.RowKit Go.Proofs.YtoekfmdcplphmaaW.PrintWords
theorem In_l0 (l : List ByteArray) (s : ByteArray) (hl : l.length ≤ 9223372036854775807) : ∀ (r : List ByteArray) (n : Nat), l.drop n = r → Ev (fun k => lambrequinref09_In.l0 k l s n) (mem s r)
  | [], n, h => by
    refine Ev.step (fun k => by rw [lambrequinref09_In.l0]) ?_
    exact Ev.neg (drop_end h) (Ev.some (by simp [mem]))
  | y :: r, n, h => by
    obtain ⟨h1, h2, h3, h4, h5⟩ := drop_more h hl
    refine Ev.step (fun k => by rw [lambrequinref09_In.l0]) ?_
    refine Ev.pos h1 (Ev.pos h2 ?_)
    rw [show rdOf ByteArray.empty l n = y from h3 _, h5]
    refine Ev.iff (Ev.cases (fun _ => Ev.now true) (fun _ => In_l0 l s hl r (n + 1) h4)) ?_
    simp only [lib_ba_eq, mem, List.any_cons]
    by_cases e : y = s
    · subst e; simp
    · have e' : ¬ s = y := fun h => e h.symm
      simp [e, e']
theorem In_ev (l : List ByteArray) (s : ByteArray) (hl : l.length ≤ 9223372036854775807) : Ev (fun k => lambrequinref09_In.f k l s) (mem s l) := In_l0 l s hl l 0 rfl
end Go.Proofs.Ytoekfmdcplphmaa.H
/- facts.Has at a literal of two values -/
namespace Go.Proofs.Ytoekfmdcplphmaa.H
open Go.RowKit Go.Proofs.YtoekfmdcplphmaaW.PrintWords Go.Proofs.YtoekfmdcplphmaaW.PrintLast Go.Proofs.YtoekfmdcplphmaaW.PrintMore
theorem hasLit2 (A0 : Option Addr) (c0 : Nat) (l0 : List Fact) (p : ByteArray) (a1 : Bool) (a2 : ByteArray) (a3 : Int) (b1 : Bool) (b2 : ByteArray) (b3 : Int) (r : Bool) (w : World) (hr0 : Kd.C k44 w A0 l0.length l0) (hc0 : l0.length ≤ c0) (h : facts_Has.f l0 p [(⟨a1, a2, a3⟩ : Val), (⟨b1, b2, b3⟩ : Val)] = some r) :
    Calls Try.prog 9 #[.slice A0 l0.length c0, .string p, .slice (some ⟨w.heap.size, 0, none⟩) 2 2] (w.alloc (.cells #[.bool a1, .string a2, .int .i64 a3, .bool b1, .string b2, .int .i64 b3] 28)) fun e w' => e = .returned (.bool r) ∧ Below w.heap.size w w' := by
  have hb := below_alloc (Below.refl w.heap.size w) (.cells #[.bool a1, .string a2, .int .i64 a3, .bool b1, .string b2, .int .i64 b3] 28)
  have hc : Kd.C k28 (w.alloc (.cells #[.bool a1, .string a2, .int .i64 a3, .bool b1, .string b2, .int .i64 b3] 28)) (some ⟨w.heap.size, 0, none⟩) [(⟨a1, a2, a3⟩ : Val), (⟨b1, b2, b3⟩ : Val)].length [(⟨a1, a2, a3⟩ : Val), (⟨b1, b2, b3⟩ : Val)] :=
    C_cells (blk_new _ _) (Reps.snoc (Reps.snoc (Reps.none _ _) (k28_mk _ (⟨a1, a2, a3⟩ : Val)) rfl) (k28_mk _ (⟨b1, b2, b3⟩ : Val)) rfl) (by simp)
  exact (facts_Has.calls A0 c0 l0 p _ 2 [(⟨a1, a2, a3⟩ : Val), (⟨b1, b2, b3⟩ : Val)] r _ (Kd.C_alloc hr0 _) hc0 hc (Nat.le_refl 2) h).mono fun e w' h' => ⟨h'.1, Below.then hb h'.2⟩
end Go.Proofs.Ytoekfmdcplphmaa.H
namespace Go.Proofs.Ytoekfmdcplphmaa.H
open Go.RowKit Go.Proofs.YtoekfmdcplphmaaW.PrintWords Go.Proofs.YtoekfmdcplphmaaW.PrintLast Go.Proofs.YtoekfmdcplphmaaW.PrintMore
attribute [local go_sem] max2_int min2_int max_two min_two max_three min_three max_four min_four
mutual
def lambrequinlaw21_FactsTell.j0 : Nat → List (Stmt) → Int → Int → ByteArray → Bool → List (Fact) → Bool → Option (Bool)
 | 0, _, _, _, _, _, _, _ => none
 | k + 1, x0, x1, x2, x3, x9, x10, x11 => (lambrequinlaw21_num.f x1).bind fun bt305 => ((facts_Has.f x10 (⟨#[110, 111, 100, 101]⟩ : ByteArray) (([(⟨bt305.1, bt305.2.1, bt305.2.2⟩ : Val)] : List (Val)))).bind fun t311 => (if (t311 != x11) = true then (some false) else ((cfg_Next.f x0 x1).bind fun t312 => (lambrequinlaw21_FactsTell.l0 k x0 x1 x2 x3 x9 x10 x11 false t312 0))))
def lambrequinlaw21_FactsTell.l0 : Nat → List (Stmt) → Int → Int → ByteArray → Bool → List (Fact) → Bool → Bool → List Int → Int → Option (Bool)
 | 0, _, _, _, _, _, _, _, _, _, _ => none
 | k + 1, x0, x1, x2, x3, x9, x10, x11, x12, x13, x14 => if x14 < (x13.length : Int) then (if x12 = true then (lambrequinlaw21_FactsTell.l0 k x0 x1 x2 x3 x9 x10 x11 true x13 (wrap64 (x14 + 1))) else (if 0 ≤ x14 then (lambrequinlaw21_FactsTell.l0 k x0 x1 x2 x3 x9 x10 x11 ((rd x13 x14) == x2) x13 (wrap64 (x14 + 1))) else (none))) else (if x11 = true then (if 0 ≤ x1 then (if x1 < (x0.length : Int) then (lambrequinlaw21_FactsTell.j2 k x1 x2 x3 x9 x10 x11 x12 ((rd_T33 x0 x1).kind) ((rd_T33 x0 x1).x) ((rd_T33 x0 x1).y) ((rd_T33 x0 x1).z) ((rd_T33 x0 x1).op) ((rd_T33 x0 x1).n) ((rd_T33 x0 x1).a) ((rd_T33 x0 x1).b)) else (none)) else (none)) else (lambrequinlaw21_FactsTell.j2 k x1 x2 x3 x9 x10 x11 x12 0 (⟨#[]⟩ : ByteArray) (⟨#[]⟩ : ByteArray) (⟨#[]⟩ : ByteArray) (⟨#[]⟩ : ByteArray) 0 0 0))
def lambrequinlaw21_FactsTell.j2 : Nat → Int → Int → ByteArray → Bool → List (Fact) → Bool → Bool → Int → ByteArray → ByteArray → ByteArray → ByteArray → Int → Int → Int → Option (Bool)
 | 0, _, _, _, _, _, _, _, _, _, _, _, _, _, _, _ => none
 | k + 1, x1, x2, x3, x9, x10, x11, x12, x317000, x317001, x317002, x317003, x317004, x317005, x317006, x317007 => (cfg_Def.f x317000 x317001 x317002 x317003 x317004 x317005 x317006 x317007).bind fun bt318 => (if x11 = true then (if bt318.2 = true then (lambrequinlaw21_FactsTell.j3 k x1 x2 x3 x9 x10 x11 x12 (bt318.1.toList == x3.toList) x317000 x317001 x317002 x317003 x317004 x317005 x317006 x317007) else (lambrequinlaw21_FactsTell.j3 k x1 x2 x3 x9 x10 x11 x12 false x317000 x317001 x317002 x317003 x317004 x317005 x317006 x317007)) else (lambrequinlaw21_FactsTell.j3 k x1 x2 x3 x9 x10 x11 x12 false x317000 x317001 x317002 x317003 x317004 x317005 x317006 x317007))
def lambrequinlaw21_FactsTell.j3 : Nat → Int → Int → ByteArray → Bool → List (Fact) → Bool → Bool → Bool → Int → ByteArray → ByteArray → ByteArray → ByteArray → Int → Int → Int → Option (Bool)
 | 0, _, _, _, _, _, _, _, _, _, _, _, _, _, _, _, _ => none
 | k + 1, x1, x2, x3, x9, x10, x11, x12, x18, x317000, x317001, x317002, x317003, x317004, x317005, x317006, x317007 => if x11 = true then ((cfg_Uses.f x317000 x317001 x317002 x317003 x317004 x317005 x317006 x317007).bind fun t320 => ((lambrequinref09_In.f k t320 x3).bind fun t323 => (lambrequinlaw21_FactsTell.j4 k x1 x2 x3 x9 x10 x12 x18 t323 x317000 x317001 x317002 x317003 x317004 x317005 x317006 x317007))) else (lambrequinlaw21_FactsTell.j4 k x1 x2 x3 x9 x10 x12 x18 false x317000 x317001 x317002 x317003 x317004 x317005 x317006 x317007)
def lambrequinlaw21_FactsTell.j4 : Nat → Int → Int → ByteArray → Bool → List (Fact) → Bool → Bool → Bool → Int → ByteArray → ByteArray → ByteArray → ByteArray → Int → Int → Int → Option (Bool)
 | 0, _, _, _, _, _, _, _, _, _, _, _, _, _, _, _, _ => none
 | k + 1, x1, x2, x3, x9, x10, x12, x18, x19, x317000, x317001, x317002, x317003, x317004, x317005, x317006, x317007 => if x9 = true then ((lambrequinlaw21_num.f x1).bind fun bt324 => ((lambrequinlaw21_num.f x2).bind fun bt327 => ((facts_Has.f x10 (⟨#[110, 101, 120, 116]⟩ : ByteArray) (([(⟨bt324.1, bt324.2.1, bt324.2.2⟩ : Val), (⟨bt327.1, bt327.2.1, bt327.2.2⟩ : Val)] : List (Val)))).bind fun t333 => (if (t333 == x12) = true then ((lambrequinlaw21_num.f x1).bind fun bt334 => ((lambrequinlaw21_sym.f x3).bind fun bt337 => ((facts_Has.f x10 (⟨#[100, 101, 102]⟩ : ByteArray) (([(⟨bt334.1, bt334.2.1, bt334.2.2⟩ : Val), (⟨bt337.1, bt337.2.1, bt337.2.2⟩ : Val)] : List (Val)))).bind fun t343 => (if (t343 == x18) = true then ((lambrequinlaw21_num.f x1).bind fun bt344 => ((lambrequinlaw21_sym.f x3).bind fun bt347 => ((facts_Has.f x10 (⟨#[117, 115, 101]⟩ : ByteArray) (([(⟨bt344.1, bt344.2.1, bt344.2.2⟩ : Val), (⟨bt347.1, bt347.2.1, bt347.2.2⟩ : Val)] : List (Val)))).bind fun t353 => (if (t353 == x19) = true then ((lambrequinlaw21_num.f x1).bind fun bt354 => ((lambrequinlaw21_sym.f x3).bind fun bt357 => ((facts_Has.f x10 (⟨#[115, 111, 117, 114, 99, 101]⟩ : ByteArray) (([(⟨bt354.1, bt354.2.1, bt354.2.2⟩ : Val), (⟨bt357.1, bt357.2.1, bt357.2.2⟩ : Val)] : List (Val)))).bind fun t363 => (if x18 = true then (if (t363 == (x317000 == 4)) = true then ((lambrequinlaw21_num.f x1).bind fun bt364 => ((lambrequinlaw21_sym.f x3).bind fun bt367 => ((facts_Has.f x10 (⟨#[115, 105, 110, 107]⟩ : ByteArray) (([(⟨bt364.1, bt364.2.1, bt364.2.2⟩ : Val), (⟨bt367.1, bt367.2.1, bt367.2.2⟩ : Val)] : List (Val)))).bind fun t373 => (if x19 = true then (some (t373 == (x317000 == 6))) else (some (t373 == false)))))) else (none)) else (if (t363 == false) = true then ((lambrequinlaw21_num.f x1).bind fun bt374 => ((lambrequinlaw21_sym.f x3).bind fun bt377 => ((facts_Has.f x10 (⟨#[115, 105, 110, 107]⟩ : ByteArray) (([(⟨bt374.1, bt374.2.1, bt374.2.2⟩ : Val), (⟨bt377.1, bt377.2.1, bt377.2.2⟩ : Val)] : List (Val)))).bind fun t383 => (if x19 = true then (some (t383 == (x317000 == 6))) else (some (t383 == false)))))) else (none)))))) else (none))))) else (none))))) else (none))))) else (none)
end
def lambrequinlaw21_FactsTell.f (k : Nat) (l0 : List (Stmt)) (a1 : Int) (a2 : Int) (a3 : ByteArray) : Option (Bool) := (lambrequinlaw21_shown.f k).bind fun t301 => (if (l0.length : Int) > 60 then (some t301) else ((facts_Of.f k l0).bind fun t302 => (if a1 ≥ 0 then (lambrequinlaw21_FactsTell.j0 k l0 a1 a2 a3 t301 t302 (decide (a1 < (l0.length : Int)))) else (lambrequinlaw21_FactsTell.j0 k l0 a1 a2 a3 t301 t302 false))))
theorem lambrequinlaw21_FactsTell.mono_l : ∀ k, (∀ y0 y1 y2 y3 y4 y5 y6, LeO (lambrequinlaw21_FactsTell.j0 k y0 y1 y2 y3 y4 y5 y6) (lambrequinlaw21_FactsTell.j0 (k + 1) y0 y1 y2 y3 y4 y5 y6)) ∧ (∀ y0 y1 y2 y3 y4 y5 y6 y7 y8 y9, LeO (lambrequinlaw21_FactsTell.l0 k y0 y1 y2 y3 y4 y5 y6 y7 y8 y9) (lambrequinlaw21_FactsTell.l0 (k + 1) y0 y1 y2 y3 y4 y5 y6 y7 y8 y9)) ∧ (∀ y0 y1 y2 y3 y4 y5 y6 y7 y8 y9 y10 y11 y12 y13 y14, LeO (lambrequinlaw21_FactsTell.j2 k y0 y1 y2 y3 y4 y5 y6 y7 y8 y9 y10 y11 y12 y13 y14) (lambrequinlaw21_FactsTell.j2 (k + 1) y0 y1 y2 y3 y4 y5 y6 y7 y8 y9 y10 y11 y12 y13 y14)) ∧ (∀ y0 y1 y2 y3 y4 y5 y6 y7 y8 y9 y10 y11 y12 y13 y14 y15, LeO (lambrequinlaw21_FactsTell.j3 k y0 y1 y2 y3 y4 y5 y6 y7 y8 y9 y10 y11 y12 y13 y14 y15) (lambrequinlaw21_FactsTell.j3 (k + 1) y0 y1 y2 y3 y4 y5 y6 y7 y8 y9 y10 y11 y12 y13 y14 y15)) ∧ (∀ y0 y1 y2 y3 y4 y5 y6 y7 y8 y9 y10 y11 y12 y13 y14 y15, LeO (lambrequinlaw21_FactsTell.j4 k y0 y1 y2 y3 y4 y5 y6 y7 y8 y9 y10 y11 y12 y13 y14 y15) (lambrequinlaw21_FactsTell.j4 (k + 1) y0 y1 y2 y3 y4 y5 y6 y7 y8 y9 y10 y11 y12 y13 y14 y15))
 | 0 => ⟨fun _ _ _ _ _ _ _ r h => by simp [lambrequinlaw21_FactsTell.j0] at h, fun _ _ _ _ _ _ _ _ _ _ r h => by simp [lambrequinlaw21_FactsTell.l0] at h, fun _ _ _ _ _ _ _ _ _ _ _ _ _ _ _ r h => by simp [lambrequinlaw21_FactsTell.j2] at h, fun _ _ _ _ _ _ _ _ _ _ _ _ _ _ _ _ r h => by simp [lambrequinlaw21_FactsTell.j3] at h, fun _ _ _ _ _ _ _ _ _ _ _ _ _ _ _ _ r h => by simp [lambrequinlaw21_FactsTell.j4] at h⟩
 | k + 1 => by
  obtain ⟨ih0, ih1, ih2, ih3, ih4⟩ := lambrequinlaw21_FactsTell.mono_l k
  refine ⟨?_, ?_, ?_, ?_, ?_⟩
  ·intro y0 y1 y2 y3 y4 y5 y6
   unfold lambrequinlaw21_FactsTell.j0
   repeat' first
   | (with_reducible exact ih0 _ _ _ _ _ _ _)
   | (with_reducible exact ih1 _ _ _ _ _ _ _ _ _ _)
   | (with_reducible exact ih2 _ _ _ _ _ _ _ _ _ _ _ _ _ _ _)
   | (with_reducible exact ih3 _ _ _ _ _ _ _ _ _ _ _ _ _ _ _ _)
   | (with_reducible exact ih4 _ _ _ _ _ _ _ _ _ _ _ _ _ _ _ _)
   | (with_reducible exact facts_Of.mono _ _)
   | (with_reducible exact lambrequinlaw21_shown.mono _)
   | (with_reducible exact lambrequinref09_In.mono _ _ _)
   | (with_reducible exact LeO.refl _)
   | (with_reducible exact LeO.none _)
   | (with_reducible refine LeO.ite ?_ ?_)
   | (with_reducible refine LeO.bind ?_ (fun _ => ?_))
   | exact ih0 _ _ _ _ _ _ _
   | exact ih1 _ _ _ _ _ _ _ _ _ _
   | exact ih2 _ _ _ _ _ _ _ _ _ _ _ _ _ _ _
   | exact ih3 _ _ _ _ _ _ _ _ _ _ _ _ _ _ _ _
   | exact ih4 _ _ _ _ _ _ _ _ _ _ _ _ _ _ _ _
   | exact facts_Of.mono _ _
   | exact lambrequinlaw21_shown.mono _
   | exact lambrequinref09_In.mono _ _ _
   | exact LeO.none _
   | refine LeO.ite ?_ ?_
   | refine LeO.bind ?_ (fun _ => ?_)
  ·intro y0 y1 y2 y3 y4 y5 y6 y7 y8 y9
   unfold lambrequinlaw21_FactsTell.l0
   repeat' first
   | (with_reducible exact ih0 _ _ _ _ _ _ _)
   | (with_reducible exact ih1 _ _ _ _ _ _ _ _ _ _)
   | (with_reducible exact ih2 _ _ _ _ _ _ _ _ _ _ _ _ _ _ _)
   | (with_reducible exact ih3 _ _ _ _ _ _ _ _ _ _ _ _ _ _ _ _)
   | (with_reducible exact ih4 _ _ _ _ _ _ _ _ _ _ _ _ _ _ _ _)
   | (with_reducible exact facts_Of.mono _ _)
   | (with_reducible exact lambrequinlaw21_shown.mono _)
   | (with_reducible exact lambrequinref09_In.mono _ _ _)
   | (with_reducible exact LeO.refl _)
   | (with_reducible exact LeO.none _)
   | (with_reducible refine LeO.ite ?_ ?_)
   | (with_reducible refine LeO.bind ?_ (fun _ => ?_))
   | exact ih0 _ _ _ _ _ _ _
   | exact ih1 _ _ _ _ _ _ _ _ _ _
   | exact ih2 _ _ _ _ _ _ _ _ _ _ _ _ _ _ _
   | exact ih3 _ _ _ _ _ _ _ _ _ _ _ _ _ _ _ _
   | exact ih4 _ _ _ _ _ _ _ _ _ _ _ _ _ _ _ _
   | exact facts_Of.mono _ _
   | exact lambrequinlaw21_shown.mono _
   | exact lambrequinref09_In.mono _ _ _
   | exact LeO.none _
   | refine LeO.ite ?_ ?_
   | refine LeO.bind ?_ (fun _ => ?_)
  ·intro y0 y1 y2 y3 y4 y5 y6 y7 y8 y9 y10 y11 y12 y13 y14
   unfold lambrequinlaw21_FactsTell.j2
   repeat' first
   | (with_reducible exact ih0 _ _ _ _ _ _ _)
   | (with_reducible exact ih1 _ _ _ _ _ _ _ _ _ _)
   | (with_reducible exact ih2 _ _ _ _ _ _ _ _ _ _ _ _ _ _ _)
   | (with_reducible exact ih3 _ _ _ _ _ _ _ _ _ _ _ _ _ _ _ _)
   | (with_reducible exact ih4 _ _ _ _ _ _ _ _ _ _ _ _ _ _ _ _)
   | (with_reducible exact facts_Of.mono _ _)
   | (with_reducible exact lambrequinlaw21_shown.mono _)
   | (with_reducible exact lambrequinref09_In.mono _ _ _)
   | (with_reducible exact LeO.refl _)
   | (with_reducible exact LeO.none _)
   | (with_reducible refine LeO.ite ?_ ?_)
   | (with_reducible refine LeO.bind ?_ (fun _ => ?_))
   | exact ih0 _ _ _ _ _ _ _
   | exact ih1 _ _ _ _ _ _ _ _ _ _
   | exact ih2 _ _ _ _ _ _ _ _ _ _ _ _ _ _ _
   | exact ih3 _ _ _ _ _ _ _ _ _ _ _ _ _ _ _ _
   | exact ih4 _ _ _ _ _ _ _ _ _ _ _ _ _ _ _ _
   | exact facts_Of.mono _ _
   | exact lambrequinlaw21_shown.mono _
   | exact lambrequinref09_In.mono _ _ _
   | exact LeO.none _
   | refine LeO.ite ?_ ?_
   | refine LeO.bind ?_ (fun _ => ?_)
  ·intro y0 y1 y2 y3 y4 y5 y6 y7 y8 y9 y10 y11 y12 y13 y14 y15
   unfold lambrequinlaw21_FactsTell.j3
   repeat' first
   | (with_reducible exact ih0 _ _ _ _ _ _ _)
   | (with_reducible exact ih1 _ _ _ _ _ _ _ _ _ _)
   | (with_reducible exact ih2 _ _ _ _ _ _ _ _ _ _ _ _ _ _ _)
   | (with_reducible exact ih3 _ _ _ _ _ _ _ _ _ _ _ _ _ _ _ _)
   | (with_reducible exact ih4 _ _ _ _ _ _ _ _ _ _ _ _ _ _ _ _)
   | (with_reducible exact facts_Of.mono _ _)
   | (with_reducible exact lambrequinlaw21_shown.mono _)
   | (with_reducible exact lambrequinref09_In.mono _ _ _)
   | (with_reducible exact LeO.refl _)
   | (with_reducible exact LeO.none _)
   | (with_reducible refine LeO.ite ?_ ?_)
   | (with_reducible refine LeO.bind ?_ (fun _ => ?_))
   | exact ih0 _ _ _ _ _ _ _
   | exact ih1 _ _ _ _ _ _ _ _ _ _
   | exact ih2 _ _ _ _ _ _ _ _ _ _ _ _ _ _ _
   | exact ih3 _ _ _ _ _ _ _ _ _ _ _ _ _ _ _ _
   | exact ih4 _ _ _ _ _ _ _ _ _ _ _ _ _ _ _ _
   | exact facts_Of.mono _ _
   | exact lambrequinlaw21_shown.mono _
   | exact lambrequinref09_In.mono _ _ _
   | exact LeO.none _
   | refine LeO.ite ?_ ?_
   | refine LeO.bind ?_ (fun _ => ?_)
  ·intro y0 y1 y2 y3 y4 y5 y6 y7 y8 y9 y10 y11 y12 y13 y14 y15
   unfold lambrequinlaw21_FactsTell.j4
   repeat' first
   | (with_reducible exact ih0 _ _ _ _ _ _ _)
   | (with_reducible exact ih1 _ _ _ _ _ _ _ _ _ _)
   | (with_reducible exact ih2 _ _ _ _ _ _ _ _ _ _ _ _ _ _ _)
   | (with_reducible exact ih3 _ _ _ _ _ _ _ _ _ _ _ _ _ _ _ _)
   | (with_reducible exact ih4 _ _ _ _ _ _ _ _ _ _ _ _ _ _ _ _)
   | (with_reducible exact facts_Of.mono _ _)
   | (with_reducible exact lambrequinlaw21_shown.mono _)
   | (with_reducible exact lambrequinref09_In.mono _ _ _)
   | (with_reducible exact LeO.refl _)
   | (with_reducible exact LeO.none _)
   | (with_reducible refine LeO.ite ?_ ?_)
   | (with_reducible refine LeO.bind ?_ (fun _ => ?_))
   | exact ih0 _ _ _ _ _ _ _
   | exact ih1 _ _ _ _ _ _ _ _ _ _
   | exact ih2 _ _ _ _ _ _ _ _ _ _ _ _ _ _ _
   | exact ih3 _ _ _ _ _ _ _ _ _ _ _ _ _ _ _ _
   | exact ih4 _ _ _ _ _ _ _ _ _ _ _ _ _ _ _ _
   | exact facts_Of.mono _ _
   | exact lambrequinlaw21_shown.mono _
   | exact lambrequinref09_In.mono _ _ _
   | exact LeO.none _
   | refine LeO.ite ?_ ?_
   | refine LeO.bind ?_ (fun _ => ?_)
theorem lambrequinlaw21_FactsTell.mono : ∀ a0 a1 a2 a3 k, LeO (lambrequinlaw21_FactsTell.f k a0 a1 a2 a3) (lambrequinlaw21_FactsTell.f (k + 1) a0 a1 a2 a3) := by
 intro a0 a1 a2 a3 k
 obtain ⟨ih0, ih1, ih2, ih3, ih4⟩ := lambrequinlaw21_FactsTell.mono_l k
 unfold lambrequinlaw21_FactsTell.f
 repeat' first
   | (with_reducible exact ih0 _ _ _ _ _ _ _)
   | (with_reducible exact ih1 _ _ _ _ _ _ _ _ _ _)
   | (with_reducible exact ih2 _ _ _ _ _ _ _ _ _ _ _ _ _ _ _)
   | (with_reducible exact ih3 _ _ _ _ _ _ _ _ _ _ _ _ _ _ _ _)
   | (with_reducible exact ih4 _ _ _ _ _ _ _ _ _ _ _ _ _ _ _ _)
   | (with_reducible exact facts_Of.mono _ _)
   | (with_reducible exact lambrequinlaw21_shown.mono _)
   | (with_reducible exact lambrequinref09_In.mono _ _ _)
   | (with_reducible exact LeO.refl _)
   | (with_reducible exact LeO.none _)
   | (with_reducible refine LeO.ite ?_ ?_)
   | (with_reducible refine LeO.bind ?_ (fun _ => ?_))
   | exact ih0 _ _ _ _ _ _ _
   | exact ih1 _ _ _ _ _ _ _ _ _ _
   | exact ih2 _ _ _ _ _ _ _ _ _ _ _ _ _ _ _
   | exact ih3 _ _ _ _ _ _ _ _ _ _ _ _ _ _ _ _
   | exact ih4 _ _ _ _ _ _ _ _ _ _ _ _ _ _ _ _
   | exact facts_Of.mono _ _
   | exact lambrequinlaw21_shown.mono _
   | exact lambrequinref09_In.mono _ _ _
   | exact LeO.none _
   | refine LeO.ite ?_ ?_
   | refine LeO.bind ?_ (fun _ => ?_)
set_option maxHeartbeats 8000000 in
set_option maxRecDepth 100000 in
theorem lambrequinlaw21_FactsTell.calls (k : Nat) (A0 : Option Addr) (c0 : Nat) (l0 : List (Stmt)) (a1 : Int) (a2 : Int) (a3 : ByteArray) (r : Bool) (w : World) (hr0 : Kd.C k33 w A0 l0.length l0) (hc0 : l0.length ≤ c0) (h : lambrequinlaw21_FactsTell.f k l0 a1 a2 a3 = some r) :
  Calls Try.prog 3 #[.slice A0 l0.length c0, .int .i64 a1, .int .i64 a2, .string a3] w fun e w' => e = .returned (.bool r) ∧ Below w.heap.size w w' := by
 have hu33 := Try.underlying33
 have HR0 := am hr0
 have HC0 := am hc0
 clear hr0 hc0
 have HB := am (Below.refl w.heap.size w)
 have H : ((lambrequinlaw21_shown.f k).bind fun t301 => (if (l0.length : Int) > 60 then (some t301) else ((facts_Of.f k l0).bind fun t302 => (if a1 ≥ 0 then (lambrequinlaw21_FactsTell.j0 k l0 a1 a2 a3 t301 t302 (decide (a1 < (l0.length : Int)))) else (lambrequinlaw21_FactsTell.j0 k l0 a1 a2 a3 t301 t302 false))))) = some r := h
 clear h
 replace H := Option.bind_eq_some_iff.mp H
 obtain ⟨t301, A50, H⟩ := H
 replace H : (if (l0.length : Int) > 60 then (some t301) else ((facts_Of.f k l0).bind fun t302 => (if a1 ≥ 0 then (lambrequinlaw21_FactsTell.j0 k l0 a1 a2 a3 t301 t302 (decide (a1 < (l0.length : Int)))) else (lambrequinlaw21_FactsTell.j0 k l0 a1 a2 a3 t301 t302 false)))) = some r := H
 have A5 := am A50
 clear A50
 by_cases c6 : (l0.length : Int) > 60
 ·rw [if_pos c6] at H
  have c6b0 : decide (60 < (l0.length : Int)) = true := decide_eq_true c6
  have c6b1 : decide (60 < l0.length) = true := decide_eq_true (by omega)
  clear c6
  obtain rfl := Option.some.inj H
  go_enter Try.func3, Try.ntmps3
  go_wp2_with (first | ((with_reducible refine gate_callee (f := 7) rfl ?_); refine goesL_ (some 20) rfl rfl Try.func7 (by kernel_rfl) rfl #[] rfl (by (try simp only [List.map_toArray, List.map_cons, List.map_nil]); first | done | rfl | (simp only [List.length_drop, List.length_take]; rfl)) ?_; (with_reducible refine (lambrequinlaw21_shown.calls k  t301 _ A5.out).mono ?_); rintro e w7 ⟨rfl, hb⟩; refine ⟨_, rfl, ?_⟩; replace HB := am (bs_ HB.out hb); (try clear hb); (try clear hb2); (try clear hk); (try clear hi)))
  go_ret
  exact ⟨by first | rfl | (simp [errW_none, errW_some] <;> rfl) | (simp [*, errW_none, errW_some] <;> rfl), pL HB.out⟩
 ·rw [if_neg c6] at H
  have c6b0 : decide (60 < (l0.length : Int)) = false := decide_eq_false c6
  have c6b1 : decide (60 < l0.length) = false := decide_eq_false (by omega)
  clear c6
  replace H := Option.bind_eq_some_iff.mp H
  obtain ⟨t302, A80, H⟩ := H
  replace H : (if a1 ≥ 0 then (lambrequinlaw21_FactsTell.j0 k l0 a1 a2 a3 t301 t302 (decide (a1 < (l0.length : Int)))) else (lambrequinlaw21_FactsTell.j0 k l0 a1 a2 a3 t301 t302 false)) = some r := H
  have A8 := am A80
  clear A80
  have HC9 := am H
  clear H
  go_enter Try.func3, Try.ntmps3
  go_upto_region 5 with (first | ((with_reducible refine gate_callee (f := 7) rfl ?_); refine goesL_ (some 20) rfl rfl Try.func7 (by kernel_rfl) rfl #[] rfl (by (try simp only [List.map_toArray, List.map_cons, List.map_nil]); first | done | rfl | (simp only [List.length_drop, List.length_take]; rfl)) ?_; (with_reducible refine (lambrequinlaw21_shown.calls k  t301 _ A5.out).mono ?_); rintro e w10 ⟨rfl, hb⟩; refine ⟨_, rfl, ?_⟩; replace HB := am (bs_ HB.out hb); (try clear hb); (try clear hb2); (try clear hk); (try clear hi)) | ((with_reducible refine gate_callee (f := 8) rfl ?_); refine goesL_ (some 26) rfl rfl Try.func8 (by kernel_rfl) rfl #[.slice A0 l0.length c0] rfl (by (try simp only [List.map_toArray, List.map_cons, List.map_nil]); first | done | rfl | (simp only [List.length_drop, List.length_take]; rfl)) ?_; (with_reducible refine (facts_Of.calls k _ _ l0 t302 _ ?side1 ?side2 A8.out).mono ?_); (case side1 => repeat (first | exact (Kd.C_below HR0.out HB.out) | (with_reducible refine Kd.C_alloc ?_ _) | (with_reducible refine Kd.C_drewN ?_ _) | (with_reducible refine Kd.C_drew ?_))); (case side2 => exact HC0.out); rintro e w11 ⟨v303, rfl, ho0, hb⟩; refine ⟨_, rfl, ?_⟩; have HO304 := am (Kd.N_lower (Kd.N_mono (ok' := fun k_ => True) ho0 (fun k_ hk_ => trivial)) (below_size (pL HB.out))); replace HB := am (bs_ HB.out hb); (try clear hb); (try clear hb2); (try clear hk); (try clear hi); (try clear ho0)))
  (try simp only [Act.put, List.setIfInBounds_toArray, List.set_cons_zero, List.set_cons_succ])
  go_cut [11] (fun v11 wc => ∃ (kq : Nat) (x11_8 : Bool), v11 = .bool x11_8 ∧ Aside0 (lambrequinlaw21_FactsTell.j0 kq l0 a1 a2 a3 t301 t302 x11_8 = some r) ∧ Aside0 (kq ≤ k) ∧ Aside0 (Kd.N k44 44 wc w.heap.size (fun _ => True) v303 t302) ∧ Aside0 (Below w.heap.size w wc))
  case first =>
   have H := HC9.out
   clear HC9
   by_cases c12 : a1 ≥ 0
   ·rw [if_pos c12] at H
    have c12b0 : decide (0 ≤ a1) = true := decide_eq_true c12
    clear c12
    (first | rw [c12b0] | (simp only [i64_w, i32_w]; rw [c12b0]) | skip)
    have H' := am H
    clear H
    go_wp2
    go_meet
    case rel => exact ⟨_, (decide (a1 < (l0.length : Int))), rs_, H', ⟨by first | omega | exact Nat.le_refl _⟩, ⟨by (with_reducible repeat (first | apply Kd.N_alloc | apply Kd.N_drewN | apply Kd.N_drew)); exact HO304.out⟩, ⟨pL HB.out⟩⟩
   ·rw [if_neg c12] at H
    have c12b0 : decide (0 ≤ a1) = false := decide_eq_false c12
    clear c12
    (first | rw [c12b0] | (simp only [i64_w, i32_w]; rw [c12b0]) | skip)
    have H' := am H
    clear H
    go_wp2
    go_meet
    case rel => exact ⟨_, (false), rs_, H', ⟨by first | omega | exact Nat.le_refl _⟩, ⟨by (with_reducible repeat (first | apply Kd.N_alloc | apply Kd.N_drewN | apply Kd.N_drew)); exact HO304.out⟩, ⟨pL HB.out⟩⟩
  case rest =>
   clear HC9
   try clear c1
   try clear p2
   try clear c3
   try clear c6
   try clear c6b0
   try clear c6b1
   try clear c7
   try clear c8
   try clear c12
   try clear c12b0
   obtain ⟨kq, x11_8, rfl, HA, HJ8, HO_10, HB⟩ := hcut
   cases kq with
   | zero => exact absurd HA.out (by simp [lambrequinlaw21_FactsTell.j0])
   | succ kj8 =>
    have H := HA.out
    clear HA
    simp only [lambrequinlaw21_FactsTell.j0] at H
    replace H := Option.bind_eq_some_iff.mp H
    obtain ⟨⟨t305, t306, t307⟩, A130, H⟩ := H
    replace H : ((facts_Has.f t302 (⟨#[110, 111, 100, 101]⟩ : ByteArray) (([(⟨t305, t306, t307⟩ : Val)] : List (Val)))).bind fun t311 => (if (t311 != x11_8) = true then (some false) else ((cfg_Next.f l0 a1).bind fun t312 => (lambrequinlaw21_FactsTell.l0 kj8 l0 a1 a2 a3 t301 t302 x11_8 false t312 0)))) = some r := H
    have A13 := am A130
    clear A130
    obtain ⟨y308, hy308⟩ : ∃ y_ : List (Val), y_ = (([(⟨t305, t306, t307⟩ : Val)] : List (Val))) := ⟨_, rfl⟩
    replace H : ((facts_Has.f t302 (⟨#[110, 111, 100, 101]⟩ : ByteArray) y308).bind fun t311 => (if (t311 != x11_8) = true then (some false) else ((cfg_Next.f l0 a1).bind fun t312 => (lambrequinlaw21_FactsTell.l0 kj8 l0 a1 a2 a3 t301 t302 x11_8 false t312 0)))) = some r := by first | (rw [hy308]; with_reducible exact H) | (have H2_ := (Option.bind_some _ _).symm.trans H; rw [hy308]; with_reducible exact H2_) | (have H2_ := (Option.bind_some _ _).symm.trans H; with_reducible exact H2_) | with_reducible exact H | (rw [hy308]; exact H) | exact H
    have Ny308 := am hy308
    clear hy308
    replace H := Option.bind_eq_some_iff.mp H
    obtain ⟨t311, A140, H⟩ := H
    replace H : (if (t311 != x11_8) = true then (some false) else ((cfg_Next.f l0 a1).bind fun t312 => (lambrequinlaw21_FactsTell.l0 kj8 l0 a1 a2 a3 t301 t302 x11_8 false t312 0))) = some r := H
    have A14 := am A140
    clear A140
    by_cases c15 : (t311 != x11_8) = true
    ·rw [if_pos c15] at H
     have c15b0 : (t311 != x11_8) = true := c15
     (try (have c15b1 : decide (t311 = x11_8) = false := by simpa using c15))
     (try (have c15b2 : (t311 == x11_8) = false := by simpa using c15))
     (try (have c15b3 : ¬ (t311 = x11_8) := by simpa using c15))
     clear c15
     obtain rfl := Option.some.inj H
     go_wp2_with (first | ((with_reducible refine gate_callee (f := 10) rfl ?_); refine goesL_ (some 37) rfl rfl Try.func10 (by kernel_rfl) rfl #[.int .i64 a1] rfl (by (try simp only [List.map_toArray, List.map_cons, List.map_nil]); first | done | rfl | (simp only [List.length_drop, List.length_take]; rfl)) ?_; (with_reducible refine (lambrequinlaw21_num.calls a1 t305 t306 t307 _ A13.out).mono ?_); rintro e w16 ⟨rfl, hb⟩; refine ⟨_, rfl, ?_⟩; replace HO_10 := am (Kd.N_below (by (with_reducible repeat (first | apply Kd.N_alloc | apply Kd.N_drewN | apply Kd.N_drew)); exact HO_10.out) hb); replace HB := am (bs_ HB.out hb); (try clear hb); (try clear hb2); (try clear hk); (try clear hi)) | ((with_reducible refine gate_dst (N := 38) rfl ?_); (try (refine gate_guard (by rfl) ?_; dsimp only)); refine Kd.R_lit k28 _ 28 ?hg (N := 38) ?hd (xs := ([(⟨t305, t306, t307⟩ : Val)] : List (Val))) (inner := [.bool t305, .string t306, .int .i64 t307]) (ok := fun _ => True) (okp := fun _ => True) ?hr ?hp (fun _ hk => hk) trivial (Below.refl _ _) (Nat.le_refl _) (by simp) ?_; (case hd => rfl); (case hg => rfl); (case hr => first | (go_simp; done) | (go_simp; rfl)); (case hp => exact (Reps.c3 (show Kd.M k28 _ _ _ (⟨t305, t306, t307⟩ : Val) [.bool t305, .string t306, .int .i64 t307] from (k28_mkM _ _ _ (⟨t305, t306, t307⟩ : Val) )) (Reps.none _ _))); intro v309 w17 ho18 hb hg_ hnew_; clear hg_ hnew_; (first | rw [← Ny308.out] at ho18 | (simp only [Int.reduceToNat] at ho18; rw [← Ny308.out] at ho18)); replace HO_10 := am (Kd.N_elder' (by (with_reducible repeat (first | apply Kd.N_alloc | apply Kd.N_drewN | apply Kd.N_drew)); exact HO_10.out) (Kd.R_base ho18) hb); have HO310 := am (Kd.R_lower ho18 (below_size (pL HB.out))); replace HB := am (bs_ HB.out hb); clear hb ho18; obtain ⟨Ao19, co19, eo19⟩ := Kd.N_slice HO_10.out; subst eo19; obtain ⟨Ao20, co20, eo20⟩ := Kd.R_slice HO310.out; subst eo20) | ((with_reducible refine gate_callee (f := 9) rfl ?_); refine goesL_ (some 39) rfl rfl Try.func9 (by kernel_rfl) rfl #[.slice Ao19 t302.length co19, .string (⟨#[110, 111, 100, 101]⟩ : ByteArray), .slice Ao20 y308.length co20] rfl (by (try simp only [List.map_toArray, List.map_cons, List.map_nil]); first | done | rfl | (simp only [List.length_drop, List.length_take]; rfl)) ?_; (with_reducible refine (facts_Has.calls _ _ t302 (⟨#[110, 111, 100, 101]⟩ : ByteArray) _ _ y308 t311 _ ?side1 ?side2 ?side3 ?side4 A14.out).mono ?_); (case side1 => repeat (first | exact (Kd.N_reads' HO_10.out).2.2 | (with_reducible refine Kd.C_alloc ?_ _) | (with_reducible refine Kd.C_drewN ?_ _) | (with_reducible refine Kd.C_drew ?_))); (case side2 => exact (Kd.N_reads' HO_10.out).2.1); (case side3 => repeat (first | exact (Kd.R_reads' HO310.out).2.2 | (with_reducible refine Kd.C_alloc ?_ _) | (with_reducible refine Kd.C_drewN ?_ _) | (with_reducible refine Kd.C_drew ?_))); (case side4 => exact (Kd.R_reads' HO310.out).2.1); rintro e w21 ⟨rfl, hb⟩; refine ⟨_, rfl, ?_⟩; replace HO_10 := am (Kd.N_below (by (with_reducible repeat (first | apply Kd.N_alloc | apply Kd.N_drewN | apply Kd.N_drew)); exact HO_10.out) hb); replace HO310 := am (Rb_ HO310.out hb); replace HB := am (bs_ HB.out hb); (try clear hb); (try clear hb2); (try clear hk); (try clear hi)))
     go_ret
     exact ⟨by first | rfl | (simp [errW_none, errW_some] <;> rfl) | (simp [*, errW_none, errW_some] <;> rfl), pL HB.out⟩
    ·rw [if_neg c15] at H
     have c15b0 : (t311 != x11_8) = false := by simpa using c15
     (try (have c15b1 : decide (t311 = x11_8) = true := by simpa using c15))
     (try (have c15b2 : (t311 == x11_8) = true := by simpa using c15))
     clear c15
     replace H := Option.bind_eq_some_iff.mp H
     obtain ⟨t312, A220, H⟩ := H
     replace H : (lambrequinlaw21_FactsTell.l0 kj8 l0 a1 a2 a3 t301 t302 x11_8 false t312 0) = some r := H
     have A22 := am A220
     clear A220
     have H' := am H
     clear H
     go_wp2_with (first | ((with_reducible refine gate_callee (f := 10) rfl ?_); refine goesL_ (some 37) rfl rfl Try.func10 (by kernel_rfl) rfl #[.int .i64 a1] rfl (by (try simp only [List.map_toArray, List.map_cons, List.map_nil]); first | done | rfl | (simp only [List.length_drop, List.length_take]; rfl)) ?_; (with_reducible refine (lambrequinlaw21_num.calls a1 t305 t306 t307 _ A13.out).mono ?_); rintro e w23 ⟨rfl, hb⟩; refine ⟨_, rfl, ?_⟩; replace HO_10 := am (Kd.N_below (by (with_reducible repeat (first | apply Kd.N_alloc | apply Kd.N_drewN | apply Kd.N_drew)); exact HO_10.out) hb); replace HB := am (bs_ HB.out hb); (try clear hb); (try clear hb2); (try clear hk); (try clear hi)) | ((with_reducible refine gate_dst (N := 38) rfl ?_); (try (refine gate_guard (by rfl) ?_; dsimp only)); refine Kd.R_lit k28 _ 28 ?hg (N := 38) ?hd (xs := ([(⟨t305, t306, t307⟩ : Val)] : List (Val))) (inner := [.bool t305, .string t306, .int .i64 t307]) (ok := fun _ => True) (okp := fun _ => True) ?hr ?hp (fun _ hk => hk) trivial (Below.refl _ _) (Nat.le_refl _) (by simp) ?_; (case hd => rfl); (case hg => rfl); (case hr => first | (go_simp; done) | (go_simp; rfl)); (case hp => exact (Reps.c3 (show Kd.M k28 _ _ _ (⟨t305, t306, t307⟩ : Val) [.bool t305, .string t306, .int .i64 t307] from (k28_mkM _ _ _ (⟨t305, t306, t307⟩ : Val) )) (Reps.none _ _))); intro v309 w24 ho25 hb hg_ hnew_; clear hg_ hnew_; (first | rw [← Ny308.out] at ho25 | (simp only [Int.reduceToNat] at ho25; rw [← Ny308.out] at ho25)); replace HO_10 := am (Kd.N_elder' (by (with_reducible repeat (first | apply Kd.N_alloc | apply Kd.N_drewN | apply Kd.N_drew)); exact HO_10.out) (Kd.R_base ho25) hb); have HO310 := am (Kd.R_lower ho25 (below_size (pL HB.out))); replace HB := am (bs_ HB.out hb); clear hb ho25; obtain ⟨Ao26, co26, eo26⟩ := Kd.N_slice HO_10.out; subst eo26; obtain ⟨Ao27, co27, eo27⟩ := Kd.R_slice HO310.out; subst eo27) | ((with_reducible refine gate_callee (f := 9) rfl ?_); refine goesL_ (some 39) rfl rfl Try.func9 (by kernel_rfl) rfl #[.slice Ao26 t302.length co26, .string (⟨#[110, 111, 100, 101]⟩ : ByteArray), .slice Ao27 y308.length co27] rfl (by (try simp only [List.map_toArray, List.map_cons, List.map_nil]); first | done | rfl | (simp only [List.length_drop, List.length_take]; rfl)) ?_; (with_reducible refine (facts_Has.calls _ _ t302 (⟨#[110, 111, 100, 101]⟩ : ByteArray) _ _ y308 t311 _ ?side1 ?side2 ?side3 ?side4 A14.out).mono ?_); (case side1 => repeat (first | exact (Kd.N_reads' HO_10.out).2.2 | (with_reducible refine Kd.C_alloc ?_ _) | (with_reducible refine Kd.C_drewN ?_ _) | (with_reducible refine Kd.C_drew ?_))); (case side2 => exact (Kd.N_reads' HO_10.out).2.1); (case side3 => repeat (first | exact (Kd.R_reads' HO310.out).2.2 | (with_reducible refine Kd.C_alloc ?_ _) | (with_reducible refine Kd.C_drewN ?_ _) | (with_reducible refine Kd.C_drew ?_))); (case side4 => exact (Kd.R_reads' HO310.out).2.1); rintro e w28 ⟨rfl, hb⟩; refine ⟨_, rfl, ?_⟩; replace HO_10 := am (Kd.N_below (by (with_reducible repeat (first | apply Kd.N_alloc | apply Kd.N_drewN | apply Kd.N_drew)); exact HO_10.out) hb); replace HO310 := am (Rb_ HO310.out hb); replace HB := am (bs_ HB.out hb); (try clear hb); (try clear hb2); (try clear hk); (try clear hi)) | ((with_reducible refine gate_callee (f := 11) rfl ?_); refine goesL_ (some 44) rfl rfl Try.func11 (by kernel_rfl) rfl #[.slice A0 l0.length c0, .int .i64 a1] rfl (by (try simp only [List.map_toArray, List.map_cons, List.map_nil]); first | done | rfl | (simp only [List.length_drop, List.length_take]; rfl)) ?_; (with_reducible refine (cfg_Next.calls _ _ l0 a1 t312 _ ?side1 ?side2 A22.out).mono ?_); (case side1 => repeat (first | exact (Kd.C_below HR0.out HB.out) | (with_reducible refine Kd.C_alloc ?_ _) | (with_reducible refine Kd.C_drewN ?_ _) | (with_reducible refine Kd.C_drew ?_))); (case side2 => exact HC0.out); rintro e w29 ⟨v313, rfl, ho0, hb⟩; refine ⟨_, rfl, ?_⟩; replace HO_10 := am (Kd.N_elder' (by (with_reducible repeat (first | apply Kd.N_alloc | apply Kd.N_drewN | apply Kd.N_drew)); exact HO_10.out) (Kd.R_base ho0) hb); replace HO310 := am (Rb_ HO310.out hb); have HO314 := am (Kd.R_lower ho0 (below_size (pL HB.out))); replace HB := am (bs_ HB.out hb); (try clear hb); (try clear hb2); (try clear hk); (try clear hi); (try clear ho0)))
     go_loopg [12, 14] kj8 (fun kq v12 v14 w' => ∃ (x12_2 : Bool) (x14_2 : Int), v12 = .bool x12_2 ∧ v14 = .int .i64 x14_2 ∧ Aside0 (lambrequinlaw21_FactsTell.l0 kq l0 a1 a2 a3 t301 t302 x11_8 x12_2 t312 x14_2 = some r) ∧ Aside0 (kq ≤ kj8) ∧ Aside0 (Kd.N k44 44 w' w.heap.size (fun k_ => some k_ ≠ (v313 : Value).ownBlock) (.slice Ao26 t302.length co26) t302) ∧ Aside0 (Kd.R (Kd.int .i64) 3 w' w.heap.size (fun _ => True) v313 t312) ∧ Aside0 (Below w.heap.size w w'))
     case atStart => exact ⟨(false), (0), rs_, rs_, H', ⟨Nat.le_refl _⟩, ⟨by (with_reducible repeat (first | apply Kd.N_alloc | apply Kd.N_drewN | apply Kd.N_drew)); exact Kd.N_mono HO_10.out (fun _ hk => hk.2)⟩, ⟨pR HO314.out⟩, ⟨pL HB.out⟩⟩
     case round =>
      clear H'
      try clear c1
      try clear p2
      try clear c3
      try clear c6
      try clear c6b0
      try clear c6b1
      try clear c7
      try clear c8
      try clear c9
      try clear c10
      try clear c11
      try clear c12
      try clear c12b0
      try clear c15
      try clear c15b0
      try clear c15b1
      try clear c15b2
      try clear p2
      obtain ⟨x12_2, x14_2, rfl, rfl, HA, HK2, HO_10, HO_13, HB⟩ := hrel
      cases gk with
      | zero => exact absurd HA.out (by simp [lambrequinlaw21_FactsTell.l0])
      | succ k2 =>
       have H := HA.out
       clear HA
       simp only [lambrequinlaw21_FactsTell.l0] at H
       by_cases c30 : x14_2 < (t312.length : Int)
       ·rw [if_pos c30] at H
        have c30b0 : decide (x14_2 < (t312.length : Int)) = true := decide_eq_true c30
        clear c30
        by_cases c31 : x12_2 = true
        ·subst c31
         have H1 : (lambrequinlaw21_FactsTell.l0 k2 l0 a1 a2 a3 t301 t302 x11_8 true t312 (wrap64 (x14_2 + 1))) = some r := by rw [if_pos rfl] at H; exact H
         clear H
         have H := H1
         clear H1
         have H' := am H
         clear H
         obtain ⟨Ao32, co32, eo32⟩ := Kd.R_slice HO_13.out
         subst eo32
         go_wp2
         go_roundg k2
         case measure => have := HJ8.out; have := HK2.out; omega
         case rel => exact ⟨(true), (wrap64 (x14_2 + 1)), rs_, rs_, H', ⟨by have := HJ8.out; have := HK2.out; omega⟩, ⟨by (with_reducible repeat (first | apply Kd.N_alloc | apply Kd.N_drewN | apply Kd.N_drew)); exact HO_10.out⟩, ⟨pR HO_13.out⟩, ⟨pL HB.out⟩⟩
        ·replace c31 := Bool.eq_false_iff.mpr c31
         subst c31
         have H1 : (if 0 ≤ x14_2 then (lambrequinlaw21_FactsTell.l0 k2 l0 a1 a2 a3 t301 t302 x11_8 ((rd t312 x14_2) == a2) t312 (wrap64 (x14_2 + 1))) else (none)) = some r := by rw [if_neg (show ¬ (false = true) by decide)] at H; exact H
         clear H
         have H := H1
         clear H1
         by_cases c33 : 0 ≤ x14_2
         ·rw [if_pos c33] at H
          have c33b0 : decide (0 ≤ x14_2) = true := decide_eq_true c33
          clear c33
          have H' := am H
          clear H
          obtain ⟨Ao34, co34, eo34⟩ := Kd.R_slice HO_13.out
          subst eo34
          have p315 : 0 ≤ (x14_2 : Int) := dt_
          have q315 : x14_2 < (t312.length : Int) := dt_
          obtain ⟨ad315, e315, hx315_0⟩ := Kd.at_int (Kd.R_reads' HO_13.out).2.2 x14_2 p315 q315
          cases e315
          replace p315 := eq_true p315
          replace q315 := eq_true q315
          go_wp2
          go_roundg k2
          case measure => have := HJ8.out; have := HK2.out; omega
          case rel => exact ⟨(((rd t312 x14_2) == a2)), (wrap64 (x14_2 + 1)), rs_, rs_, H', ⟨by have := HJ8.out; have := HK2.out; omega⟩, ⟨by (with_reducible repeat (first | apply Kd.N_alloc | apply Kd.N_drewN | apply Kd.N_drew)); exact HO_10.out⟩, ⟨pR HO_13.out⟩, ⟨pL HB.out⟩⟩
         ·rw [if_neg c33] at H
          exact absurd H (by simp)
       ·rw [if_neg c30] at H
        have c30b0 : decide (x14_2 < (t312.length : Int)) = false := decide_eq_false c30
        clear c30
        have HC35 := am H
        clear H
        obtain ⟨Ao36, co36, eo36⟩ := Kd.R_slice HO_13.out
        subst eo36
        go_upto_if 61 with (first | ((with_reducible refine gate_dst (N := 15) rfl ?_); (try (refine gate_guard (by rfl) ?_; dsimp only)); refine box_event ?hg (N := 15) ?hd (cs := #[.int .i64 0, .string (⟨#[]⟩ : ByteArray), .string (⟨#[]⟩ : ByteArray), .string (⟨#[]⟩ : ByteArray), .string (⟨#[]⟩ : ByteArray), .int .i64 0, .int .i64 0, .int .i64 0]) (t := 33) ?hr ?_; (case hd => rfl); (case hg => rfl); (case hr => first | (go_simp; done) | (go_simp; rfl)); intro gb316 hg w37 hbox hb; replace HO_10 := am (Kd.N_below (Kd.N_elderB (by (with_reducible repeat (first | apply Kd.N_alloc | apply Kd.N_drewN | apply Kd.N_drew)); exact HO_10.out) gb316 (Nat.le_of_eq hg.symm)) hb); replace HO_13 := am (Rb_ HO_13.out hb); have BK316 := am (hbox); have GW316 := am (gw_ hg HB.out); have GE316 := GW316; replace HB := am (bs_ HB.out hb); clear hb hbox hg; obtain ⟨hcz38_0, hcz38_1, hcz38_2, hcz38_3, hcz38_4, hcz38_5, hcz38_6, hcz38_7, hfz38_0, hfz38_1, hfz38_2, hfz38_3, hfz38_4, hfz38_5, hfz38_6, hfz38_7⟩ := bc8 BK316.out))
        (try simp only [Act.put, List.setIfInBounds_toArray, List.set_cons_zero, List.set_cons_succ])
        go_cut [] (fun wc => ∃ (kq : Nat) (x317000_34 : Int) (x317001_34 : ByteArray) (x317002_34 : ByteArray) (x317003_34 : ByteArray) (x317004_34 : ByteArray) (x317005_34 : Int) (x317006_34 : Int) (x317007_34 : Int), Aside0 (lambrequinlaw21_FactsTell.j2 kq a1 a2 a3 t301 t302 x11_8 x12_2 x317000_34 x317001_34 x317002_34 x317003_34 x317004_34 x317005_34 x317006_34 x317007_34 = some r) ∧ Aside0 (kq ≤ k2) ∧ Aside0 (Kd.N k44 44 wc w.heap.size (fun k_ => k_ ≠ gb316) (.slice Ao26 t302.length co26) t302) ∧ Aside0 (wc.heap[gb316]? = some (.cells #[.int .i64 x317000_34, .string x317001_34, .string x317002_34, .string x317003_34, .string x317004_34, .int .i64 x317005_34, .int .i64 x317006_34, .int .i64 x317007_34] 33 (0, 0))) ∧ Aside0 (Below w.heap.size w wc))
        case first =>
         have H := HC35.out
         clear HC35
         by_cases c39 : x11_8 = true
         ·subst c39
          have H1 : (if 0 ≤ a1 then (if a1 < (l0.length : Int) then (lambrequinlaw21_FactsTell.j2 k2 a1 a2 a3 t301 t302 true x12_2 ((rd_T33 l0 a1).kind) ((rd_T33 l0 a1).x) ((rd_T33 l0 a1).y) ((rd_T33 l0 a1).z) ((rd_T33 l0 a1).op) ((rd_T33 l0 a1).n) ((rd_T33 l0 a1).a) ((rd_T33 l0 a1).b)) else (none)) else (none)) = some r := by rw [if_pos rfl] at H; exact H
          clear H
          have H := H1
          clear H1
          by_cases c40 : 0 ≤ a1
          ·rw [if_pos c40] at H
           have c40b0 : decide (0 ≤ a1) = true := decide_eq_true c40
           clear c40
           (first | rw [c40b0] | (simp only [i64_w, i32_w]; rw [c40b0]) | skip)
           by_cases c41 : a1 < (l0.length : Int)
           ·rw [if_pos c41] at H
            have c41b0 : decide (a1 < (l0.length : Int)) = true := decide_eq_true c41
            clear c41
            have H' := am H
            clear H
            have p317 : 0 ≤ (a1 : Int) := dt_
            have q317 : a1 < (l0.length : Int) := dt_
            obtain ⟨ad317, e317, hx317_0, hx317_1, hx317_2, hx317_3, hx317_4, hx317_5, hx317_6, hx317_7⟩ := at_T33 HR0.out a1 p317 q317
            cases e317
            have hn317_0 : ad317.block ≠ gb316 := Nat.ne_of_lt (Nat.lt_of_lt_of_le (by have := blt_ hx317_0; first | rwa [add_block] at this | exact this) GW316.out)
            have hn317_1 : ad317.block ≠ gb316 := Nat.ne_of_lt (Nat.lt_of_lt_of_le (by have := blt_ hx317_0; first | rwa [add_block] at this | exact this) GW316.out)
            have hn317_2 : ad317.block ≠ gb316 := Nat.ne_of_lt (Nat.lt_of_lt_of_le (by have := blt_ hx317_0; first | rwa [add_block] at this | exact this) GW316.out)
            have hn317_3 : ad317.block ≠ gb316 := Nat.ne_of_lt (Nat.lt_of_lt_of_le (by have := blt_ hx317_0; first | rwa [add_block] at this | exact this) GW316.out)
            have hn317_4 : ad317.block ≠ gb316 := Nat.ne_of_lt (Nat.lt_of_lt_of_le (by have := blt_ hx317_0; first | rwa [add_block] at this | exact this) GW316.out)
            have hn317_5 : ad317.block ≠ gb316 := Nat.ne_of_lt (Nat.lt_of_lt_of_le (by have := blt_ hx317_0; first | rwa [add_block] at this | exact this) GW316.out)
            have hn317_6 : ad317.block ≠ gb316 := Nat.ne_of_lt (Nat.lt_of_lt_of_le (by have := blt_ hx317_0; first | rwa [add_block] at this | exact this) GW316.out)
            have hn317_7 : ad317.block ≠ gb316 := Nat.ne_of_lt (Nat.lt_of_lt_of_le (by have := blt_ hx317_0; first | rwa [add_block] at this | exact this) GW316.out)
            replace hx317_0 := up_ HB.out hx317_0
            replace hx317_1 := up_ HB.out hx317_1
            replace hx317_2 := up_ HB.out hx317_2
            replace hx317_3 := up_ HB.out hx317_3
            replace hx317_4 := up_ HB.out hx317_4
            replace hx317_5 := up_ HB.out hx317_5
            replace hx317_6 := up_ HB.out hx317_6
            replace hx317_7 := up_ HB.out hx317_7
            replace hx317_0 := (cell_far (p := ⟨gb316, 0, none⟩) (by first | (rw [add_block]; exact hn317_0) | (show (Addr.add _ _).block ≠ _; rw [add_block]; exact hn317_0) | exact hn317_0) (.int .i64 0)).trans hx317_0
            replace hx317_1 := (cell_far (p := ⟨gb316, 0, none⟩) (by first | (rw [add_block]; exact hn317_0) | (show (Addr.add _ _).block ≠ _; rw [add_block]; exact hn317_0) | exact hn317_0) (.int .i64 0)).trans hx317_1
            replace hx317_2 := (cell_far (p := ⟨gb316, 0, none⟩) (by first | (rw [add_block]; exact hn317_0) | (show (Addr.add _ _).block ≠ _; rw [add_block]; exact hn317_0) | exact hn317_0) (.int .i64 0)).trans hx317_2
            replace hx317_3 := (cell_far (p := ⟨gb316, 0, none⟩) (by first | (rw [add_block]; exact hn317_0) | (show (Addr.add _ _).block ≠ _; rw [add_block]; exact hn317_0) | exact hn317_0) (.int .i64 0)).trans hx317_3
            replace hx317_4 := (cell_far (p := ⟨gb316, 0, none⟩) (by first | (rw [add_block]; exact hn317_0) | (show (Addr.add _ _).block ≠ _; rw [add_block]; exact hn317_0) | exact hn317_0) (.int .i64 0)).trans hx317_4
            replace hx317_5 := (cell_far (p := ⟨gb316, 0, none⟩) (by first | (rw [add_block]; exact hn317_0) | (show (Addr.add _ _).block ≠ _; rw [add_block]; exact hn317_0) | exact hn317_0) (.int .i64 0)).trans hx317_5
            replace hx317_6 := (cell_far (p := ⟨gb316, 0, none⟩) (by first | (rw [add_block]; exact hn317_0) | (show (Addr.add _ _).block ≠ _; rw [add_block]; exact hn317_0) | exact hn317_0) (.int .i64 0)).trans hx317_6
            replace hx317_7 := (cell_far (p := ⟨gb316, 0, none⟩) (by first | (rw [add_block]; exact hn317_0) | (show (Addr.add _ _).block ≠ _; rw [add_block]; exact hn317_0) | exact hn317_0) (.int .i64 0)).trans hx317_7
            replace hx317_0 := (cell_far (p := ⟨gb316, 1, none⟩) (by first | (rw [add_block]; exact hn317_1) | (show (Addr.add _ _).block ≠ _; rw [add_block]; exact hn317_1) | exact hn317_1) (.string (⟨#[]⟩ : ByteArray))).trans hx317_0
            replace hx317_1 := (cell_far (p := ⟨gb316, 1, none⟩) (by first | (rw [add_block]; exact hn317_1) | (show (Addr.add _ _).block ≠ _; rw [add_block]; exact hn317_1) | exact hn317_1) (.string (⟨#[]⟩ : ByteArray))).trans hx317_1
            replace hx317_2 := (cell_far (p := ⟨gb316, 1, none⟩) (by first | (rw [add_block]; exact hn317_1) | (show (Addr.add _ _).block ≠ _; rw [add_block]; exact hn317_1) | exact hn317_1) (.string (⟨#[]⟩ : ByteArray))).trans hx317_2
            replace hx317_3 := (cell_far (p := ⟨gb316, 1, none⟩) (by first | (rw [add_block]; exact hn317_1) | (show (Addr.add _ _).block ≠ _; rw [add_block]; exact hn317_1) | exact hn317_1) (.string (⟨#[]⟩ : ByteArray))).trans hx317_3
            replace hx317_4 := (cell_far (p := ⟨gb316, 1, none⟩) (by first | (rw [add_block]; exact hn317_1) | (show (Addr.add _ _).block ≠ _; rw [add_block]; exact hn317_1) | exact hn317_1) (.string (⟨#[]⟩ : ByteArray))).trans hx317_4
            replace hx317_5 := (cell_far (p := ⟨gb316, 1, none⟩) (by first | (rw [add_block]; exact hn317_1) | (show (Addr.add _ _).block ≠ _; rw [add_block]; exact hn317_1) | exact hn317_1) (.string (⟨#[]⟩ : ByteArray))).trans hx317_5
            replace hx317_6 := (cell_far (p := ⟨gb316, 1, none⟩) (by first | (rw [add_block]; exact hn317_1) | (show (Addr.add _ _).block ≠ _; rw [add_block]; exact hn317_1) | exact hn317_1) (.string (⟨#[]⟩ : ByteArray))).trans hx317_6
            replace hx317_7 := (cell_far (p := ⟨gb316, 1, none⟩) (by first | (rw [add_block]; exact hn317_1) | (show (Addr.add _ _).block ≠ _; rw [add_block]; exact hn317_1) | exact hn317_1) (.string (⟨#[]⟩ : ByteArray))).trans hx317_7
            replace hx317_0 := (cell_far (p := ⟨gb316, 2, none⟩) (by first | (rw [add_block]; exact hn317_2) | (show (Addr.add _ _).block ≠ _; rw [add_block]; exact hn317_2) | exact hn317_2) (.string (⟨#[]⟩ : ByteArray))).trans hx317_0
            replace hx317_1 := (cell_far (p := ⟨gb316, 2, none⟩) (by first | (rw [add_block]; exact hn317_2) | (show (Addr.add _ _).block ≠ _; rw [add_block]; exact hn317_2) | exact hn317_2) (.string (⟨#[]⟩ : ByteArray))).trans hx317_1
            replace hx317_2 := (cell_far (p := ⟨gb316, 2, none⟩) (by first | (rw [add_block]; exact hn317_2) | (show (Addr.add _ _).block ≠ _; rw [add_block]; exact hn317_2) | exact hn317_2) (.string (⟨#[]⟩ : ByteArray))).trans hx317_2
            replace hx317_3 := (cell_far (p := ⟨gb316, 2, none⟩) (by first | (rw [add_block]; exact hn317_2) | (show (Addr.add _ _).block ≠ _; rw [add_block]; exact hn317_2) | exact hn317_2) (.string (⟨#[]⟩ : ByteArray))).trans hx317_3
            replace hx317_4 := (cell_far (p := ⟨gb316, 2, none⟩) (by first | (rw [add_block]; exact hn317_2) | (show (Addr.add _ _).block ≠ _; rw [add_block]; exact hn317_2) | exact hn317_2) (.string (⟨#[]⟩ : ByteArray))).trans hx317_4
            replace hx317_5 := (cell_far (p := ⟨gb316, 2, none⟩) (by first | (rw [add_block]; exact hn317_2) | (show (Addr.add _ _).block ≠ _; rw [add_block]; exact hn317_2) | exact hn317_2) (.string (⟨#[]⟩ : ByteArray))).trans hx317_5
            replace hx317_6 := (cell_far (p := ⟨gb316, 2, none⟩) (by first | (rw [add_block]; exact hn317_2) | (show (Addr.add _ _).block ≠ _; rw [add_block]; exact hn317_2) | exact hn317_2) (.string (⟨#[]⟩ : ByteArray))).trans hx317_6
            replace hx317_7 := (cell_far (p := ⟨gb316, 2, none⟩) (by first | (rw [add_block]; exact hn317_2) | (show (Addr.add _ _).block ≠ _; rw [add_block]; exact hn317_2) | exact hn317_2) (.string (⟨#[]⟩ : ByteArray))).trans hx317_7
            replace hx317_0 := (cell_far (p := ⟨gb316, 3, none⟩) (by first | (rw [add_block]; exact hn317_3) | (show (Addr.add _ _).block ≠ _; rw [add_block]; exact hn317_3) | exact hn317_3) (.string (⟨#[]⟩ : ByteArray))).trans hx317_0
            replace hx317_1 := (cell_far (p := ⟨gb316, 3, none⟩) (by first | (rw [add_block]; exact hn317_3) | (show (Addr.add _ _).block ≠ _; rw [add_block]; exact hn317_3) | exact hn317_3) (.string (⟨#[]⟩ : ByteArray))).trans hx317_1
            replace hx317_2 := (cell_far (p := ⟨gb316, 3, none⟩) (by first | (rw [add_block]; exact hn317_3) | (show (Addr.add _ _).block ≠ _; rw [add_block]; exact hn317_3) | exact hn317_3) (.string (⟨#[]⟩ : ByteArray))).trans hx317_2
            replace hx317_3 := (cell_far (p := ⟨gb316, 3, none⟩) (by first | (rw [add_block]; exact hn317_3) | (show (Addr.add _ _).block ≠ _; rw [add_block]; exact hn317_3) | exact hn317_3) (.string (⟨#[]⟩ : ByteArray))).trans hx317_3
            replace hx317_4 := (cell_far (p := ⟨gb316, 3, none⟩) (by first | (rw [add_block]; exact hn317_3) | (show (Addr.add _ _).block ≠ _; rw [add_block]; exact hn317_3) | exact hn317_3) (.string (⟨#[]⟩ : ByteArray))).trans hx317_4
            replace hx317_5 := (cell_far (p := ⟨gb316, 3, none⟩) (by first | (rw [add_block]; exact hn317_3) | (show (Addr.add _ _).block ≠ _; rw [add_block]; exact hn317_3) | exact hn317_3) (.string (⟨#[]⟩ : ByteArray))).trans hx317_5
            replace hx317_6 := (cell_far (p := ⟨gb316, 3, none⟩) (by first | (rw [add_block]; exact hn317_3) | (show (Addr.add _ _).block ≠ _; rw [add_block]; exact hn317_3) | exact hn317_3) (.string (⟨#[]⟩ : ByteArray))).trans hx317_6
            replace hx317_7 := (cell_far (p := ⟨gb316, 3, none⟩) (by first | (rw [add_block]; exact hn317_3) | (show (Addr.add _ _).block ≠ _; rw [add_block]; exact hn317_3) | exact hn317_3) (.string (⟨#[]⟩ : ByteArray))).trans hx317_7
            replace hx317_0 := (cell_far (p := ⟨gb316, 4, none⟩) (by first | (rw [add_block]; exact hn317_4) | (show (Addr.add _ _).block ≠ _; rw [add_block]; exact hn317_4) | exact hn317_4) (.string (⟨#[]⟩ : ByteArray))).trans hx317_0
            replace hx317_1 := (cell_far (p := ⟨gb316, 4, none⟩) (by first | (rw [add_block]; exact hn317_4) | (show (Addr.add _ _).block ≠ _; rw [add_block]; exact hn317_4) | exact hn317_4) (.string (⟨#[]⟩ : ByteArray))).trans hx317_1
            replace hx317_2 := (cell_far (p := ⟨gb316, 4, none⟩) (by first | (rw [add_block]; exact hn317_4) | (show (Addr.add _ _).block ≠ _; rw [add_block]; exact hn317_4) | exact hn317_4) (.string (⟨#[]⟩ : ByteArray))).trans hx317_2
            replace hx317_3 := (cell_far (p := ⟨gb316, 4, none⟩) (by first | (rw [add_block]; exact hn317_4) | (show (Addr.add _ _).block ≠ _; rw [add_block]; exact hn317_4) | exact hn317_4) (.string (⟨#[]⟩ : ByteArray))).trans hx317_3
            replace hx317_4 := (cell_far (p := ⟨gb316, 4, none⟩) (by first | (rw [add_block]; exact hn317_4) | (show (Addr.add _ _).block ≠ _; rw [add_block]; exact hn317_4) | exact hn317_4) (.string (⟨#[]⟩ : ByteArray))).trans hx317_4
            replace hx317_5 := (cell_far (p := ⟨gb316, 4, none⟩) (by first | (rw [add_block]; exact hn317_4) | (show (Addr.add _ _).block ≠ _; rw [add_block]; exact hn317_4) | exact hn317_4) (.string (⟨#[]⟩ : ByteArray))).trans hx317_5
            replace hx317_6 := (cell_far (p := ⟨gb316, 4, none⟩) (by first | (rw [add_block]; exact hn317_4) | (show (Addr.add _ _).block ≠ _; rw [add_block]; exact hn317_4) | exact hn317_4) (.string (⟨#[]⟩ : ByteArray))).trans hx317_6
            replace hx317_7 := (cell_far (p := ⟨gb316, 4, none⟩) (by first | (rw [add_block]; exact hn317_4) | (show (Addr.add _ _).block ≠ _; rw [add_block]; exact hn317_4) | exact hn317_4) (.string (⟨#[]⟩ : ByteArray))).trans hx317_7
            replace hx317_0 := (cell_far (p := ⟨gb316, 5, none⟩) (by first | (rw [add_block]; exact hn317_5) | (show (Addr.add _ _).block ≠ _; rw [add_block]; exact hn317_5) | exact hn317_5) (.int .i64 0)).trans hx317_0
            replace hx317_1 := (cell_far (p := ⟨gb316, 5, none⟩) (by first | (rw [add_block]; exact hn317_5) | (show (Addr.add _ _).block ≠ _; rw [add_block]; exact hn317_5) | exact hn317_5) (.int .i64 0)).trans hx317_1
            replace hx317_2 := (cell_far (p := ⟨gb316, 5, none⟩) (by first | (rw [add_block]; exact hn317_5) | (show (Addr.add _ _).block ≠ _; rw [add_block]; exact hn317_5) | exact hn317_5) (.int .i64 0)).trans hx317_2
            replace hx317_3 := (cell_far (p := ⟨gb316, 5, none⟩) (by first | (rw [add_block]; exact hn317_5) | (show (Addr.add _ _).block ≠ _; rw [add_block]; exact hn317_5) | exact hn317_5) (.int .i64 0)).trans hx317_3
            replace hx317_4 := (cell_far (p := ⟨gb316, 5, none⟩) (by first | (rw [add_block]; exact hn317_5) | (show (Addr.add _ _).block ≠ _; rw [add_block]; exact hn317_5) | exact hn317_5) (.int .i64 0)).trans hx317_4
            replace hx317_5 := (cell_far (p := ⟨gb316, 5, none⟩) (by first | (rw [add_block]; exact hn317_5) | (show (Addr.add _ _).block ≠ _; rw [add_block]; exact hn317_5) | exact hn317_5) (.int .i64 0)).trans hx317_5
            replace hx317_6 := (cell_far (p := ⟨gb316, 5, none⟩) (by first | (rw [add_block]; exact hn317_5) | (show (Addr.add _ _).block ≠ _; rw [add_block]; exact hn317_5) | exact hn317_5) (.int .i64 0)).trans hx317_6
            replace hx317_7 := (cell_far (p := ⟨gb316, 5, none⟩) (by first | (rw [add_block]; exact hn317_5) | (show (Addr.add _ _).block ≠ _; rw [add_block]; exact hn317_5) | exact hn317_5) (.int .i64 0)).trans hx317_7
            replace hx317_0 := (cell_far (p := ⟨gb316, 6, none⟩) (by first | (rw [add_block]; exact hn317_6) | (show (Addr.add _ _).block ≠ _; rw [add_block]; exact hn317_6) | exact hn317_6) (.int .i64 0)).trans hx317_0
            replace hx317_1 := (cell_far (p := ⟨gb316, 6, none⟩) (by first | (rw [add_block]; exact hn317_6) | (show (Addr.add _ _).block ≠ _; rw [add_block]; exact hn317_6) | exact hn317_6) (.int .i64 0)).trans hx317_1
            replace hx317_2 := (cell_far (p := ⟨gb316, 6, none⟩) (by first | (rw [add_block]; exact hn317_6) | (show (Addr.add _ _).block ≠ _; rw [add_block]; exact hn317_6) | exact hn317_6) (.int .i64 0)).trans hx317_2
            replace hx317_3 := (cell_far (p := ⟨gb316, 6, none⟩) (by first | (rw [add_block]; exact hn317_6) | (show (Addr.add _ _).block ≠ _; rw [add_block]; exact hn317_6) | exact hn317_6) (.int .i64 0)).trans hx317_3
            replace hx317_4 := (cell_far (p := ⟨gb316, 6, none⟩) (by first | (rw [add_block]; exact hn317_6) | (show (Addr.add _ _).block ≠ _; rw [add_block]; exact hn317_6) | exact hn317_6) (.int .i64 0)).trans hx317_4
            replace hx317_5 := (cell_far (p := ⟨gb316, 6, none⟩) (by first | (rw [add_block]; exact hn317_6) | (show (Addr.add _ _).block ≠ _; rw [add_block]; exact hn317_6) | exact hn317_6) (.int .i64 0)).trans hx317_5
            replace hx317_6 := (cell_far (p := ⟨gb316, 6, none⟩) (by first | (rw [add_block]; exact hn317_6) | (show (Addr.add _ _).block ≠ _; rw [add_block]; exact hn317_6) | exact hn317_6) (.int .i64 0)).trans hx317_6
            replace hx317_7 := (cell_far (p := ⟨gb316, 6, none⟩) (by first | (rw [add_block]; exact hn317_6) | (show (Addr.add _ _).block ≠ _; rw [add_block]; exact hn317_6) | exact hn317_6) (.int .i64 0)).trans hx317_7
            replace hx317_0 := (cell_far (p := ⟨gb316, 7, none⟩) (by first | (rw [add_block]; exact hn317_7) | (show (Addr.add _ _).block ≠ _; rw [add_block]; exact hn317_7) | exact hn317_7) (.int .i64 0)).trans hx317_0
            replace hx317_1 := (cell_far (p := ⟨gb316, 7, none⟩) (by first | (rw [add_block]; exact hn317_7) | (show (Addr.add _ _).block ≠ _; rw [add_block]; exact hn317_7) | exact hn317_7) (.int .i64 0)).trans hx317_1
            replace hx317_2 := (cell_far (p := ⟨gb316, 7, none⟩) (by first | (rw [add_block]; exact hn317_7) | (show (Addr.add _ _).block ≠ _; rw [add_block]; exact hn317_7) | exact hn317_7) (.int .i64 0)).trans hx317_2
            replace hx317_3 := (cell_far (p := ⟨gb316, 7, none⟩) (by first | (rw [add_block]; exact hn317_7) | (show (Addr.add _ _).block ≠ _; rw [add_block]; exact hn317_7) | exact hn317_7) (.int .i64 0)).trans hx317_3
            replace hx317_4 := (cell_far (p := ⟨gb316, 7, none⟩) (by first | (rw [add_block]; exact hn317_7) | (show (Addr.add _ _).block ≠ _; rw [add_block]; exact hn317_7) | exact hn317_7) (.int .i64 0)).trans hx317_4
            replace hx317_5 := (cell_far (p := ⟨gb316, 7, none⟩) (by first | (rw [add_block]; exact hn317_7) | (show (Addr.add _ _).block ≠ _; rw [add_block]; exact hn317_7) | exact hn317_7) (.int .i64 0)).trans hx317_5
            replace hx317_6 := (cell_far (p := ⟨gb316, 7, none⟩) (by first | (rw [add_block]; exact hn317_7) | (show (Addr.add _ _).block ≠ _; rw [add_block]; exact hn317_7) | exact hn317_7) (.int .i64 0)).trans hx317_6
            replace hx317_7 := (cell_far (p := ⟨gb316, 7, none⟩) (by first | (rw [add_block]; exact hn317_7) | (show (Addr.add _ _).block ≠ _; rw [add_block]; exact hn317_7) | exact hn317_7) (.int .i64 0)).trans hx317_7
            clear hn317_0
            clear hn317_1
            clear hn317_2
            clear hn317_3
            clear hn317_4
            clear hn317_5
            clear hn317_6
            clear hn317_7
            replace p317 := eq_true p317
            replace q317 := eq_true q317
            obtain ⟨hcz42_0, hcz42_1, hcz42_2, hcz42_3, hcz42_4, hcz42_5, hcz42_6, hcz42_7, hfz42_0, hfz42_1, hfz42_2, hfz42_3, hfz42_4, hfz42_5, hfz42_6, hfz42_7⟩ := bc8 BK316.out
            go_wp2
            go_meet
            case rel => exact ⟨_, ((rd_T33 l0 a1).kind), ((rd_T33 l0 a1).x), ((rd_T33 l0 a1).y), ((rd_T33 l0 a1).z), ((rd_T33 l0 a1).op), ((rd_T33 l0 a1).n), ((rd_T33 l0 a1).a), ((rd_T33 l0 a1).b), H', ⟨by have := HJ8.out; have := HK2.out; first | omega | exact Nat.le_refl _⟩, ⟨by (with_reducible repeat (first | apply Kd.N_alloc | apply Kd.N_drewN | apply Kd.N_drew)); exact Kd.N_mono (Kd.N_far (p := ⟨gb316, 7, none⟩) (Kd.N_far (p := ⟨gb316, 6, none⟩) (Kd.N_far (p := ⟨gb316, 5, none⟩) (Kd.N_far (p := ⟨gb316, 4, none⟩) (Kd.N_far (p := ⟨gb316, 3, none⟩) (Kd.N_far (p := ⟨gb316, 2, none⟩) (Kd.N_far (p := ⟨gb316, 1, none⟩) (Kd.N_far (p := ⟨gb316, 0, none⟩) (Kd.N_far (p := ⟨gb316, 7, none⟩) (Kd.N_far (p := ⟨gb316, 6, none⟩) (Kd.N_far (p := ⟨gb316, 5, none⟩) (Kd.N_far (p := ⟨gb316, 4, none⟩) (Kd.N_far (p := ⟨gb316, 3, none⟩) (Kd.N_far (p := ⟨gb316, 2, none⟩) (Kd.N_far (p := ⟨gb316, 1, none⟩) (Kd.N_far (p := ⟨gb316, 0, none⟩) (Kd.N_mono HO_10.out (fun k_ hk => (⟨hk, hk.2⟩ : _ ∧ k_ ≠ gb316))) (fun _ hk => hk.2) _) (fun _ hk => hk.2) _) (fun _ hk => hk.2) _) (fun _ hk => hk.2) _) (fun _ hk => hk.2) _) (fun _ hk => hk.2) _) (fun _ hk => hk.2) _) (fun _ hk => hk.2) _) (fun _ hk => hk.2) _) (fun _ hk => hk.2) _) (fun _ hk => hk.2) _) (fun _ hk => hk.2) _) (fun _ hk => hk.2) _) (fun _ hk => hk.2) _) (fun _ hk => hk.2) _) (fun _ hk => hk.2) _) (fun _ hk => hk.1.2)⟩, ⟨by (with_reducible repeat (first | refine bN ?_ _ | refine bD ?_ | refine bA ?_ _)); exact bp 7 (bp 6 (bp 5 (bp 4 (bp 3 (bp 2 (bp 1 (bp 0 (bp 7 (bp 6 (bp 5 (bp 4 (bp 3 (bp 2 (bp 1 (bp 0 BK316.out)))))))))))))))⟩, ⟨pL HB.out⟩⟩
           ·rw [if_neg c41] at H
            exact absurd H (by simp)
          ·rw [if_neg c40] at H
           exact absurd H (by simp)
         ·replace c39 := Bool.eq_false_iff.mpr c39
          subst c39
          have H1 : (lambrequinlaw21_FactsTell.j2 k2 a1 a2 a3 t301 t302 false x12_2 0 (⟨#[]⟩ : ByteArray) (⟨#[]⟩ : ByteArray) (⟨#[]⟩ : ByteArray) (⟨#[]⟩ : ByteArray) 0 0 0) = some r := by rw [if_neg (show ¬ (false = true) by decide)] at H; exact H
          clear H
          have H := H1
          clear H1
          have H' := am H
          clear H
          go_wp2
          go_meet
          case rel => exact ⟨_, (0), ((⟨#[]⟩ : ByteArray)), ((⟨#[]⟩ : ByteArray)), ((⟨#[]⟩ : ByteArray)), ((⟨#[]⟩ : ByteArray)), (0), (0), (0), H', ⟨by have := HJ8.out; have := HK2.out; first | omega | exact Nat.le_refl _⟩, ⟨by (with_reducible repeat (first | apply Kd.N_alloc | apply Kd.N_drewN | apply Kd.N_drew)); exact Kd.N_mono (Kd.N_far (p := ⟨gb316, 7, none⟩) (Kd.N_far (p := ⟨gb316, 6, none⟩) (Kd.N_far (p := ⟨gb316, 5, none⟩) (Kd.N_far (p := ⟨gb316, 4, none⟩) (Kd.N_far (p := ⟨gb316, 3, none⟩) (Kd.N_far (p := ⟨gb316, 2, none⟩) (Kd.N_far (p := ⟨gb316, 1, none⟩) (Kd.N_far (p := ⟨gb316, 0, none⟩) (Kd.N_mono HO_10.out (fun k_ hk => (⟨hk, hk.2⟩ : _ ∧ k_ ≠ gb316))) (fun _ hk => hk.2) _) (fun _ hk => hk.2) _) (fun _ hk => hk.2) _) (fun _ hk => hk.2) _) (fun _ hk => hk.2) _) (fun _ hk => hk.2) _) (fun _ hk => hk.2) _) (fun _ hk => hk.2) _) (fun _ hk => hk.1.2)⟩, ⟨by (with_reducible repeat (first | refine bN ?_ _ | refine bD ?_ | refine bA ?_ _)); exact bp 7 (bp 6 (bp 5 (bp 4 (bp 3 (bp 2 (bp 1 (bp 0 BK316.out)))))))⟩, ⟨pL HB.out⟩⟩
        case rest =>
         clear HC35
         try clear c1
         try clear p2
         try clear c3
         try clear p3
         try clear q3
         try clear hx3
         try clear c4
         try clear c6
         try clear c6b0
         try clear c6b1
         try clear p6
         try clear c7
         try clear c8
         try clear c9
         try clear c10
         try clear c11
         try clear c12
         try clear c12b0
         try clear c15
         try clear c15b0
         try clear c15b1
         try clear c15b2
         try clear c30
         try clear c30b0
         try clear c31
         try clear p31
         try clear q31
         try clear hx31
         try clear c33
         try clear c33b0
         try clear c39
         try clear c40
         try clear c40b0
         try clear c41
         try clear c41b0
         try clear hcz38_0
         try clear hcz38_1
         try clear hcz38_2
         try clear hcz38_3
         try clear hcz38_4
         try clear hcz38_5
         try clear hcz38_6
         try clear hcz38_7
         try clear hcz42_0
         try clear hcz42_1
         try clear hcz42_2
         try clear hcz42_3
         try clear hcz42_4
         try clear hcz42_5
         try clear hcz42_6
         try clear hcz42_7
         try clear hfz38_0
         try clear hfz38_1
         try clear hfz38_2
         try clear hfz38_3
         try clear hfz38_4
         try clear hfz38_5
         try clear hfz38_6
         try clear hfz38_7
         try clear hfz42_0
         try clear hfz42_1
         try clear hfz42_2
         try clear hfz42_3
         try clear hfz42_4
         try clear hfz42_5
         try clear hfz42_6
         try clear hfz42_7
         try clear hx315_0
         try clear hx317_0
         try clear hx317_1
         try clear hx317_2
         try clear hx317_3
         try clear hx317_4
         try clear hx317_5
         try clear hx317_6
         try clear hx317_7
         try clear p2
         try clear p315
         try clear p317
         try clear q315
         try clear q317
         obtain ⟨kq, x317000_34, x317001_34, x317002_34, x317003_34, x317004_34, x317005_34, x317006_34, x317007_34, HA, HJ34, HO_10, BK316, HB⟩ := hcut
         cases kq with
         | zero => exact absurd HA.out (by simp [lambrequinlaw21_FactsTell.j2])
         | succ kj34 =>
          have H := HA.out
          clear HA
          simp only [lambrequinlaw21_FactsTell.j2] at H
          replace H := Option.bind_eq_some_iff.mp H
          obtain ⟨⟨t318, t319⟩, A430, H⟩ := H
          replace H : (if x11_8 = true then (if t319 = true then (lambrequinlaw21_FactsTell.j3 kj34 a1 a2 a3 t301 t302 x11_8 x12_2 (t318.toList == a3.toList) x317000_34 x317001_34 x317002_34 x317003_34 x317004_34 x317005_34 x317006_34 x317007_34) else (lambrequinlaw21_FactsTell.j3 kj34 a1 a2 a3 t301 t302 x11_8 x12_2 false x317000_34 x317001_34 x317002_34 x317003_34 x317004_34 x317005_34 x317006_34 x317007_34)) else (lambrequinlaw21_FactsTell.j3 kj34 a1 a2 a3 t301 t302 x11_8 x12_2 false x317000_34 x317001_34 x317002_34 x317003_34 x317004_34 x317005_34 x317006_34 x317007_34)) = some r := H
          have A43 := am A430
          clear A430
          have HC44 := am H
          clear H
          obtain ⟨hcz45_0, hcz45_1, hcz45_2, hcz45_3, hcz45_4, hcz45_5, hcz45_6, hcz45_7, hfz45_0, hfz45_1, hfz45_2, hfz45_3, hfz45_4, hfz45_5, hfz45_6, hfz45_7⟩ := bc8 BK316.out
          go_upto_region 18 with (first | ((with_reducible refine gate_callee (f := 12) rfl ?_); refine goesL_ (some 68) rfl rfl Try.func12 (by kernel_rfl) rfl #[.agg #[.int .i64 x317000_34, .string x317001_34, .string x317002_34, .string x317003_34, .string x317004_34, .int .i64 x317005_34, .int .i64 x317006_34, .int .i64 x317007_34]] rfl (by (try simp only [List.map_toArray, List.map_cons, List.map_nil]); first | done | rfl | (simp only [List.length_drop, List.length_take]; rfl)) ?_; (with_reducible refine (cfg_Def.calls x317000_34 x317001_34 x317002_34 x317003_34 x317004_34 x317005_34 x317006_34 x317007_34 t318 t319 _ A43.out).mono ?_); rintro e w46 ⟨rfl, hb⟩; refine ⟨_, rfl, ?_⟩; replace HO_10 := am (Kd.N_below (by (with_reducible repeat (first | apply Kd.N_alloc | apply Kd.N_drewN | apply Kd.N_drew)); exact HO_10.out) hb); replace BK316 := am (bb_ BK316.out hb); replace HB := am (bs_ HB.out hb); (try clear hb); (try clear hb2); (try clear hk); (try clear hi)))
          (try simp only [Act.put, List.setIfInBounds_toArray, List.set_cons_zero, List.set_cons_succ])
          go_cut [18] (fun v18 wc => ∃ (kq : Nat) (x18_43 : Bool), v18 = .bool x18_43 ∧ Aside0 (lambrequinlaw21_FactsTell.j3 kq a1 a2 a3 t301 t302 x11_8 x12_2 x18_43 x317000_34 x317001_34 x317002_34 x317003_34 x317004_34 x317005_34 x317006_34 x317007_34 = some r) ∧ Aside0 (kq ≤ kj34) ∧ Aside0 (Kd.N k44 44 wc w.heap.size (fun k_ => k_ ≠ gb316) (.slice Ao26 t302.length co26) t302) ∧ Aside0 (wc.heap[gb316]? = some (.cells #[.int .i64 x317000_34, .string x317001_34, .string x317002_34, .string x317003_34, .string x317004_34, .int .i64 x317005_34, .int .i64 x317006_34, .int .i64 x317007_34] 33 (0, 0))) ∧ Aside0 (Below w.heap.size w wc))
          case first =>
           have H := HC44.out
           clear HC44
           by_cases c47 : x11_8 = true
           ·subst c47
            have H1 : (if t319 = true then (lambrequinlaw21_FactsTell.j3 kj34 a1 a2 a3 t301 t302 true x12_2 (t318.toList == a3.toList) x317000_34 x317001_34 x317002_34 x317003_34 x317004_34 x317005_34 x317006_34 x317007_34) else (lambrequinlaw21_FactsTell.j3 kj34 a1 a2 a3 t301 t302 true x12_2 false x317000_34 x317001_34 x317002_34 x317003_34 x317004_34 x317005_34 x317006_34 x317007_34)) = some r := by rw [if_pos rfl] at H; exact H
            clear H
            have H := H1
            clear H1
            by_cases c48 : t319 = true
            ·subst c48
             have H1 : (lambrequinlaw21_FactsTell.j3 kj34 a1 a2 a3 t301 t302 true x12_2 (t318.toList == a3.toList) x317000_34 x317001_34 x317002_34 x317003_34 x317004_34 x317005_34 x317006_34 x317007_34) = some r := by rw [if_pos rfl] at H; exact H
             clear H
             have H := H1
             clear H1
             have H' := am H
             clear H
             go_wp2
             go_meet
             case rel => exact ⟨_, ((t318.toList == a3.toList)), rs_, H', ⟨by have := HJ8.out; have := HK2.out; have := HJ34.out; first | omega | exact Nat.le_refl _⟩, ⟨by (with_reducible repeat (first | apply Kd.N_alloc | apply Kd.N_drewN | apply Kd.N_drew)); exact HO_10.out⟩, ⟨pB BK316.out⟩, ⟨pL HB.out⟩⟩
            ·replace c48 := Bool.eq_false_iff.mpr c48
             subst c48
             have H1 : (lambrequinlaw21_FactsTell.j3 kj34 a1 a2 a3 t301 t302 true x12_2 false x317000_34 x317001_34 x317002_34 x317003_34 x317004_34 x317005_34 x317006_34 x317007_34) = some r := by rw [if_neg (show ¬ (false = true) by decide)] at H; exact H
             clear H
             have H := H1
             clear H1
             have H' := am H
             clear H
             go_wp2
             go_meet
             case rel => exact ⟨_, (false), rs_, H', ⟨by have := HJ8.out; have := HK2.out; have := HJ34.out; first | omega | exact Nat.le_refl _⟩, ⟨by (with_reducible repeat (first | apply Kd.N_alloc | apply Kd.N_drewN | apply Kd.N_drew)); exact HO_10.out⟩, ⟨pB BK316.out⟩, ⟨pL HB.out⟩⟩
           ·replace c47 := Bool.eq_false_iff.mpr c47
            subst c47
            have H1 : (lambrequinlaw21_FactsTell.j3 kj34 a1 a2 a3 t301 t302 false x12_2 false x317000_34 x317001_34 x317002_34 x317003_34 x317004_34 x317005_34 x317006_34 x317007_34) = some r := by rw [if_neg (show ¬ (false = true) by decide)] at H; exact H
            clear H
            have H := H1
            clear H1
            have H' := am H
            clear H
            go_wp2
            go_meet
            case rel => exact ⟨_, (false), rs_, H', ⟨by have := HJ8.out; have := HK2.out; have := HJ34.out; first | omega | exact Nat.le_refl _⟩, ⟨by (with_reducible repeat (first | apply Kd.N_alloc | apply Kd.N_drewN | apply Kd.N_drew)); exact HO_10.out⟩, ⟨pB BK316.out⟩, ⟨pL HB.out⟩⟩
          case rest =>
           clear HC44
           try clear c1
           try clear p2
           try clear c3
           try clear p3
           try clear q3
           try clear hx3
           try clear c4
           try clear c6
           try clear c6b0
           try clear c6b1
           try clear p6
           try clear c7
           try clear c8
           try clear c9
           try clear c10
           try clear c11
           try clear c12
           try clear c12b0
           try clear c15
           try clear c15b0
           try clear c15b1
           try clear c15b2
           try clear c30
           try clear c30b0
           try clear c31
           try clear p31
           try clear q31
           try clear hx31
           try clear c33
           try clear c33b0
           try clear c39
           try clear c40
           try clear c40b0
           try clear c41
           try clear c41b0
           try clear c47
           try clear c48
           try clear hcz38_0
           try clear hcz38_1
           try clear hcz38_2
           try clear hcz38_3
           try clear hcz38_4
           try clear hcz38_5
           try clear hcz38_6
           try clear hcz38_7
           try clear hcz42_0
           try clear hcz42_1
           try clear hcz42_2
           try clear hcz42_3
           try clear hcz42_4
           try clear hcz42_5
           try clear hcz42_6
           try clear hcz42_7
           try clear hcz45_0
           try clear hcz45_1
           try clear hcz45_2
           try clear hcz45_3
           try clear hcz45_4
           try clear hcz45_5
           try clear hcz45_6
           try clear hcz45_7
           try clear hfz38_0
           try clear hfz38_1
           try clear hfz38_2
           try clear hfz38_3
           try clear hfz38_4
           try clear hfz38_5
           try clear hfz38_6
           try clear hfz38_7
           try clear hfz42_0
           try clear hfz42_1
           try clear hfz42_2
           try clear hfz42_3
           try clear hfz42_4
           try clear hfz42_5
           try clear hfz42_6
           try clear hfz42_7
           try clear hfz45_0
           try clear hfz45_1
           try clear hfz45_2
           try clear hfz45_3
           try clear hfz45_4
           try clear hfz45_5
           try clear hfz45_6
           try clear hfz45_7
           try clear hx315_0
           try clear hx317_0
           try clear hx317_1
           try clear hx317_2
           try clear hx317_3
           try clear hx317_4
           try clear hx317_5
           try clear hx317_6
           try clear hx317_7
           try clear p2
           try clear p3
           try clear p31
           try clear p315
           try clear p317
           try clear p6
           try clear q3
           try clear q31
           try clear q315
           try clear q317
           obtain ⟨kq, x18_43, rfl, HA, HJ43, HO_10, BK316, HB⟩ := hcut
           cases kq with
           | zero => exact absurd HA.out (by simp [lambrequinlaw21_FactsTell.j3])
           | succ kj43 =>
            have H := HA.out
            clear HA
            simp only [lambrequinlaw21_FactsTell.j3] at H
            have HC49 := am H
            clear H
            go_upto_region 19 with (fail)
            go_cut [19] (fun v19 wc => ∃ (kq : Nat) (x19_48 : Bool), v19 = .bool x19_48 ∧ Aside0 (lambrequinlaw21_FactsTell.j4 kq a1 a2 a3 t301 t302 x12_2 x18_43 x19_48 x317000_34 x317001_34 x317002_34 x317003_34 x317004_34 x317005_34 x317006_34 x317007_34 = some r) ∧ Aside0 (kq ≤ kj43) ∧ Aside0 (Kd.N k44 44 wc w.heap.size (fun k_ => k_ ≠ gb316) (.slice Ao26 t302.length co26) t302) ∧ Aside0 (wc.heap[gb316]? = some (.cells #[.int .i64 x317000_34, .string x317001_34, .string x317002_34, .string x317003_34, .string x317004_34, .int .i64 x317005_34, .int .i64 x317006_34, .int .i64 x317007_34] 33 (0, 0))) ∧ Aside0 (Below w.heap.size w wc))
            case first =>
             have H := HC49.out
             clear HC49
             by_cases c50 : x11_8 = true
             ·subst c50
              have H1 : ((cfg_Uses.f x317000_34 x317001_34 x317002_34 x317003_34 x317004_34 x317005_34 x317006_34 x317007_34).bind fun t320 => ((lambrequinref09_In.f kj43 t320 a3).bind fun t323 => (lambrequinlaw21_FactsTell.j4 kj43 a1 a2 a3 t301 t302 x12_2 x18_43 t323 x317000_34 x317001_34 x317002_34 x317003_34 x317004_34 x317005_34 x317006_34 x317007_34))) = some r := by rw [if_pos rfl] at H; exact H
              clear H
              have H := H1
              clear H1
              replace H := Option.bind_eq_some_iff.mp H
              obtain ⟨t320, A510, H⟩ := H
              replace H : ((lambrequinref09_In.f kj43 t320 a3).bind fun t323 => (lambrequinlaw21_FactsTell.j4 kj43 a1 a2 a3 t301 t302 x12_2 x18_43 t323 x317000_34 x317001_34 x317002_34 x317003_34 x317004_34 x317005_34 x317006_34 x317007_34)) = some r := H
              have A51 := am A510
              clear A510
              replace H := Option.bind_eq_some_iff.mp H
              obtain ⟨t323, A520, H⟩ := H
              replace H : (lambrequinlaw21_FactsTell.j4 kj43 a1 a2 a3 t301 t302 x12_2 x18_43 t323 x317000_34 x317001_34 x317002_34 x317003_34 x317004_34 x317005_34 x317006_34 x317007_34) = some r := H
              have A52 := am A520
              clear A520
              have H' := am H
              clear H
              obtain ⟨hcz53_0, hcz53_1, hcz53_2, hcz53_3, hcz53_4, hcz53_5, hcz53_6, hcz53_7, hfz53_0, hfz53_1, hfz53_2, hfz53_3, hfz53_4, hfz53_5, hfz53_6, hfz53_7⟩ := bc8 BK316.out
              go_wp2_with (first | (go_at_call 14; (with_reducible refine (cfg_Uses.calls x317000_34 x317001_34 x317002_34 x317003_34 x317004_34 x317005_34 x317006_34 x317007_34 t320 _ A51.out).mono ?_); rintro e w54 ⟨v321, rfl, ho0, hb⟩; (try clear A51); replace HO_10 := am (Kd.N_elder' (by (with_reducible repeat (first | apply Kd.N_alloc | apply Kd.N_drewN | apply Kd.N_drew)); exact HO_10.out) (Kd.R_base ho0) hb); have HO322 := am (Kd.R_lower ho0 (below_size (pL HB.out))); replace BK316 := am (bb_ BK316.out hb); replace HB := am (bs_ HB.out hb); (try clear hb); (try clear hb2); (try clear hk); (try clear hi); (try clear ho0); obtain ⟨Ao55, co55, eo55⟩ := Kd.R_slice HO322.out; subst eo55) | (go_at_call 13; (with_reducible refine (lambrequinref09_In.calls kj43 _ _ t320 a3 t323 _ ?side1 ?side2 A52.out).mono ?_); (case side1 => repeat (first | exact (Kd.R_reads' HO322.out).2.2 | (with_reducible refine Kd.C_alloc ?_ _) | (with_reducible refine Kd.C_drewN ?_ _) | (with_reducible refine Kd.C_drew ?_))); (case side2 => exact (Kd.R_reads' HO322.out).2.1); rintro e w' ⟨rfl, ⟨nd, rfl⟩⟩))
              go_meet
              case rel => exact ⟨_, (t323), rs_, H', ⟨by have := HJ8.out; have := HK2.out; have := HJ34.out; have := HJ43.out; first | omega | exact Nat.le_refl _⟩, ⟨by (with_reducible repeat (first | apply Kd.N_alloc | apply Kd.N_drewN | apply Kd.N_drew)); exact Kd.N_mono HO_10.out (fun _ hk => hk.1)⟩, ⟨pB BK316.out⟩, ⟨pL HB.out⟩⟩
             ·replace c50 := Bool.eq_false_iff.mpr c50
              subst c50
              have H1 : (lambrequinlaw21_FactsTell.j4 kj43 a1 a2 a3 t301 t302 x12_2 x18_43 false x317000_34 x317001_34 x317002_34 x317003_34 x317004_34 x317005_34 x317006_34 x317007_34) = some r := by rw [if_neg (show ¬ (false = true) by decide)] at H; exact H
              clear H
              have H := H1
              clear H1
              have H' := am H
              clear H
              go_wp2
              go_meet
              case rel => exact ⟨_, (false), rs_, H', ⟨by have := HJ8.out; have := HK2.out; have := HJ34.out; have := HJ43.out; first | omega | exact Nat.le_refl _⟩, ⟨by (with_reducible repeat (first | apply Kd.N_alloc | apply Kd.N_drewN | apply Kd.N_drew)); exact HO_10.out⟩, ⟨pB BK316.out⟩, ⟨pL HB.out⟩⟩
            case rest =>
             clear HC49
             try clear c1
             try clear p2
             try clear c3
             try clear p3
             try clear q3
             try clear hx3
             try clear c4
             try clear c5
             try clear c6
             try clear c6b0
             try clear c6b1
             try clear p6
             try clear c7
             try clear c8
             try clear c9
             try clear c10
             try clear c11
             try clear c12
             try clear c12b0
             try clear c15
             try clear c15b0
             try clear c15b1
             try clear c15b2
             try clear c30
             try clear c30b0
             try clear c31
             try clear p31
             try clear q31
             try clear hx31
             try clear c33
             try clear c33b0
             try clear c39
             try clear c40
             try clear c40b0
             try clear c41
             try clear c41b0
             try clear c47
             try clear c48
             try clear c50
             try clear hcz38_0
             try clear hcz38_1
             try clear hcz38_2
             try clear hcz38_3
             try clear hcz38_4
             try clear hcz38_5
             try clear hcz38_6
             try clear hcz38_7
             try clear hcz42_0
             try clear hcz42_1
             try clear hcz42_2
             try clear hcz42_3
             try clear hcz42_4
             try clear hcz42_5
             try clear hcz42_6
             try clear hcz42_7
             try clear hcz45_0
             try clear hcz45_1
             try clear hcz45_2
             try clear hcz45_3
             try clear hcz45_4
             try clear hcz45_5
             try clear hcz45_6
             try clear hcz45_7
             try clear hcz53_0
             try clear hcz53_1
             try clear hcz53_2
             try clear hcz53_3
             try clear hcz53_4
             try clear hcz53_5
             try clear hcz53_6
             try clear hcz53_7
             try clear hfz38_0
             try clear hfz38_1
             try clear hfz38_2
             try clear hfz38_3
             try clear hfz38_4
             try clear hfz38_5
             try clear hfz38_6
             try clear hfz38_7
             try clear hfz42_0
             try clear hfz42_1
             try clear hfz42_2
             try clear hfz42_3
             try clear hfz42_4
             try clear hfz42_5
             try clear hfz42_6
             try clear hfz42_7
             try clear hfz45_0
             try clear hfz45_1
             try clear hfz45_2
             try clear hfz45_3
             try clear hfz45_4
             try clear hfz45_5
             try clear hfz45_6
             try clear hfz45_7
             try clear hfz53_0
             try clear hfz53_1
             try clear hfz53_2
             try clear hfz53_3
             try clear hfz53_4
             try clear hfz53_5
             try clear hfz53_6
             try clear hfz53_7
             try clear hx315_0
             try clear hx317_0
             try clear hx317_1
             try clear hx317_2
             try clear hx317_3
             try clear hx317_4
             try clear hx317_5
             try clear hx317_6
             try clear hx317_7
             try clear p2
             try clear p3
             try clear p31
             try clear p315
             try clear p317
             try clear p6
             try clear q3
             try clear q31
             try clear q315
             try clear q317
             obtain ⟨kq, x19_48, rfl, HA, HJ48, HO_10, BK316, HB⟩ := hcut
             cases kq with
             | zero => exact absurd HA.out (by simp [lambrequinlaw21_FactsTell.j4])
             | succ kj48 =>
              have H := HA.out
              clear HA
              simp only [lambrequinlaw21_FactsTell.j4] at H
              by_cases c56 : t301 = true
              ·subst c56
               have H1 : ((lambrequinlaw21_num.f a1).bind fun bt324 => ((lambrequinlaw21_num.f a2).bind fun bt327 => ((facts_Has.f t302 (⟨#[110, 101, 120, 116]⟩ : ByteArray) (([(⟨bt324.1, bt324.2.1, bt324.2.2⟩ : Val), (⟨bt327.1, bt327.2.1, bt327.2.2⟩ : Val)] : List (Val)))).bind fun t333 => (if (t333 == x12_2) = true then ((lambrequinlaw21_num.f a1).bind fun bt334 => ((lambrequinlaw21_sym.f a3).bind fun bt337 => ((facts_Has.f t302 (⟨#[100, 101, 102]⟩ : ByteArray) (([(⟨bt334.1, bt334.2.1, bt334.2.2⟩ : Val), (⟨bt337.1, bt337.2.1, bt337.2.2⟩ : Val)] : List (Val)))).bind fun t343 => (if (t343 == x18_43) = true then ((lambrequinlaw21_num.f a1).bind fun bt344 => ((lambrequinlaw21_sym.f a3).bind fun bt347 => ((facts_Has.f t302 (⟨#[117, 115, 101]⟩ : ByteArray) (([(⟨bt344.1, bt344.2.1, bt344.2.2⟩ : Val), (⟨bt347.1, bt347.2.1, bt347.2.2⟩ : Val)] : List (Val)))).bind fun t353 => (if (t353 == x19_48) = true then ((lambrequinlaw21_num.f a1).bind fun bt354 => ((lambrequinlaw21_sym.f a3).bind fun bt357 => ((facts_Has.f t302 (⟨#[115, 111, 117, 114, 99, 101]⟩ : ByteArray) (([(⟨bt354.1, bt354.2.1, bt354.2.2⟩ : Val), (⟨bt357.1, bt357.2.1, bt357.2.2⟩ : Val)] : List (Val)))).bind fun t363 => (if x18_43 = true then (if (t363 == (x317000_34 == 4)) = true then ((lambrequinlaw21_num.f a1).bind fun bt364 => ((lambrequinlaw21_sym.f a3).bind fun bt367 => ((facts_Has.f t302 (⟨#[115, 105, 110, 107]⟩ : ByteArray) (([(⟨bt364.1, bt364.2.1, bt364.2.2⟩ : Val), (⟨bt367.1, bt367.2.1, bt367.2.2⟩ : Val)] : List (Val)))).bind fun t373 => (if x19_48 = true then (some (t373 == (x317000_34 == 6))) else (some (t373 == false)))))) else (none)) else (if (t363 == false) = true then ((lambrequinlaw21_num.f a1).bind fun bt374 => ((lambrequinlaw21_sym.f a3).bind fun bt377 => ((facts_Has.f t302 (⟨#[115, 105, 110, 107]⟩ : ByteArray) (([(⟨bt374.1, bt374.2.1, bt374.2.2⟩ : Val), (⟨bt377.1, bt377.2.1, bt377.2.2⟩ : Val)] : List (Val)))).bind fun t383 => (if x19_48 = true then (some (t383 == (x317000_34 == 6))) else (some (t383 == false)))))) else (none)))))) else (none))))) else (none))))) else (none))))) = some r := by rw [if_pos rfl] at H; exact H
               clear H
               have H := H1
               clear H1
               replace H := Option.bind_eq_some_iff.mp H
               obtain ⟨⟨t324, t325, t326⟩, A570, H⟩ := H
               replace H : ((lambrequinlaw21_num.f a2).bind fun bt327 => ((facts_Has.f t302 (⟨#[110, 101, 120, 116]⟩ : ByteArray) (([(⟨t324, t325, t326⟩ : Val), (⟨bt327.1, bt327.2.1, bt327.2.2⟩ : Val)] : List (Val)))).bind fun t333 => (if (t333 == x12_2) = true then ((lambrequinlaw21_num.f a1).bind fun bt334 => ((lambrequinlaw21_sym.f a3).bind fun bt337 => ((facts_Has.f t302 (⟨#[100, 101, 102]⟩ : ByteArray) (([(⟨bt334.1, bt334.2.1, bt334.2.2⟩ : Val), (⟨bt337.1, bt337.2.1, bt337.2.2⟩ : Val)] : List (Val)))).bind fun t343 => (if (t343 == x18_43) = true then ((lambrequinlaw21_num.f a1).bind fun bt344 => ((lambrequinlaw21_sym.f a3).bind fun bt347 => ((facts_Has.f t302 (⟨#[117, 115, 101]⟩ : ByteArray) (([(⟨bt344.1, bt344.2.1, bt344.2.2⟩ : Val), (⟨bt347.1, bt347.2.1, bt347.2.2⟩ : Val)] : List (Val)))).bind fun t353 => (if (t353 == x19_48) = true then ((lambrequinlaw21_num.f a1).bind fun bt354 => ((lambrequinlaw21_sym.f a3).bind fun bt357 => ((facts_Has.f t302 (⟨#[115, 111, 117, 114, 99, 101]⟩ : ByteArray) (([(⟨bt354.1, bt354.2.1, bt354.2.2⟩ : Val), (⟨bt357.1, bt357.2.1, bt357.2.2⟩ : Val)] : List (Val)))).bind fun t363 => (if x18_43 = true then (if (t363 == (x317000_34 == 4)) = true then ((lambrequinlaw21_num.f a1).bind fun bt364 => ((lambrequinlaw21_sym.f a3).bind fun bt367 => ((facts_Has.f t302 (⟨#[115, 105, 110, 107]⟩ : ByteArray) (([(⟨bt364.1, bt364.2.1, bt364.2.2⟩ : Val), (⟨bt367.1, bt367.2.1, bt367.2.2⟩ : Val)] : List (Val)))).bind fun t373 => (if x19_48 = true then (some (t373 == (x317000_34 == 6))) else (some (t373 == false)))))) else (none)) else (if (t363 == false) = true then ((lambrequinlaw21_num.f a1).bind fun bt374 => ((lambrequinlaw21_sym.f a3).bind fun bt377 => ((facts_Has.f t302 (⟨#[115, 105, 110, 107]⟩ : ByteArray) (([(⟨bt374.1, bt374.2.1, bt374.2.2⟩ : Val), (⟨bt377.1, bt377.2.1, bt377.2.2⟩ : Val)] : List (Val)))).bind fun t383 => (if x19_48 = true then (some (t383 == (x317000_34 == 6))) else (some (t383 == false)))))) else (none)))))) else (none))))) else (none))))) else (none)))) = some r := H
               have A57 := am A570
               clear A570
               replace H := Option.bind_eq_some_iff.mp H
               obtain ⟨⟨t327, t328, t329⟩, A580, H⟩ := H
               replace H : ((facts_Has.f t302 (⟨#[110, 101, 120, 116]⟩ : ByteArray) (([(⟨t324, t325, t326⟩ : Val), (⟨t327, t328, t329⟩ : Val)] : List (Val)))).bind fun t333 => (if (t333 == x12_2) = true then ((lambrequinlaw21_num.f a1).bind fun bt334 => ((lambrequinlaw21_sym.f a3).bind fun bt337 => ((facts_Has.f t302 (⟨#[100, 101, 102]⟩ : ByteArray) (([(⟨bt334.1, bt334.2.1, bt334.2.2⟩ : Val), (⟨bt337.1, bt337.2.1, bt337.2.2⟩ : Val)] : List (Val)))).bind fun t343 => (if (t343 == x18_43) = true then ((lambrequinlaw21_num.f a1).bind fun bt344 => ((lambrequinlaw21_sym.f a3).bind fun bt347 => ((facts_Has.f t302 (⟨#[117, 115, 101]⟩ : ByteArray) (([(⟨bt344.1, bt344.2.1, bt344.2.2⟩ : Val), (⟨bt347.1, bt347.2.1, bt347.2.2⟩ : Val)] : List (Val)))).bind fun t353 => (if (t353 == x19_48) = true then ((lambrequinlaw21_num.f a1).bind fun bt354 => ((lambrequinlaw21_sym.f a3).bind fun bt357 => ((facts_Has.f t302 (⟨#[115, 111, 117, 114, 99, 101]⟩ : ByteArray) (([(⟨bt354.1, bt354.2.1, bt354.2.2⟩ : Val), (⟨bt357.1, bt357.2.1, bt357.2.2⟩ : Val)] : List (Val)))).bind fun t363 => (if x18_43 = true then (if (t363 == (x317000_34 == 4)) = true then ((lambrequinlaw21_num.f a1).bind fun bt364 => ((lambrequinlaw21_sym.f a3).bind fun bt367 => ((facts_Has.f t302 (⟨#[115, 105, 110, 107]⟩ : ByteArray) (([(⟨bt364.1, bt364.2.1, bt364.2.2⟩ : Val), (⟨bt367.1, bt367.2.1, bt367.2.2⟩ : Val)] : List (Val)))).bind fun t373 => (if x19_48 = true then (some (t373 == (x317000_34 == 6))) else (some (t373 == false)))))) else (none)) else (if (t363 == false) = true then ((lambrequinlaw21_num.f a1).bind fun bt374 => ((lambrequinlaw21_sym.f a3).bind fun bt377 => ((facts_Has.f t302 (⟨#[115, 105, 110, 107]⟩ : ByteArray) (([(⟨bt374.1, bt374.2.1, bt374.2.2⟩ : Val), (⟨bt377.1, bt377.2.1, bt377.2.2⟩ : Val)] : List (Val)))).bind fun t383 => (if x19_48 = true then (some (t383 == (x317000_34 == 6))) else (some (t383 == false)))))) else (none)))))) else (none))))) else (none))))) else (none))) = some r := H
               have A58 := am A580
               clear A580
               obtain ⟨y330, hy330⟩ : ∃ y_ : List (Val), y_ = (([(⟨t324, t325, t326⟩ : Val), (⟨t327, t328, t329⟩ : Val)] : List (Val))) := ⟨_, rfl⟩
               replace H : ((facts_Has.f t302 (⟨#[110, 101, 120, 116]⟩ : ByteArray) y330).bind fun t333 => (if (t333 == x12_2) = true then ((lambrequinlaw21_num.f a1).bind fun bt334 => ((lambrequinlaw21_sym.f a3).bind fun bt337 => ((facts_Has.f t302 (⟨#[100, 101, 102]⟩ : ByteArray) (([(⟨bt334.1, bt334.2.1, bt334.2.2⟩ : Val), (⟨bt337.1, bt337.2.1, bt337.2.2⟩ : Val)] : List (Val)))).bind fun t343 => (if (t343 == x18_43) = true then ((lambrequinlaw21_num.f a1).bind fun bt344 => ((lambrequinlaw21_sym.f a3).bind fun bt347 => ((facts_Has.f t302 (⟨#[117, 115, 101]⟩ : ByteArray) (([(⟨bt344.1, bt344.2.1, bt344.2.2⟩ : Val), (⟨bt347.1, bt347.2.1, bt347.2.2⟩ : Val)] : List (Val)))).bind fun t353 => (if (t353 == x19_48) = true then ((lambrequinlaw21_num.f a1).bind fun bt354 => ((lambrequinlaw21_sym.f a3).bind fun bt357 => ((facts_Has.f t302 (⟨#[115, 111, 117, 114, 99, 101]⟩ : ByteArray) (([(⟨bt354.1, bt354.2.1, bt354.2.2⟩ : Val), (⟨bt357.1, bt357.2.1, bt357.2.2⟩ : Val)] : List (Val)))).bind fun t363 => (if x18_43 = true then (if (t363 == (x317000_34 == 4)) = true then ((lambrequinlaw21_num.f a1).bind fun bt364 => ((lambrequinlaw21_sym.f a3).bind fun bt367 => ((facts_Has.f t302 (⟨#[115, 105, 110, 107]⟩ : ByteArray) (([(⟨bt364.1, bt364.2.1, bt364.2.2⟩ : Val), (⟨bt367.1, bt367.2.1, bt367.2.2⟩ : Val)] : List (Val)))).bind fun t373 => (if x19_48 = true then (some (t373 == (x317000_34 == 6))) else (some (t373 == false)))))) else (none)) else (if (t363 == false) = true then ((lambrequinlaw21_num.f a1).bind fun bt374 => ((lambrequinlaw21_sym.f a3).bind fun bt377 => ((facts_Has.f t302 (⟨#[115, 105, 110, 107]⟩ : ByteArray) (([(⟨bt374.1, bt374.2.1, bt374.2.2⟩ : Val), (⟨bt377.1, bt377.2.1, bt377.2.2⟩ : Val)] : List (Val)))).bind fun t383 => (if x19_48 = true then (some (t383 == (x317000_34 == 6))) else (some (t383 == false)))))) else (none)))))) else (none))))) else (none))))) else (none))) = some r := by first | (rw [hy330]; with_reducible exact H) | (have H2_ := (Option.bind_some _ _).symm.trans H; rw [hy330]; with_reducible exact H2_) | (have H2_ := (Option.bind_some _ _).symm.trans H; with_reducible exact H2_) | with_reducible exact H | (rw [hy330]; exact H) | exact H
               have Ny330 := am hy330
               clear hy330
               replace H := Option.bind_eq_some_iff.mp H
               obtain ⟨t333, A590, H⟩ := H
               replace H : (if (t333 == x12_2) = true then ((lambrequinlaw21_num.f a1).bind fun bt334 => ((lambrequinlaw21_sym.f a3).bind fun bt337 => ((facts_Has.f t302 (⟨#[100, 101, 102]⟩ : ByteArray) (([(⟨bt334.1, bt334.2.1, bt334.2.2⟩ : Val), (⟨bt337.1, bt337.2.1, bt337.2.2⟩ : Val)] : List (Val)))).bind fun t343 => (if (t343 == x18_43) = true then ((lambrequinlaw21_num.f a1).bind fun bt344 => ((lambrequinlaw21_sym.f a3).bind fun bt347 => ((facts_Has.f t302 (⟨#[117, 115, 101]⟩ : ByteArray) (([(⟨bt344.1, bt344.2.1, bt344.2.2⟩ : Val), (⟨bt347.1, bt347.2.1, bt347.2.2⟩ : Val)] : List (Val)))).bind fun t353 => (if (t353 == x19_48) = true then ((lambrequinlaw21_num.f a1).bind fun bt354 => ((lambrequinlaw21_sym.f a3).bind fun bt357 => ((facts_Has.f t302 (⟨#[115, 111, 117, 114, 99, 101]⟩ : ByteArray) (([(⟨bt354.1, bt354.2.1, bt354.2.2⟩ : Val), (⟨bt357.1, bt357.2.1, bt357.2.2⟩ : Val)] : List (Val)))).bind fun t363 => (if x18_43 = true then (if (t363 == (x317000_34 == 4)) = true then ((lambrequinlaw21_num.f a1).bind fun bt364 => ((lambrequinlaw21_sym.f a3).bind fun bt367 => ((facts_Has.f t302 (⟨#[115, 105, 110, 107]⟩ : ByteArray) (([(⟨bt364.1, bt364.2.1, bt364.2.2⟩ : Val), (⟨bt367.1, bt367.2.1, bt367.2.2⟩ : Val)] : List (Val)))).bind fun t373 => (if x19_48 = true then (some (t373 == (x317000_34 == 6))) else (some (t373 == false)))))) else (none)) else (if (t363 == false) = true then ((lambrequinlaw21_num.f a1).bind fun bt374 => ((lambrequinlaw21_sym.f a3).bind fun bt377 => ((facts_Has.f t302 (⟨#[115, 105, 110, 107]⟩ : ByteArray) (([(⟨bt374.1, bt374.2.1, bt374.2.2⟩ : Val), (⟨bt377.1, bt377.2.1, bt377.2.2⟩ : Val)] : List (Val)))).bind fun t383 => (if x19_48 = true then (some (t383 == (x317000_34 == 6))) else (some (t383 == false)))))) else (none)))))) else (none))))) else (none))))) else (none)) = some r := H
               have A59 := am A590
               clear A590
               by_cases c60 : (t333 == x12_2) = true
               ·rw [if_pos c60] at H
                have c60b0 : (t333 == x12_2) = true := c60
                (try (have c60b1 : decide (t333 = x12_2) = true := by simpa using c60))
                (try (have c60b2 : (t333 == x12_2) = true := by simpa using c60))
                clear c60
                replace H := Option.bind_eq_some_iff.mp H
                obtain ⟨⟨t334, t335, t336⟩, A610, H⟩ := H
                replace H : ((lambrequinlaw21_sym.f a3).bind fun bt337 => ((facts_Has.f t302 (⟨#[100, 101, 102]⟩ : ByteArray) (([(⟨t334, t335, t336⟩ : Val), (⟨bt337.1, bt337.2.1, bt337.2.2⟩ : Val)] : List (Val)))).bind fun t343 => (if (t343 == x18_43) = true then ((lambrequinlaw21_num.f a1).bind fun bt344 => ((lambrequinlaw21_sym.f a3).bind fun bt347 => ((facts_Has.f t302 (⟨#[117, 115, 101]⟩ : ByteArray) (([(⟨bt344.1, bt344.2.1, bt344.2.2⟩ : Val), (⟨bt347.1, bt347.2.1, bt347.2.2⟩ : Val)] : List (Val)))).bind fun t353 => (if (t353 == x19_48) = true then ((lambrequinlaw21_num.f a1).bind fun bt354 => ((lambrequinlaw21_sym.f a3).bind fun bt357 => ((facts_Has.f t302 (⟨#[115, 111, 117, 114, 99, 101]⟩ : ByteArray) (([(⟨bt354.1, bt354.2.1, bt354.2.2⟩ : Val), (⟨bt357.1, bt357.2.1, bt357.2.2⟩ : Val)] : List (Val)))).bind fun t363 => (if x18_43 = true then (if (t363 == (x317000_34 == 4)) = true then ((lambrequinlaw21_num.f a1).bind fun bt364 => ((lambrequinlaw21_sym.f a3).bind fun bt367 => ((facts_Has.f t302 (⟨#[115, 105, 110, 107]⟩ : ByteArray) (([(⟨bt364.1, bt364.2.1, bt364.2.2⟩ : Val), (⟨bt367.1, bt367.2.1, bt367.2.2⟩ : Val)] : List (Val)))).bind fun t373 => (if x19_48 = true then (some (t373 == (x317000_34 == 6))) else (some (t373 == false)))))) else (none)) else (if (t363 == false) = true then ((lambrequinlaw21_num.f a1).bind fun bt374 => ((lambrequinlaw21_sym.f a3).bind fun bt377 => ((facts_Has.f t302 (⟨#[115, 105, 110, 107]⟩ : ByteArray) (([(⟨bt374.1, bt374.2.1, bt374.2.2⟩ : Val), (⟨bt377.1, bt377.2.1, bt377.2.2⟩ : Val)] : List (Val)))).bind fun t383 => (if x19_48 = true then (some (t383 == (x317000_34 == 6))) else (some (t383 == false)))))) else (none)))))) else (none))))) else (none)))) = some r := H
                have A61 := am A610
                clear A610
                replace H := Option.bind_eq_some_iff.mp H
                obtain ⟨⟨t337, t338, t339⟩, A620, H⟩ := H
                replace H : ((facts_Has.f t302 (⟨#[100, 101, 102]⟩ : ByteArray) (([(⟨t334, t335, t336⟩ : Val), (⟨t337, t338, t339⟩ : Val)] : List (Val)))).bind fun t343 => (if (t343 == x18_43) = true then ((lambrequinlaw21_num.f a1).bind fun bt344 => ((lambrequinlaw21_sym.f a3).bind fun bt347 => ((facts_Has.f t302 (⟨#[117, 115, 101]⟩ : ByteArray) (([(⟨bt344.1, bt344.2.1, bt344.2.2⟩ : Val), (⟨bt347.1, bt347.2.1, bt347.2.2⟩ : Val)] : List (Val)))).bind fun t353 => (if (t353 == x19_48) = true then ((lambrequinlaw21_num.f a1).bind fun bt354 => ((lambrequinlaw21_sym.f a3).bind fun bt357 => ((facts_Has.f t302 (⟨#[115, 111, 117, 114, 99, 101]⟩ : ByteArray) (([(⟨bt354.1, bt354.2.1, bt354.2.2⟩ : Val), (⟨bt357.1, bt357.2.1, bt357.2.2⟩ : Val)] : List (Val)))).bind fun t363 => (if x18_43 = true then (if (t363 == (x317000_34 == 4)) = true then ((lambrequinlaw21_num.f a1).bind fun bt364 => ((lambrequinlaw21_sym.f a3).bind fun bt367 => ((facts_Has.f t302 (⟨#[115, 105, 110, 107]⟩ : ByteArray) (([(⟨bt364.1, bt364.2.1, bt364.2.2⟩ : Val), (⟨bt367.1, bt367.2.1, bt367.2.2⟩ : Val)] : List (Val)))).bind fun t373 => (if x19_48 = true then (some (t373 == (x317000_34 == 6))) else (some (t373 == false)))))) else (none)) else (if (t363 == false) = true then ((lambrequinlaw21_num.f a1).bind fun bt374 => ((lambrequinlaw21_sym.f a3).bind fun bt377 => ((facts_Has.f t302 (⟨#[115, 105, 110, 107]⟩ : ByteArray) (([(⟨bt374.1, bt374.2.1, bt374.2.2⟩ : Val), (⟨bt377.1, bt377.2.1, bt377.2.2⟩ : Val)] : List (Val)))).bind fun t383 => (if x19_48 = true then (some (t383 == (x317000_34 == 6))) else (some (t383 == false)))))) else (none)))))) else (none))))) else (none))) = some r := H
                have A62 := am A620
                clear A620
                obtain ⟨y340, hy340⟩ : ∃ y_ : List (Val), y_ = (([(⟨t334, t335, t336⟩ : Val), (⟨t337, t338, t339⟩ : Val)] : List (Val))) := ⟨_, rfl⟩
                replace H : ((facts_Has.f t302 (⟨#[100, 101, 102]⟩ : ByteArray) y340).bind fun t343 => (if (t343 == x18_43) = true then ((lambrequinlaw21_num.f a1).bind fun bt344 => ((lambrequinlaw21_sym.f a3).bind fun bt347 => ((facts_Has.f t302 (⟨#[117, 115, 101]⟩ : ByteArray) (([(⟨bt344.1, bt344.2.1, bt344.2.2⟩ : Val), (⟨bt347.1, bt347.2.1, bt347.2.2⟩ : Val)] : List (Val)))).bind fun t353 => (if (t353 == x19_48) = true then ((lambrequinlaw21_num.f a1).bind fun bt354 => ((lambrequinlaw21_sym.f a3).bind fun bt357 => ((facts_Has.f t302 (⟨#[115, 111, 117, 114, 99, 101]⟩ : ByteArray) (([(⟨bt354.1, bt354.2.1, bt354.2.2⟩ : Val), (⟨bt357.1, bt357.2.1, bt357.2.2⟩ : Val)] : List (Val)))).bind fun t363 => (if x18_43 = true then (if (t363 == (x317000_34 == 4)) = true then ((lambrequinlaw21_num.f a1).bind fun bt364 => ((lambrequinlaw21_sym.f a3).bind fun bt367 => ((facts_Has.f t302 (⟨#[115, 105, 110, 107]⟩ : ByteArray) (([(⟨bt364.1, bt364.2.1, bt364.2.2⟩ : Val), (⟨bt367.1, bt367.2.1, bt367.2.2⟩ : Val)] : List (Val)))).bind fun t373 => (if x19_48 = true then (some (t373 == (x317000_34 == 6))) else (some (t373 == false)))))) else (none)) else (if (t363 == false) = true then ((lambrequinlaw21_num.f a1).bind fun bt374 => ((lambrequinlaw21_sym.f a3).bind fun bt377 => ((facts_Has.f t302 (⟨#[115, 105, 110, 107]⟩ : ByteArray) (([(⟨bt374.1, bt374.2.1, bt374.2.2⟩ : Val), (⟨bt377.1, bt377.2.1, bt377.2.2⟩ : Val)] : List (Val)))).bind fun t383 => (if x19_48 = true then (some (t383 == (x317000_34 == 6))) else (some (t383 == false)))))) else (none)))))) else (none))))) else (none))) = some r := by first | (rw [hy340]; with_reducible exact H) | (have H2_ := (Option.bind_some _ _).symm.trans H; rw [hy340]; with_reducible exact H2_) | (have H2_ := (Option.bind_some _ _).symm.trans H; with_reducible exact H2_) | with_reducible exact H | (rw [hy340]; exact H) | exact H
                have Ny340 := am hy340
                clear hy340
                replace H := Option.bind_eq_some_iff.mp H
                obtain ⟨t343, A630, H⟩ := H
                replace H : (if (t343 == x18_43) = true then ((lambrequinlaw21_num.f a1).bind fun bt344 => ((lambrequinlaw21_sym.f a3).bind fun bt347 => ((facts_Has.f t302 (⟨#[117, 115, 101]⟩ : ByteArray) (([(⟨bt344.1, bt344.2.1, bt344.2.2⟩ : Val), (⟨bt347.1, bt347.2.1, bt347.2.2⟩ : Val)] : List (Val)))).bind fun t353 => (if (t353 == x19_48) = true then ((lambrequinlaw21_num.f a1).bind fun bt354 => ((lambrequinlaw21_sym.f a3).bind fun bt357 => ((facts_Has.f t302 (⟨#[115, 111, 117, 114, 99, 101]⟩ : ByteArray) (([(⟨bt354.1, bt354.2.1, bt354.2.2⟩ : Val), (⟨bt357.1, bt357.2.1, bt357.2.2⟩ : Val)] : List (Val)))).bind fun t363 => (if x18_43 = true then (if (t363 == (x317000_34 == 4)) = true then ((lambrequinlaw21_num.f a1).bind fun bt364 => ((lambrequinlaw21_sym.f a3).bind fun bt367 => ((facts_Has.f t302 (⟨#[115, 105, 110, 107]⟩ : ByteArray) (([(⟨bt364.1, bt364.2.1, bt364.2.2⟩ : Val), (⟨bt367.1, bt367.2.1, bt367.2.2⟩ : Val)] : List (Val)))).bind fun t373 => (if x19_48 = true then (some (t373 == (x317000_34 == 6))) else (some (t373 == false)))))) else (none)) else (if (t363 == false) = true then ((lambrequinlaw21_num.f a1).bind fun bt374 => ((lambrequinlaw21_sym.f a3).bind fun bt377 => ((facts_Has.f t302 (⟨#[115, 105, 110, 107]⟩ : ByteArray) (([(⟨bt374.1, bt374.2.1, bt374.2.2⟩ : Val), (⟨bt377.1, bt377.2.1, bt377.2.2⟩ : Val)] : List (Val)))).bind fun t383 => (if x19_48 = true then (some (t383 == (x317000_34 == 6))) else (some (t383 == false)))))) else (none)))))) else (none))))) else (none)) = some r := H
                have A63 := am A630
                clear A630
                by_cases c64 : (t343 == x18_43) = true
                ·rw [if_pos c64] at H
                 have c64b0 : (t343 == x18_43) = true := c64
                 (try (have c64b1 : decide (t343 = x18_43) = true := by simpa using c64))
                 (try (have c64b2 : (t343 == x18_43) = true := by simpa using c64))
                 clear c64
                 replace H := Option.bind_eq_some_iff.mp H
                 obtain ⟨⟨t344, t345, t346⟩, A650, H⟩ := H
                 replace H : ((lambrequinlaw21_sym.f a3).bind fun bt347 => ((facts_Has.f t302 (⟨#[117, 115, 101]⟩ : ByteArray) (([(⟨t344, t345, t346⟩ : Val), (⟨bt347.1, bt347.2.1, bt347.2.2⟩ : Val)] : List (Val)))).bind fun t353 => (if (t353 == x19_48) = true then ((lambrequinlaw21_num.f a1).bind fun bt354 => ((lambrequinlaw21_sym.f a3).bind fun bt357 => ((facts_Has.f t302 (⟨#[115, 111, 117, 114, 99, 101]⟩ : ByteArray) (([(⟨bt354.1, bt354.2.1, bt354.2.2⟩ : Val), (⟨bt357.1, bt357.2.1, bt357.2.2⟩ : Val)] : List (Val)))).bind fun t363 => (if x18_43 = true then (if (t363 == (x317000_34 == 4)) = true then ((lambrequinlaw21_num.f a1).bind fun bt364 => ((lambrequinlaw21_sym.f a3).bind fun bt367 => ((facts_Has.f t302 (⟨#[115, 105, 110, 107]⟩ : ByteArray) (([(⟨bt364.1, bt364.2.1, bt364.2.2⟩ : Val), (⟨bt367.1, bt367.2.1, bt367.2.2⟩ : Val)] : List (Val)))).bind fun t373 => (if x19_48 = true then (some (t373 == (x317000_34 == 6))) else (some (t373 == false)))))) else (none)) else (if (t363 == false) = true then ((lambrequinlaw21_num.f a1).bind fun bt374 => ((lambrequinlaw21_sym.f a3).bind fun bt377 => ((facts_Has.f t302 (⟨#[115, 105, 110, 107]⟩ : ByteArray) (([(⟨bt374.1, bt374.2.1, bt374.2.2⟩ : Val), (⟨bt377.1, bt377.2.1, bt377.2.2⟩ : Val)] : List (Val)))).bind fun t383 => (if x19_48 = true then (some (t383 == (x317000_34 == 6))) else (some (t383 == false)))))) else (none)))))) else (none)))) = some r := H
                 have A65 := am A650
                 clear A650
                 replace H := Option.bind_eq_some_iff.mp H
                 obtain ⟨⟨t347, t348, t349⟩, A660, H⟩ := H
                 replace H : ((facts_Has.f t302 (⟨#[117, 115, 101]⟩ : ByteArray) (([(⟨t344, t345, t346⟩ : Val), (⟨t347, t348, t349⟩ : Val)] : List (Val)))).bind fun t353 => (if (t353 == x19_48) = true then ((lambrequinlaw21_num.f a1).bind fun bt354 => ((lambrequinlaw21_sym.f a3).bind fun bt357 => ((facts_Has.f t302 (⟨#[115, 111, 117, 114, 99, 101]⟩ : ByteArray) (([(⟨bt354.1, bt354.2.1, bt354.2.2⟩ : Val), (⟨bt357.1, bt357.2.1, bt357.2.2⟩ : Val)] : List (Val)))).bind fun t363 => (if x18_43 = true then (if (t363 == (x317000_34 == 4)) = true then ((lambrequinlaw21_num.f a1).bind fun bt364 => ((lambrequinlaw21_sym.f a3).bind fun bt367 => ((facts_Has.f t302 (⟨#[115, 105, 110, 107]⟩ : ByteArray) (([(⟨bt364.1, bt364.2.1, bt364.2.2⟩ : Val), (⟨bt367.1, bt367.2.1, bt367.2.2⟩ : Val)] : List (Val)))).bind fun t373 => (if x19_48 = true then (some (t373 == (x317000_34 == 6))) else (some (t373 == false)))))) else (none)) else (if (t363 == false) = true then ((lambrequinlaw21_num.f a1).bind fun bt374 => ((lambrequinlaw21_sym.f a3).bind fun bt377 => ((facts_Has.f t302 (⟨#[115, 105, 110, 107]⟩ : ByteArray) (([(⟨bt374.1, bt374.2.1, bt374.2.2⟩ : Val), (⟨bt377.1, bt377.2.1, bt377.2.2⟩ : Val)] : List (Val)))).bind fun t383 => (if x19_48 = true then (some (t383 == (x317000_34 == 6))) else (some (t383 == false)))))) else (none)))))) else (none))) = some r := H
                 have A66 := am A660
                 clear A660
                 obtain ⟨y350, hy350⟩ : ∃ y_ : List (Val), y_ = (([(⟨t344, t345, t346⟩ : Val), (⟨t347, t348, t349⟩ : Val)] : List (Val))) := ⟨_, rfl⟩
                 replace H : ((facts_Has.f t302 (⟨#[117, 115, 101]⟩ : ByteArray) y350).bind fun t353 => (if (t353 == x19_48) = true then ((lambrequinlaw21_num.f a1).bind fun bt354 => ((lambrequinlaw21_sym.f a3).bind fun bt357 => ((facts_Has.f t302 (⟨#[115, 111, 117, 114, 99, 101]⟩ : ByteArray) (([(⟨bt354.1, bt354.2.1, bt354.2.2⟩ : Val), (⟨bt357.1, bt357.2.1, bt357.2.2⟩ : Val)] : List (Val)))).bind fun t363 => (if x18_43 = true then (if (t363 == (x317000_34 == 4)) = true then ((lambrequinlaw21_num.f a1).bind fun bt364 => ((lambrequinlaw21_sym.f a3).bind fun bt367 => ((facts_Has.f t302 (⟨#[115, 105, 110, 107]⟩ : ByteArray) (([(⟨bt364.1, bt364.2.1, bt364.2.2⟩ : Val), (⟨bt367.1, bt367.2.1, bt367.2.2⟩ : Val)] : List (Val)))).bind fun t373 => (if x19_48 = true then (some (t373 == (x317000_34 == 6))) else (some (t373 == false)))))) else (none)) else (if (t363 == false) = true then ((lambrequinlaw21_num.f a1).bind fun bt374 => ((lambrequinlaw21_sym.f a3).bind fun bt377 => ((facts_Has.f t302 (⟨#[115, 105, 110, 107]⟩ : ByteArray) (([(⟨bt374.1, bt374.2.1, bt374.2.2⟩ : Val), (⟨bt377.1, bt377.2.1, bt377.2.2⟩ : Val)] : List (Val)))).bind fun t383 => (if x19_48 = true then (some (t383 == (x317000_34 == 6))) else (some (t383 == false)))))) else (none)))))) else (none))) = some r := by first | (rw [hy350]; with_reducible exact H) | (have H2_ := (Option.bind_some _ _).symm.trans H; rw [hy350]; with_reducible exact H2_) | (have H2_ := (Option.bind_some _ _).symm.trans H; with_reducible exact H2_) | with_reducible exact H | (rw [hy350]; exact H) | exact H
                 have Ny350 := am hy350
                 clear hy350
                 replace H := Option.bind_eq_some_iff.mp H
                 obtain ⟨t353, A670, H⟩ := H
                 replace H : (if (t353 == x19_48) = true then ((lambrequinlaw21_num.f a1).bind fun bt354 => ((lambrequinlaw21_sym.f a3).bind fun bt357 => ((facts_Has.f t302 (⟨#[115, 111, 117, 114, 99, 101]⟩ : ByteArray) (([(⟨bt354.1, bt354.2.1, bt354.2.2⟩ : Val), (⟨bt357.1, bt357.2.1, bt357.2.2⟩ : Val)] : List (Val)))).bind fun t363 => (if x18_43 = true then (if (t363 == (x317000_34 == 4)) = true then ((lambrequinlaw21_num.f a1).bind fun bt364 => ((lambrequinlaw21_sym.f a3).bind fun bt367 => ((facts_Has.f t302 (⟨#[115, 105, 110, 107]⟩ : ByteArray) (([(⟨bt364.1, bt364.2.1, bt364.2.2⟩ : Val), (⟨bt367.1, bt367.2.1, bt367.2.2⟩ : Val)] : List (Val)))).bind fun t373 => (if x19_48 = true then (some (t373 == (x317000_34 == 6))) else (some (t373 == false)))))) else (none)) else (if (t363 == false) = true then ((lambrequinlaw21_num.f a1).bind fun bt374 => ((lambrequinlaw21_sym.f a3).bind fun bt377 => ((facts_Has.f t302 (⟨#[115, 105, 110, 107]⟩ : ByteArray) (([(⟨bt374.1, bt374.2.1, bt374.2.2⟩ : Val), (⟨bt377.1, bt377.2.1, bt377.2.2⟩ : Val)] : List (Val)))).bind fun t383 => (if x19_48 = true then (some (t383 == (x317000_34 == 6))) else (some (t383 == false)))))) else (none)))))) else (none)) = some r := H
                 have A67 := am A670
                 clear A670
                 by_cases c68 : (t353 == x19_48) = true
                 ·rw [if_pos c68] at H
                  have c68b0 : (t353 == x19_48) = true := c68
                  (try (have c68b1 : decide (t353 = x19_48) = true := by simpa using c68))
                  (try (have c68b2 : (t353 == x19_48) = true := by simpa using c68))
                  clear c68
                  replace H := Option.bind_eq_some_iff.mp H
                  obtain ⟨⟨t354, t355, t356⟩, A690, H⟩ := H
                  replace H : ((lambrequinlaw21_sym.f a3).bind fun bt357 => ((facts_Has.f t302 (⟨#[115, 111, 117, 114, 99, 101]⟩ : ByteArray) (([(⟨t354, t355, t356⟩ : Val), (⟨bt357.1, bt357.2.1, bt357.2.2⟩ : Val)] : List (Val)))).bind fun t363 => (if x18_43 = true then (if (t363 == (x317000_34 == 4)) = true then ((lambrequinlaw21_num.f a1).bind fun bt364 => ((lambrequinlaw21_sym.f a3).bind fun bt367 => ((facts_Has.f t302 (⟨#[115, 105, 110, 107]⟩ : ByteArray) (([(⟨bt364.1, bt364.2.1, bt364.2.2⟩ : Val), (⟨bt367.1, bt367.2.1, bt367.2.2⟩ : Val)] : List (Val)))).bind fun t373 => (if x19_48 = true then (some (t373 == (x317000_34 == 6))) else (some (t373 == false)))))) else (none)) else (if (t363 == false) = true then ((lambrequinlaw21_num.f a1).bind fun bt374 => ((lambrequinlaw21_sym.f a3).bind fun bt377 => ((facts_Has.f t302 (⟨#[115, 105, 110, 107]⟩ : ByteArray) (([(⟨bt374.1, bt374.2.1, bt374.2.2⟩ : Val), (⟨bt377.1, bt377.2.1, bt377.2.2⟩ : Val)] : List (Val)))).bind fun t383 => (if x19_48 = true then (some (t383 == (x317000_34 == 6))) else (some (t383 == false)))))) else (none))))) = some r := H
                  have A69 := am A690
                  clear A690
                  replace H := Option.bind_eq_some_iff.mp H
                  obtain ⟨⟨t357, t358, t359⟩, A700, H⟩ := H
                  replace H : ((facts_Has.f t302 (⟨#[115, 111, 117, 114, 99, 101]⟩ : ByteArray) (([(⟨t354, t355, t356⟩ : Val), (⟨t357, t358, t359⟩ : Val)] : List (Val)))).bind fun t363 => (if x18_43 = true then (if (t363 == (x317000_34 == 4)) = true then ((lambrequinlaw21_num.f a1).bind fun bt364 => ((lambrequinlaw21_sym.f a3).bind fun bt367 => ((facts_Has.f t302 (⟨#[115, 105, 110, 107]⟩ : ByteArray) (([(⟨bt364.1, bt364.2.1, bt364.2.2⟩ : Val), (⟨bt367.1, bt367.2.1, bt367.2.2⟩ : Val)] : List (Val)))).bind fun t373 => (if x19_48 = true then (some (t373 == (x317000_34 == 6))) else (some (t373 == false)))))) else (none)) else (if (t363 == false) = true then ((lambrequinlaw21_num.f a1).bind fun bt374 => ((lambrequinlaw21_sym.f a3).bind fun bt377 => ((facts_Has.f t302 (⟨#[115, 105, 110, 107]⟩ : ByteArray) (([(⟨bt374.1, bt374.2.1, bt374.2.2⟩ : Val), (⟨bt377.1, bt377.2.1, bt377.2.2⟩ : Val)] : List (Val)))).bind fun t383 => (if x19_48 = true then (some (t383 == (x317000_34 == 6))) else (some (t383 == false)))))) else (none)))) = some r := H
                  have A70 := am A700
                  clear A700
                  obtain ⟨y360, hy360⟩ : ∃ y_ : List (Val), y_ = (([(⟨t354, t355, t356⟩ : Val), (⟨t357, t358, t359⟩ : Val)] : List (Val))) := ⟨_, rfl⟩
                  replace H : ((facts_Has.f t302 (⟨#[115, 111, 117, 114, 99, 101]⟩ : ByteArray) y360).bind fun t363 => (if x18_43 = true then (if (t363 == (x317000_34 == 4)) = true then ((lambrequinlaw21_num.f a1).bind fun bt364 => ((lambrequinlaw21_sym.f a3).bind fun bt367 => ((facts_Has.f t302 (⟨#[115, 105, 110, 107]⟩ : ByteArray) (([(⟨bt364.1, bt364.2.1, bt364.2.2⟩ : Val), (⟨bt367.1, bt367.2.1, bt367.2.2⟩ : Val)] : List (Val)))).bind fun t373 => (if x19_48 = true then (some (t373 == (x317000_34 == 6))) else (some (t373 == false)))))) else (none)) else (if (t363 == false) = true then ((lambrequinlaw21_num.f a1).bind fun bt374 => ((lambrequinlaw21_sym.f a3).bind fun bt377 => ((facts_Has.f t302 (⟨#[115, 105, 110, 107]⟩ : ByteArray) (([(⟨bt374.1, bt374.2.1, bt374.2.2⟩ : Val), (⟨bt377.1, bt377.2.1, bt377.2.2⟩ : Val)] : List (Val)))).bind fun t383 => (if x19_48 = true then (some (t383 == (x317000_34 == 6))) else (some (t383 == false)))))) else (none)))) = some r := by first | (rw [hy360]; with_reducible exact H) | (have H2_ := (Option.bind_some _ _).symm.trans H; rw [hy360]; with_reducible exact H2_) | (have H2_ := (Option.bind_some _ _).symm.trans H; with_reducible exact H2_) | with_reducible exact H | (rw [hy360]; exact H) | exact H
                  have Ny360 := am hy360
                  clear hy360
                  replace H := Option.bind_eq_some_iff.mp H
                  obtain ⟨t363, A710, H⟩ := H
                  replace H : (if x18_43 = true then (if (t363 == (x317000_34 == 4)) = true then ((lambrequinlaw21_num.f a1).bind fun bt364 => ((lambrequinlaw21_sym.f a3).bind fun bt367 => ((facts_Has.f t302 (⟨#[115, 105, 110, 107]⟩ : ByteArray) (([(⟨bt364.1, bt364.2.1, bt364.2.2⟩ : Val), (⟨bt367.1, bt367.2.1, bt367.2.2⟩ : Val)] : List (Val)))).bind fun t373 => (if x19_48 = true then (some (t373 == (x317000_34 == 6))) else (some (t373 == false)))))) else (none)) else (if (t363 == false) = true then ((lambrequinlaw21_num.f a1).bind fun bt374 => ((lambrequinlaw21_sym.f a3).bind fun bt377 => ((facts_Has.f t302 (⟨#[115, 105, 110, 107]⟩ : ByteArray) (([(⟨bt374.1, bt374.2.1, bt374.2.2⟩ : Val), (⟨bt377.1, bt377.2.1, bt377.2.2⟩ : Val)] : List (Val)))).bind fun t383 => (if x19_48 = true then (some (t383 == (x317000_34 == 6))) else (some (t383 == false)))))) else (none))) = some r := H
                  have A71 := am A710
                  clear A710
                  by_cases c72 : x18_43 = true
                  ·subst c72
                   have H1 : (if (t363 == (x317000_34 == 4)) = true then ((lambrequinlaw21_num.f a1).bind fun bt364 => ((lambrequinlaw21_sym.f a3).bind fun bt367 => ((facts_Has.f t302 (⟨#[115, 105, 110, 107]⟩ : ByteArray) (([(⟨bt364.1, bt364.2.1, bt364.2.2⟩ : Val), (⟨bt367.1, bt367.2.1, bt367.2.2⟩ : Val)] : List (Val)))).bind fun t373 => (if x19_48 = true then (some (t373 == (x317000_34 == 6))) else (some (t373 == false)))))) else (none)) = some r := by rw [if_pos rfl] at H; exact H
                   clear H
                   have H := H1
                   clear H1
                   by_cases c73 : (t363 == (x317000_34 == 4)) = true
                   ·rw [if_pos c73] at H
                    have c73b0 : (t363 == (x317000_34 == 4)) = true := c73
                    (try (have c73b1 : decide (t363 = (x317000_34 == 4)) = true := by simpa using c73))
                    (try (have c73b2 : (t363 == (x317000_34 == 4)) = true := by simpa using c73))
                    clear c73
                    replace H := Option.bind_eq_some_iff.mp H
                    obtain ⟨⟨t364, t365, t366⟩, A740, H⟩ := H
                    replace H : ((lambrequinlaw21_sym.f a3).bind fun bt367 => ((facts_Has.f t302 (⟨#[115, 105, 110, 107]⟩ : ByteArray) (([(⟨t364, t365, t366⟩ : Val), (⟨bt367.1, bt367.2.1, bt367.2.2⟩ : Val)] : List (Val)))).bind fun t373 => (if x19_48 = true then (some (t373 == (x317000_34 == 6))) else (some (t373 == false))))) = some r := H
                    have A74 := am A740
                    clear A740
                    replace H := Option.bind_eq_some_iff.mp H
                    obtain ⟨⟨t367, t368, t369⟩, A750, H⟩ := H
                    replace H : ((facts_Has.f t302 (⟨#[115, 105, 110, 107]⟩ : ByteArray) (([(⟨t364, t365, t366⟩ : Val), (⟨t367, t368, t369⟩ : Val)] : List (Val)))).bind fun t373 => (if x19_48 = true then (some (t373 == (x317000_34 == 6))) else (some (t373 == false)))) = some r := H
                    have A75 := am A750
                    clear A750
                    obtain ⟨y370, hy370⟩ : ∃ y_ : List (Val), y_ = (([(⟨t364, t365, t366⟩ : Val), (⟨t367, t368, t369⟩ : Val)] : List (Val))) := ⟨_, rfl⟩
                    replace H : ((facts_Has.f t302 (⟨#[115, 105, 110, 107]⟩ : ByteArray) y370).bind fun t373 => (if x19_48 = true then (some (t373 == (x317000_34 == 6))) else (some (t373 == false)))) = some r := by first | (rw [hy370]; with_reducible exact H) | (have H2_ := (Option.bind_some _ _).symm.trans H; rw [hy370]; with_reducible exact H2_) | (have H2_ := (Option.bind_some _ _).symm.trans H; with_reducible exact H2_) | with_reducible exact H | (rw [hy370]; exact H) | exact H
                    have Ny370 := am hy370
                    clear hy370
                    replace H := Option.bind_eq_some_iff.mp H
                    obtain ⟨t373, A760, H⟩ := H
                    replace H : (if x19_48 = true then (some (t373 == (x317000_34 == 6))) else (some (t373 == false))) = some r := H
                    have A76 := am A760
                    clear A760
                    by_cases c77 : x19_48 = true
                    ·subst c77
                     have H1 : (some (t373 == (x317000_34 == 6))) = some r := by rw [if_pos rfl] at H; exact H
                     clear H
                     have H := H1
                     clear H1
                     obtain rfl := Option.some.inj H
                     go_wp2_with (first | (go_at_call 10; (with_reducible refine (lambrequinlaw21_num.calls a1 t324 t325 t326 _ A57.out).mono ?_); rintro e w78 ⟨rfl, hb⟩; (try clear A57); replace HO_10 := am (Kd.N_below (by (with_reducible repeat (first | apply Kd.N_alloc | apply Kd.N_drewN | apply Kd.N_drew)); exact HO_10.out) hb); replace BK316 := am (bb_ BK316.out hb); replace HB := am (bs_ HB.out hb); (try clear hb); (try clear hb2); (try clear hk); (try clear hi)) | (go_at_call 10; (with_reducible refine (lambrequinlaw21_num.calls a2 t327 t328 t329 _ A58.out).mono ?_); rintro e w79 ⟨rfl, hb⟩; (try clear A58); replace HO_10 := am (Kd.N_below (by (with_reducible repeat (first | apply Kd.N_alloc | apply Kd.N_drewN | apply Kd.N_drew)); exact HO_10.out) hb); replace BK316 := am (bb_ BK316.out hb); replace HB := am (bs_ HB.out hb); (try clear hb); (try clear hb2); (try clear hk); (try clear hi)) | (go_at_call 9; (have A_ := A59.out); (rw [Ny330.out] at A_); (with_reducible refine (hasLit2 _ _ t302 (⟨#[110, 101, 120, 116]⟩ : ByteArray) t324 t325 t326 t327 t328 t329 t333 _ ?side1 ?side2 A_).mono ?_); (case side1 => repeat (first | exact (Kd.N_reads' HO_10.out).2.2 | (with_reducible refine Kd.C_alloc ?_ _) | (with_reducible refine Kd.C_drewN ?_ _) | (with_reducible refine Kd.C_drew ?_))); (case side2 => exact (Kd.N_reads' HO_10.out).2.1); rintro e w83 ⟨rfl, hb⟩; (try clear A59); replace HO_10 := am (Kd.N_below (by (with_reducible repeat (first | apply Kd.N_alloc | apply Kd.N_drewN | apply Kd.N_drew)); exact HO_10.out) hb); replace BK316 := am (bb_ BK316.out hb); replace HB := am (bs_ HB.out hb); (try clear hb); (try clear hb2); (try clear hk); (try clear hi)) | (go_at_call 10; (with_reducible refine (lambrequinlaw21_num.calls a1 t334 t335 t336 _ A61.out).mono ?_); rintro e w84 ⟨rfl, hb⟩; (try clear A61); replace HO_10 := am (Kd.N_below (by (with_reducible repeat (first | apply Kd.N_alloc | apply Kd.N_drewN | apply Kd.N_drew)); exact HO_10.out) hb); replace BK316 := am (bb_ BK316.out hb); replace HB := am (bs_ HB.out hb); (try clear hb); (try clear hb2); (try clear hk); (try clear hi)) | (go_at_call 15; (with_reducible refine (lambrequinlaw21_sym.calls a3 t337 t338 t339 _ A62.out).mono ?_); rintro e w85 ⟨rfl, hb⟩; (try clear A62); replace HO_10 := am (Kd.N_below (by (with_reducible repeat (first | apply Kd.N_alloc | apply Kd.N_drewN | apply Kd.N_drew)); exact HO_10.out) hb); replace BK316 := am (bb_ BK316.out hb); replace HB := am (bs_ HB.out hb); (try clear hb); (try clear hb2); (try clear hk); (try clear hi)) | (go_at_call 9; (have A_ := A63.out); (rw [Ny340.out] at A_); (with_reducible refine (hasLit2 _ _ t302 (⟨#[100, 101, 102]⟩ : ByteArray) t334 t335 t336 t337 t338 t339 t343 _ ?side1 ?side2 A_).mono ?_); (case side1 => repeat (first | exact (Kd.N_reads' HO_10.out).2.2 | (with_reducible refine Kd.C_alloc ?_ _) | (with_reducible refine Kd.C_drewN ?_ _) | (with_reducible refine Kd.C_drew ?_))); (case side2 => exact (Kd.N_reads' HO_10.out).2.1); rintro e w89 ⟨rfl, hb⟩; (try clear A63); replace HO_10 := am (Kd.N_below (by (with_reducible repeat (first | apply Kd.N_alloc | apply Kd.N_drewN | apply Kd.N_drew)); exact HO_10.out) hb); replace BK316 := am (bb_ BK316.out hb); replace HB := am (bs_ HB.out hb); (try clear hb); (try clear hb2); (try clear hk); (try clear hi)) | (go_at_call 10; (with_reducible refine (lambrequinlaw21_num.calls a1 t344 t345 t346 _ A65.out).mono ?_); rintro e w90 ⟨rfl, hb⟩; (try clear A65); replace HO_10 := am (Kd.N_below (by (with_reducible repeat (first | apply Kd.N_alloc | apply Kd.N_drewN | apply Kd.N_drew)); exact HO_10.out) hb); replace BK316 := am (bb_ BK316.out hb); replace HB := am (bs_ HB.out hb); (try clear hb); (try clear hb2); (try clear hk); (try clear hi)) | (go_at_call 15; (with_reducible refine (lambrequinlaw21_sym.calls a3 t347 t348 t349 _ A66.out).mono ?_); rintro e w91 ⟨rfl, hb⟩; (try clear A66); replace HO_10 := am (Kd.N_below (by (with_reducible repeat (first | apply Kd.N_alloc | apply Kd.N_drewN | apply Kd.N_drew)); exact HO_10.out) hb); replace BK316 := am (bb_ BK316.out hb); replace HB := am (bs_ HB.out hb); (try clear hb); (try clear hb2); (try clear hk); (try clear hi)) | (go_at_call 9; (have A_ := A67.out); (rw [Ny350.out] at A_); (with_reducible refine (hasLit2 _ _ t302 (⟨#[117, 115, 101]⟩ : ByteArray) t344 t345 t346 t347 t348 t349 t353 _ ?side1 ?side2 A_).mono ?_); (case side1 => repeat (first | exact (Kd.N_reads' HO_10.out).2.2 | (with_reducible refine Kd.C_alloc ?_ _) | (with_reducible refine Kd.C_drewN ?_ _) | (with_reducible refine Kd.C_drew ?_))); (case side2 => exact (Kd.N_reads' HO_10.out).2.1); rintro e w95 ⟨rfl, hb⟩; (try clear A67); replace HO_10 := am (Kd.N_below (by (with_reducible repeat (first | apply Kd.N_alloc | apply Kd.N_drewN | apply Kd.N_drew)); exact HO_10.out) hb); replace BK316 := am (bb_ BK316.out hb); replace HB := am (bs_ HB.out hb); (try clear hb); (try clear hb2); (try clear hk); (try clear hi)) | (go_at_call 10; (with_reducible refine (lambrequinlaw21_num.calls a1 t354 t355 t356 _ A69.out).mono ?_); rintro e w96 ⟨rfl, hb⟩; (try clear A69); replace HO_10 := am (Kd.N_below (by (with_reducible repeat (first | apply Kd.N_alloc | apply Kd.N_drewN | apply Kd.N_drew)); exact HO_10.out) hb); replace BK316 := am (bb_ BK316.out hb); replace HB := am (bs_ HB.out hb); (try clear hb); (try clear hb2); (try clear hk); (try clear hi)) | (go_at_call 15; (with_reducible refine (lambrequinlaw21_sym.calls a3 t357 t358 t359 _ A70.out).mono ?_); rintro e w97 ⟨rfl, hb⟩; (try clear A70); replace HO_10 := am (Kd.N_below (by (with_reducible repeat (first | apply Kd.N_alloc | apply Kd.N_drewN | apply Kd.N_drew)); exact HO_10.out) hb); replace BK316 := am (bb_ BK316.out hb); replace HB := am (bs_ HB.out hb); (try clear hb); (try clear hb2); (try clear hk); (try clear hi)) | (go_at_call 9; (have A_ := A71.out); (rw [Ny360.out] at A_); (with_reducible refine (hasLit2 _ _ t302 (⟨#[115, 111, 117, 114, 99, 101]⟩ : ByteArray) t354 t355 t356 t357 t358 t359 t363 _ ?side1 ?side2 A_).mono ?_); (case side1 => repeat (first | exact (Kd.N_reads' HO_10.out).2.2 | (with_reducible refine Kd.C_alloc ?_ _) | (with_reducible refine Kd.C_drewN ?_ _) | (with_reducible refine Kd.C_drew ?_))); (case side2 => exact (Kd.N_reads' HO_10.out).2.1); rintro e w101 ⟨rfl, hb⟩; (try clear A71); replace HO_10 := am (Kd.N_below (by (with_reducible repeat (first | apply Kd.N_alloc | apply Kd.N_drewN | apply Kd.N_drew)); exact HO_10.out) hb); replace BK316 := am (bb_ BK316.out hb); replace HB := am (bs_ HB.out hb); (try clear hb); (try clear hb2); (try clear hk); (try clear hi); obtain ⟨hcz102_0, hcz102_1, hcz102_2, hcz102_3, hcz102_4, hcz102_5, hcz102_6, hcz102_7, hfz102_0, hfz102_1, hfz102_2, hfz102_3, hfz102_4, hfz102_5, hfz102_6, hfz102_7⟩ := bc8 BK316.out) | (go_at_call 10; (with_reducible refine (lambrequinlaw21_num.calls a1 t364 t365 t366 _ A74.out).mono ?_); rintro e w103 ⟨rfl, hb⟩; (try clear A74); replace HO_10 := am (Kd.N_below (by (with_reducible repeat (first | apply Kd.N_alloc | apply Kd.N_drewN | apply Kd.N_drew)); exact HO_10.out) hb); replace BK316 := am (bb_ BK316.out hb); replace HB := am (bs_ HB.out hb); (try clear hb); (try clear hb2); (try clear hk); (try clear hi)) | (go_at_call 15; (with_reducible refine (lambrequinlaw21_sym.calls a3 t367 t368 t369 _ A75.out).mono ?_); rintro e w104 ⟨rfl, hb⟩; (try clear A75); replace HO_10 := am (Kd.N_below (by (with_reducible repeat (first | apply Kd.N_alloc | apply Kd.N_drewN | apply Kd.N_drew)); exact HO_10.out) hb); replace BK316 := am (bb_ BK316.out hb); replace HB := am (bs_ HB.out hb); (try clear hb); (try clear hb2); (try clear hk); (try clear hi)) | (go_at_call 9; (have A_ := A76.out); (rw [Ny370.out] at A_); (with_reducible refine (hasLit2 _ _ t302 (⟨#[115, 105, 110, 107]⟩ : ByteArray) t364 t365 t366 t367 t368 t369 t373 _ ?side1 ?side2 A_).mono ?_); (case side1 => repeat (first | exact (Kd.N_reads' HO_10.out).2.2 | (with_reducible refine Kd.C_alloc ?_ _) | (with_reducible refine Kd.C_drewN ?_ _) | (with_reducible refine Kd.C_drew ?_))); (case side2 => exact (Kd.N_reads' HO_10.out).2.1); rintro e w108 ⟨rfl, hb⟩; (try clear A76); replace HO_10 := am (Kd.N_below (by (with_reducible repeat (first | apply Kd.N_alloc | apply Kd.N_drewN | apply Kd.N_drew)); exact HO_10.out) hb); replace BK316 := am (bb_ BK316.out hb); replace HB := am (bs_ HB.out hb); (try clear hb); (try clear hb2); (try clear hk); (try clear hi); obtain ⟨hcz109_0, hcz109_1, hcz109_2, hcz109_3, hcz109_4, hcz109_5, hcz109_6, hcz109_7, hfz109_0, hfz109_1, hfz109_2, hfz109_3, hfz109_4, hfz109_5, hfz109_6, hfz109_7⟩ := bc8 BK316.out))
                     go_ret
                     exact ⟨by first | rfl | (simp [errW_none, errW_some] <;> rfl) | (simp [*, errW_none, errW_some] <;> rfl), pL HB.out⟩
                    ·replace c77 := Bool.eq_false_iff.mpr c77
                     subst c77
                     have H1 : (some (t373 == false)) = some r := by rw [if_neg (show ¬ (false = true) by decide)] at H; exact H
                     clear H
                     have H := H1
                     clear H1
                     obtain rfl := Option.some.inj H
                     go_wp2_with (first | (go_at_call 10; (with_reducible refine (lambrequinlaw21_num.calls a1 t324 t325 t326 _ A57.out).mono ?_); rintro e w110 ⟨rfl, hb⟩; (try clear A57); replace HO_10 := am (Kd.N_below (by (with_reducible repeat (first | apply Kd.N_alloc | apply Kd.N_drewN | apply Kd.N_drew)); exact HO_10.out) hb); replace BK316 := am (bb_ BK316.out hb); replace HB := am (bs_ HB.out hb); (try clear hb); (try clear hb2); (try clear hk); (try clear hi)) | (go_at_call 10; (with_reducible refine (lambrequinlaw21_num.calls a2 t327 t328 t329 _ A58.out).mono ?_); rintro e w111 ⟨rfl, hb⟩; (try clear A58); replace HO_10 := am (Kd.N_below (by (with_reducible repeat (first | apply Kd.N_alloc | apply Kd.N_drewN | apply Kd.N_drew)); exact HO_10.out) hb); replace BK316 := am (bb_ BK316.out hb); replace HB := am (bs_ HB.out hb); (try clear hb); (try clear hb2); (try clear hk); (try clear hi)) | (go_at_call 9; (have A_ := A59.out); (rw [Ny330.out] at A_); (with_reducible refine (hasLit2 _ _ t302 (⟨#[110, 101, 120, 116]⟩ : ByteArray) t324 t325 t326 t327 t328 t329 t333 _ ?side1 ?side2 A_).mono ?_); (case side1 => repeat (first | exact (Kd.N_reads' HO_10.out).2.2 | (with_reducible refine Kd.C_alloc ?_ _) | (with_reducible refine Kd.C_drewN ?_ _) | (with_reducible refine Kd.C_drew ?_))); (case side2 => exact (Kd.N_reads' HO_10.out).2.1); rintro e w115 ⟨rfl, hb⟩; (try clear A59); replace HO_10 := am (Kd.N_below (by (with_reducible repeat (first | apply Kd.N_alloc | apply Kd.N_drewN | apply Kd.N_drew)); exact HO_10.out) hb); replace BK316 := am (bb_ BK316.out hb); replace HB := am (bs_ HB.out hb); (try clear hb); (try clear hb2); (try clear hk); (try clear hi)) | (go_at_call 10; (with_reducible refine (lambrequinlaw21_num.calls a1 t334 t335 t336 _ A61.out).mono ?_); rintro e w116 ⟨rfl, hb⟩; (try clear A61); replace HO_10 := am (Kd.N_below (by (with_reducible repeat (first | apply Kd.N_alloc | apply Kd.N_drewN | apply Kd.N_drew)); exact HO_10.out) hb); replace BK316 := am (bb_ BK316.out hb); replace HB := am (bs_ HB.out hb); (try clear hb); (try clear hb2); (try clear hk); (try clear hi)) | (go_at_call 15; (with_reducible refine (lambrequinlaw21_sym.calls a3 t337 t338 t339 _ A62.out).mono ?_); rintro e w117 ⟨rfl, hb⟩; (try clear A62); replace HO_10 := am (Kd.N_below (by (with_reducible repeat (first | apply Kd.N_alloc | apply Kd.N_drewN | apply Kd.N_drew)); exact HO_10.out) hb); replace BK316 := am (bb_ BK316.out hb); replace HB := am (bs_ HB.out hb); (try clear hb); (try clear hb2); (try clear hk); (try clear hi)) | (go_at_call 9; (have A_ := A63.out); (rw [Ny340.out] at A_); (with_reducible refine (hasLit2 _ _ t302 (⟨#[100, 101, 102]⟩ : ByteArray) t334 t335 t336 t337 t338 t339 t343 _ ?side1 ?side2 A_).mono ?_); (case side1 => repeat (first | exact (Kd.N_reads' HO_10.out).2.2 | (with_reducible refine Kd.C_alloc ?_ _) | (with_reducible refine Kd.C_drewN ?_ _) | (with_reducible refine Kd.C_drew ?_))); (case side2 => exact (Kd.N_reads' HO_10.out).2.1); rintro e w121 ⟨rfl, hb⟩; (try clear A63); replace HO_10 := am (Kd.N_below (by (with_reducible repeat (first | apply Kd.N_alloc | apply Kd.N_drewN | apply Kd.N_drew)); exact HO_10.out) hb); replace BK316 := am (bb_ BK316.out hb); replace HB := am (bs_ HB.out hb); (try clear hb); (try clear hb2); (try clear hk); (try clear hi)) | (go_at_call 10; (with_reducible refine (lambrequinlaw21_num.calls a1 t344 t345 t346 _ A65.out).mono ?_); rintro e w122 ⟨rfl, hb⟩; (try clear A65); replace HO_10 := am (Kd.N_below (by (with_reducible repeat (first | apply Kd.N_alloc | apply Kd.N_drewN | apply Kd.N_drew)); exact HO_10.out) hb); replace BK316 := am (bb_ BK316.out hb); replace HB := am (bs_ HB.out hb); (try clear hb); (try clear hb2); (try clear hk); (try clear hi)) | (go_at_call 15; (with_reducible refine (lambrequinlaw21_sym.calls a3 t347 t348 t349 _ A66.out).mono ?_); rintro e w123 ⟨rfl, hb⟩; (try clear A66); replace HO_10 := am (Kd.N_below (by (with_reducible repeat (first | apply Kd.N_alloc | apply Kd.N_drewN | apply Kd.N_drew)); exact HO_10.out) hb); replace BK316 := am (bb_ BK316.out hb); replace HB := am (bs_ HB.out hb); (try clear hb); (try clear hb2); (try clear hk); (try clear hi)) | (go_at_call 9; (have A_ := A67.out); (rw [Ny350.out] at A_); (with_reducible refine (hasLit2 _ _ t302 (⟨#[117, 115, 101]⟩ : ByteArray) t344 t345 t346 t347 t348 t349 t353 _ ?side1 ?side2 A_).mono ?_); (case side1 => repeat (first | exact (Kd.N_reads' HO_10.out).2.2 | (with_reducible refine Kd.C_alloc ?_ _) | (with_reducible refine Kd.C_drewN ?_ _) | (with_reducible refine Kd.C_drew ?_))); (case side2 => exact (Kd.N_reads' HO_10.out).2.1); rintro e w127 ⟨rfl, hb⟩; (try clear A67); replace HO_10 := am (Kd.N_below (by (with_reducible repeat (first | apply Kd.N_alloc | apply Kd.N_drewN | apply Kd.N_drew)); exact HO_10.out) hb); replace BK316 := am (bb_ BK316.out hb); replace HB := am (bs_ HB.out hb); (try clear hb); (try clear hb2); (try clear hk); (try clear hi)) | (go_at_call 10; (with_reducible refine (lambrequinlaw21_num.calls a1 t354 t355 t356 _ A69.out).mono ?_); rintro e w128 ⟨rfl, hb⟩; (try clear A69); replace HO_10 := am (Kd.N_below (by (with_reducible repeat (first | apply Kd.N_alloc | apply Kd.N_drewN | apply Kd.N_drew)); exact HO_10.out) hb); replace BK316 := am (bb_ BK316.out hb); replace HB := am (bs_ HB.out hb); (try clear hb); (try clear hb2); (try clear hk); (try clear hi)) | (go_at_call 15; (with_reducible refine (lambrequinlaw21_sym.calls a3 t357 t358 t359 _ A70.out).mono ?_); rintro e w129 ⟨rfl, hb⟩; (try clear A70); replace HO_10 := am (Kd.N_below (by (with_reducible repeat (first | apply Kd.N_alloc | apply Kd.N_drewN | apply Kd.N_drew)); exact HO_10.out) hb); replace BK316 := am (bb_ BK316.out hb); replace HB := am (bs_ HB.out hb); (try clear hb); (try clear hb2); (try clear hk); (try clear hi)) | (go_at_call 9; (have A_ := A71.out); (rw [Ny360.out] at A_); (with_reducible refine (hasLit2 _ _ t302 (⟨#[115, 111, 117, 114, 99, 101]⟩ : ByteArray) t354 t355 t356 t357 t358 t359 t363 _ ?side1 ?side2 A_).mono ?_); (case side1 => repeat (first | exact (Kd.N_reads' HO_10.out).2.2 | (with_reducible refine Kd.C_alloc ?_ _) | (with_reducible refine Kd.C_drewN ?_ _) | (with_reducible refine Kd.C_drew ?_))); (case side2 => exact (Kd.N_reads' HO_10.out).2.1); rintro e w133 ⟨rfl, hb⟩; (try clear A71); replace HO_10 := am (Kd.N_below (by (with_reducible repeat (first | apply Kd.N_alloc | apply Kd.N_drewN | apply Kd.N_drew)); exact HO_10.out) hb); replace BK316 := am (bb_ BK316.out hb); replace HB := am (bs_ HB.out hb); (try clear hb); (try clear hb2); (try clear hk); (try clear hi); obtain ⟨hcz134_0, hcz134_1, hcz134_2, hcz134_3, hcz134_4, hcz134_5, hcz134_6, hcz134_7, hfz134_0, hfz134_1, hfz134_2, hfz134_3, hfz134_4, hfz134_5, hfz134_6, hfz134_7⟩ := bc8 BK316.out) | (go_at_call 10; (with_reducible refine (lambrequinlaw21_num.calls a1 t364 t365 t366 _ A74.out).mono ?_); rintro e w135 ⟨rfl, hb⟩; (try clear A74); replace HO_10 := am (Kd.N_below (by (with_reducible repeat (first | apply Kd.N_alloc | apply Kd.N_drewN | apply Kd.N_drew)); exact HO_10.out) hb); replace BK316 := am (bb_ BK316.out hb); replace HB := am (bs_ HB.out hb); (try clear hb); (try clear hb2); (try clear hk); (try clear hi)) | (go_at_call 15; (with_reducible refine (lambrequinlaw21_sym.calls a3 t367 t368 t369 _ A75.out).mono ?_); rintro e w136 ⟨rfl, hb⟩; (try clear A75); replace HO_10 := am (Kd.N_below (by (with_reducible repeat (first | apply Kd.N_alloc | apply Kd.N_drewN | apply Kd.N_drew)); exact HO_10.out) hb); replace BK316 := am (bb_ BK316.out hb); replace HB := am (bs_ HB.out hb); (try clear hb); (try clear hb2); (try clear hk); (try clear hi)) | (go_at_call 9; (have A_ := A76.out); (rw [Ny370.out] at A_); (with_reducible refine (hasLit2 _ _ t302 (⟨#[115, 105, 110, 107]⟩ : ByteArray) t364 t365 t366 t367 t368 t369 t373 _ ?side1 ?side2 A_).mono ?_); (case side1 => repeat (first | exact (Kd.N_reads' HO_10.out).2.2 | (with_reducible refine Kd.C_alloc ?_ _) | (with_reducible refine Kd.C_drewN ?_ _) | (with_reducible refine Kd.C_drew ?_))); (case side2 => exact (Kd.N_reads' HO_10.out).2.1); rintro e w140 ⟨rfl, hb⟩; (try clear A76); replace HO_10 := am (Kd.N_below (by (with_reducible repeat (first | apply Kd.N_alloc | apply Kd.N_drewN | apply Kd.N_drew)); exact HO_10.out) hb); replace BK316 := am (bb_ BK316.out hb); replace HB := am (bs_ HB.out hb); (try clear hb); (try clear hb2); (try clear hk); (try clear hi)))
                     go_ret
                     exact ⟨by first | rfl | (simp [errW_none, errW_some] <;> rfl) | (simp [*, errW_none, errW_some] <;> rfl), pL HB.out⟩
                   ·rw [if_neg c73] at H
                    exact absurd H (by simp)
                  ·replace c72 := Bool.eq_false_iff.mpr c72
                   subst c72
                   have H1 : (if (t363 == false) = true then ((lambrequinlaw21_num.f a1).bind fun bt374 => ((lambrequinlaw21_sym.f a3).bind fun bt377 => ((facts_Has.f t302 (⟨#[115, 105, 110, 107]⟩ : ByteArray) (([(⟨bt374.1, bt374.2.1, bt374.2.2⟩ : Val), (⟨bt377.1, bt377.2.1, bt377.2.2⟩ : Val)] : List (Val)))).bind fun t383 => (if x19_48 = true then (some (t383 == (x317000_34 == 6))) else (some (t383 == false)))))) else (none)) = some r := by rw [if_neg (show ¬ (false = true) by decide)] at H; exact H
                   clear H
                   have H := H1
                   clear H1
                   by_cases c166 : (t363 == false) = true
                   ·rw [if_pos c166] at H
                    have c166b0 : (t363 == false) = true := c166
                    (try (have c166b1 : decide (t363 = false) = true := by simpa using c166))
                    (try (have c166b2 : (t363 == false) = true := by simpa using c166))
                    clear c166
                    replace H := Option.bind_eq_some_iff.mp H
                    obtain ⟨⟨t374, t375, t376⟩, A1670, H⟩ := H
                    replace H : ((lambrequinlaw21_sym.f a3).bind fun bt377 => ((facts_Has.f t302 (⟨#[115, 105, 110, 107]⟩ : ByteArray) (([(⟨t374, t375, t376⟩ : Val), (⟨bt377.1, bt377.2.1, bt377.2.2⟩ : Val)] : List (Val)))).bind fun t383 => (if x19_48 = true then (some (t383 == (x317000_34 == 6))) else (some (t383 == false))))) = some r := H
                    have A167 := am A1670
                    clear A1670
                    replace H := Option.bind_eq_some_iff.mp H
                    obtain ⟨⟨t377, t378, t379⟩, A1680, H⟩ := H
                    replace H : ((facts_Has.f t302 (⟨#[115, 105, 110, 107]⟩ : ByteArray) (([(⟨t374, t375, t376⟩ : Val), (⟨t377, t378, t379⟩ : Val)] : List (Val)))).bind fun t383 => (if x19_48 = true then (some (t383 == (x317000_34 == 6))) else (some (t383 == false)))) = some r := H
                    have A168 := am A1680
                    clear A1680
                    obtain ⟨y380, hy380⟩ : ∃ y_ : List (Val), y_ = (([(⟨t374, t375, t376⟩ : Val), (⟨t377, t378, t379⟩ : Val)] : List (Val))) := ⟨_, rfl⟩
                    replace H : ((facts_Has.f t302 (⟨#[115, 105, 110, 107]⟩ : ByteArray) y380).bind fun t383 => (if x19_48 = true then (some (t383 == (x317000_34 == 6))) else (some (t383 == false)))) = some r := by first | (rw [hy380]; with_reducible exact H) | (have H2_ := (Option.bind_some _ _).symm.trans H; rw [hy380]; with_reducible exact H2_) | (have H2_ := (Option.bind_some _ _).symm.trans H; with_reducible exact H2_) | with_reducible exact H | (rw [hy380]; exact H) | exact H
                    have Ny380 := am hy380
                    clear hy380
                    replace H := Option.bind_eq_some_iff.mp H
                    obtain ⟨t383, A1690, H⟩ := H
                    replace H : (if x19_48 = true then (some (t383 == (x317000_34 == 6))) else (some (t383 == false))) = some r := H
                    have A169 := am A1690
                    clear A1690
                    by_cases c170 : x19_48 = true
                    ·subst c170
                     have H1 : (some (t383 == (x317000_34 == 6))) = some r := by rw [if_pos rfl] at H; exact H
                     clear H
                     have H := H1
                     clear H1
                     obtain rfl := Option.some.inj H
                     go_wp2_with (first | (go_at_call 10; (with_reducible refine (lambrequinlaw21_num.calls a1 t324 t325 t326 _ A57.out).mono ?_); rintro e w171 ⟨rfl, hb⟩; (try clear A57); replace HO_10 := am (Kd.N_below (by (with_reducible repeat (first | apply Kd.N_alloc | apply Kd.N_drewN | apply Kd.N_drew)); exact HO_10.out) hb); replace BK316 := am (bb_ BK316.out hb); replace HB := am (bs_ HB.out hb); (try clear hb); (try clear hb2); (try clear hk); (try clear hi)) | (go_at_call 10; (with_reducible refine (lambrequinlaw21_num.calls a2 t327 t328 t329 _ A58.out).mono ?_); rintro e w172 ⟨rfl, hb⟩; (try clear A58); replace HO_10 := am (Kd.N_below (by (with_reducible repeat (first | apply Kd.N_alloc | apply Kd.N_drewN | apply Kd.N_drew)); exact HO_10.out) hb); replace BK316 := am (bb_ BK316.out hb); replace HB := am (bs_ HB.out hb); (try clear hb); (try clear hb2); (try clear hk); (try clear hi)) | (go_at_call 9; (have A_ := A59.out); (rw [Ny330.out] at A_); (with_reducible refine (hasLit2 _ _ t302 (⟨#[110, 101, 120, 116]⟩ : ByteArray) t324 t325 t326 t327 t328 t329 t333 _ ?side1 ?side2 A_).mono ?_); (case side1 => repeat (first | exact (Kd.N_reads' HO_10.out).2.2 | (with_reducible refine Kd.C_alloc ?_ _) | (with_reducible refine Kd.C_drewN ?_ _) | (with_reducible refine Kd.C_drew ?_))); (case side2 => exact (Kd.N_reads' HO_10.out).2.1); rintro e w176 ⟨rfl, hb⟩; (try clear A59); replace HO_10 := am (Kd.N_below (by (with_reducible repeat (first | apply Kd.N_alloc | apply Kd.N_drewN | apply Kd.N_drew)); exact HO_10.out) hb); replace BK316 := am (bb_ BK316.out hb); replace HB := am (bs_ HB.out hb); (try clear hb); (try clear hb2); (try clear hk); (try clear hi)) | (go_at_call 10; (with_reducible refine (lambrequinlaw21_num.calls a1 t334 t335 t336 _ A61.out).mono ?_); rintro e w177 ⟨rfl, hb⟩; (try clear A61); replace HO_10 := am (Kd.N_below (by (with_reducible repeat (first | apply Kd.N_alloc | apply Kd.N_drewN | apply Kd.N_drew)); exact HO_10.out) hb); replace BK316 := am (bb_ BK316.out hb); replace HB := am (bs_ HB.out hb); (try clear hb); (try clear hb2); (try clear hk); (try clear hi)) | (go_at_call 15; (with_reducible refine (lambrequinlaw21_sym.calls a3 t337 t338 t339 _ A62.out).mono ?_); rintro e w178 ⟨rfl, hb⟩; (try clear A62); replace HO_10 := am (Kd.N_below (by (with_reducible repeat (first | apply Kd.N_alloc | apply Kd.N_drewN | apply Kd.N_drew)); exact HO_10.out) hb); replace BK316 := am (bb_ BK316.out hb); replace HB := am (bs_ HB.out hb); (try clear hb); (try clear hb2); (try clear hk); (try clear hi)) | (go_at_call 9; (have A_ := A63.out); (rw [Ny340.out] at A_); (with_reducible refine (hasLit2 _ _ t302 (⟨#[100, 101, 102]⟩ : ByteArray) t334 t335 t336 t337 t338 t339 t343 _ ?side1 ?side2 A_).mono ?_); (case side1 => repeat (first | exact (Kd.N_reads' HO_10.out).2.2 | (with_reducible refine Kd.C_alloc ?_ _) | (with_reducible refine Kd.C_drewN ?_ _) | (with_reducible refine Kd.C_drew ?_))); (case side2 => exact (Kd.N_reads' HO_10.out).2.1); rintro e w182 ⟨rfl, hb⟩; (try clear A63); replace HO_10 := am (Kd.N_below (by (with_reducible repeat (first | apply Kd.N_alloc | apply Kd.N_drewN | apply Kd.N_drew)); exact HO_10.out) hb); replace BK316 := am (bb_ BK316.out hb); replace HB := am (bs_ HB.out hb); (try clear hb); (try clear hb2); (try clear hk); (try clear hi)) | (go_at_call 10; (with_reducible refine (lambrequinlaw21_num.calls a1 t344 t345 t346 _ A65.out).mono ?_); rintro e w183 ⟨rfl, hb⟩; (try clear A65); replace HO_10 := am (Kd.N_below (by (with_reducible repeat (first | apply Kd.N_alloc | apply Kd.N_drewN | apply Kd.N_drew)); exact HO_10.out) hb); replace BK316 := am (bb_ BK316.out hb); replace HB := am (bs_ HB.out hb); (try clear hb); (try clear hb2); (try clear hk); (try clear hi)) | (go_at_call 15; (with_reducible refine (lambrequinlaw21_sym.calls a3 t347 t348 t349 _ A66.out).mono ?_); rintro e w184 ⟨rfl, hb⟩; (try clear A66); replace HO_10 := am (Kd.N_below (by (with_reducible repeat (first | apply Kd.N_alloc | apply Kd.N_drewN | apply Kd.N_drew)); exact HO_10.out) hb); replace BK316 := am (bb_ BK316.out hb); replace HB := am (bs_ HB.out hb); (try clear hb); (try clear hb2); (try clear hk); (try clear hi)) | (go_at_call 9; (have A_ := A67.out); (rw [Ny350.out] at A_); (with_reducible refine (hasLit2 _ _ t302 (⟨#[117, 115, 101]⟩ : ByteArray) t344 t345 t346 t347 t348 t349 t353 _ ?side1 ?side2 A_).mono ?_); (case side1 => repeat (first | exact (Kd.N_reads' HO_10.out).2.2 | (with_reducible refine Kd.C_alloc ?_ _) | (with_reducible refine Kd.C_drewN ?_ _) | (with_reducible refine Kd.C_drew ?_))); (case side2 => exact (Kd.N_reads' HO_10.out).2.1); rintro e w188 ⟨rfl, hb⟩; (try clear A67); replace HO_10 := am (Kd.N_below (by (with_reducible repeat (first | apply Kd.N_alloc | apply Kd.N_drewN | apply Kd.N_drew)); exact HO_10.out) hb); replace BK316 := am (bb_ BK316.out hb); replace HB := am (bs_ HB.out hb); (try clear hb); (try clear hb2); (try clear hk); (try clear hi)) | (go_at_call 10; (with_reducible refine (lambrequinlaw21_num.calls a1 t354 t355 t356 _ A69.out).mono ?_); rintro e w189 ⟨rfl, hb⟩; (try clear A69); replace HO_10 := am (Kd.N_below (by (with_reducible repeat (first | apply Kd.N_alloc | apply Kd.N_drewN | apply Kd.N_drew)); exact HO_10.out) hb); replace BK316 := am (bb_ BK316.out hb); replace HB := am (bs_ HB.out hb); (try clear hb); (try clear hb2); (try clear hk); (try clear hi)) | (go_at_call 15; (with_reducible refine (lambrequinlaw21_sym.calls a3 t357 t358 t359 _ A70.out).mono ?_); rintro e w190 ⟨rfl, hb⟩; (try clear A70); replace HO_10 := am (Kd.N_below (by (with_reducible repeat (first | apply Kd.N_alloc | apply Kd.N_drewN | apply Kd.N_drew)); exact HO_10.out) hb); replace BK316 := am (bb_ BK316.out hb); replace HB := am (bs_ HB.out hb); (try clear hb); (try clear hb2); (try clear hk); (try clear hi)) | (go_at_call 9; (have A_ := A71.out); (rw [Ny360.out] at A_); (with_reducible refine (hasLit2 _ _ t302 (⟨#[115, 111, 117, 114, 99, 101]⟩ : ByteArray) t354 t355 t356 t357 t358 t359 t363 _ ?side1 ?side2 A_).mono ?_); (case side1 => repeat (first | exact (Kd.N_reads' HO_10.out).2.2 | (with_reducible refine Kd.C_alloc ?_ _) | (with_reducible refine Kd.C_drewN ?_ _) | (with_reducible refine Kd.C_drew ?_))); (case side2 => exact (Kd.N_reads' HO_10.out).2.1); rintro e w194 ⟨rfl, hb⟩; (try clear A71); replace HO_10 := am (Kd.N_below (by (with_reducible repeat (first | apply Kd.N_alloc | apply Kd.N_drewN | apply Kd.N_drew)); exact HO_10.out) hb); replace BK316 := am (bb_ BK316.out hb); replace HB := am (bs_ HB.out hb); (try clear hb); (try clear hb2); (try clear hk); (try clear hi)) | (go_at_call 10; (with_reducible refine (lambrequinlaw21_num.calls a1 t374 t375 t376 _ A167.out).mono ?_); rintro e w195 ⟨rfl, hb⟩; (try clear A167); replace HO_10 := am (Kd.N_below (by (with_reducible repeat (first | apply Kd.N_alloc | apply Kd.N_drewN | apply Kd.N_drew)); exact HO_10.out) hb); replace BK316 := am (bb_ BK316.out hb); replace HB := am (bs_ HB.out hb); (try clear hb); (try clear hb2); (try clear hk); (try clear hi)) | (go_at_call 15; (with_reducible refine (lambrequinlaw21_sym.calls a3 t377 t378 t379 _ A168.out).mono ?_); rintro e w196 ⟨rfl, hb⟩; (try clear A168); replace HO_10 := am (Kd.N_below (by (with_reducible repeat (first | apply Kd.N_alloc | apply Kd.N_drewN | apply Kd.N_drew)); exact HO_10.out) hb); replace BK316 := am (bb_ BK316.out hb); replace HB := am (bs_ HB.out hb); (try clear hb); (try clear hb2); (try clear hk); (try clear hi)) | (go_at_call 9; (have A_ := A169.out); (rw [Ny380.out] at A_); (with_reducible refine (hasLit2 _ _ t302 (⟨#[115, 105, 110, 107]⟩ : ByteArray) t374 t375 t376 t377 t378 t379 t383 _ ?side1 ?side2 A_).mono ?_); (case side1 => repeat (first | exact (Kd.N_reads' HO_10.out).2.2 | (with_reducible refine Kd.C_alloc ?_ _) | (with_reducible refine Kd.C_drewN ?_ _) | (with_reducible refine Kd.C_drew ?_))); (case side2 => exact (Kd.N_reads' HO_10.out).2.1); rintro e w200 ⟨rfl, hb⟩; (try clear A169); replace HO_10 := am (Kd.N_below (by (with_reducible repeat (first | apply Kd.N_alloc | apply Kd.N_drewN | apply Kd.N_drew)); exact HO_10.out) hb); replace BK316 := am (bb_ BK316.out hb); replace HB := am (bs_ HB.out hb); (try clear hb); (try clear hb2); (try clear hk); (try clear hi); obtain ⟨hcz201_0, hcz201_1, hcz201_2, hcz201_3, hcz201_4, hcz201_5, hcz201_6, hcz201_7, hfz201_0, hfz201_1, hfz201_2, hfz201_3, hfz201_4, hfz201_5, hfz201_6, hfz201_7⟩ := bc8 BK316.out))
                     go_ret
                     exact ⟨by first | rfl | (simp [errW_none, errW_some] <;> rfl) | (simp [*, errW_none, errW_some] <;> rfl), pL HB.out⟩
                    ·replace c170 := Bool.eq_false_iff.mpr c170
                     subst c170
                     have H1 : (some (t383 == false)) = some r := by rw [if_neg (show ¬ (false = true) by decide)] at H; exact H
                     clear H
                     have H := H1
                     clear H1
                     obtain rfl := Option.some.inj H
                     go_wp2_with (first | (go_at_call 10; (with_reducible refine (lambrequinlaw21_num.calls a1 t324 t325 t326 _ A57.out).mono ?_); rintro e w202 ⟨rfl, hb⟩; (try clear A57); replace HO_10 := am (Kd.N_below (by (with_reducible repeat (first | apply Kd.N_alloc | apply Kd.N_drewN | apply Kd.N_drew)); exact HO_10.out) hb); replace BK316 := am (bb_ BK316.out hb); replace HB := am (bs_ HB.out hb); (try clear hb); (try clear hb2); (try clear hk); (try clear hi)) | (go_at_call 10; (with_reducible refine (lambrequinlaw21_num.calls a2 t327 t328 t329 _ A58.out).mono ?_); rintro e w203 ⟨rfl, hb⟩; (try clear A58); replace HO_10 := am (Kd.N_below (by (with_reducible repeat (first | apply Kd.N_alloc | apply Kd.N_drewN | apply Kd.N_drew)); exact HO_10.out) hb); replace BK316 := am (bb_ BK316.out hb); replace HB := am (bs_ HB.out hb); (try clear hb); (try clear hb2); (try clear hk); (try clear hi)) | (go_at_call 9; (have A_ := A59.out); (rw [Ny330.out] at A_); (with_reducible refine (hasLit2 _ _ t302 (⟨#[110, 101, 120, 116]⟩ : ByteArray) t324 t325 t326 t327 t328 t329 t333 _ ?side1 ?side2 A_).mono ?_); (case side1 => repeat (first | exact (Kd.N_reads' HO_10.out).2.2 | (with_reducible refine Kd.C_alloc ?_ _) | (with_reducible refine Kd.C_drewN ?_ _) | (with_reducible refine Kd.C_drew ?_))); (case side2 => exact (Kd.N_reads' HO_10.out).2.1); rintro e w207 ⟨rfl, hb⟩; (try clear A59); replace HO_10 := am (Kd.N_below (by (with_reducible repeat (first | apply Kd.N_alloc | apply Kd.N_drewN | apply Kd.N_drew)); exact HO_10.out) hb); replace BK316 := am (bb_ BK316.out hb); replace HB := am (bs_ HB.out hb); (try clear hb); (try clear hb2); (try clear hk); (try clear hi)) | (go_at_call 10; (with_reducible refine (lambrequinlaw21_num.calls a1 t334 t335 t336 _ A61.out).mono ?_); rintro e w208 ⟨rfl, hb⟩; (try clear A61); replace HO_10 := am (Kd.N_below (by (with_reducible repeat (first | apply Kd.N_alloc | apply Kd.N_drewN | apply Kd.N_drew)); exact HO_10.out) hb); replace BK316 := am (bb_ BK316.out hb); replace HB := am (bs_ HB.out hb); (try clear hb); (try clear hb2); (try clear hk); (try clear hi)) | (go_at_call 15; (with_reducible refine (lambrequinlaw21_sym.calls a3 t337 t338 t339 _ A62.out).mono ?_); rintro e w209 ⟨rfl, hb⟩; (try clear A62); replace HO_10 := am (Kd.N_below (by (with_reducible repeat (first | apply Kd.N_alloc | apply Kd.N_drewN | apply Kd.N_drew)); exact HO_10.out) hb); replace BK316 := am (bb_ BK316.out hb); replace HB := am (bs_ HB.out hb); (try clear hb); (try clear hb2); (try clear hk); (try clear hi)) | (go_at_call 9; (have A_ := A63.out); (rw [Ny340.out] at A_); (with_reducible refine (hasLit2 _ _ t302 (⟨#[100, 101, 102]⟩ : ByteArray) t334 t335 t336 t337 t338 t339 t343 _ ?side1 ?side2 A_).mono ?_); (case side1 => repeat (first | exact (Kd.N_reads' HO_10.out).2.2 | (with_reducible refine Kd.C_alloc ?_ _) | (with_reducible refine Kd.C_drewN ?_ _) | (with_reducible refine Kd.C_drew ?_))); (case side2 => exact (Kd.N_reads' HO_10.out).2.1); rintro e w213 ⟨rfl, hb⟩; (try clear A63); replace HO_10 := am (Kd.N_below (by (with_reducible repeat (first | apply Kd.N_alloc | apply Kd.N_drewN | apply Kd.N_drew)); exact HO_10.out) hb); replace BK316 := am (bb_ BK316.out hb); replace HB := am (bs_ HB.out hb); (try clear hb); (try clear hb2); (try clear hk); (try clear hi)) | (go_at_call 10; (with_reducible refine (lambrequinlaw21_num.calls a1 t344 t345 t346 _ A65.out).mono ?_); rintro e w214 ⟨rfl, hb⟩; (try clear A65); replace HO_10 := am (Kd.N_below (by (with_reducible repeat (first | apply Kd.N_alloc | apply Kd.N_drewN | apply Kd.N_drew)); exact HO_10.out) hb); replace BK316 := am (bb_ BK316.out hb); replace HB := am (bs_ HB.out hb); (try clear hb); (try clear hb2); (try clear hk); (try clear hi)) | (go_at_call 15; (with_reducible refine (lambrequinlaw21_sym.calls a3 t347 t348 t349 _ A66.out).mono ?_); rintro e w215 ⟨rfl, hb⟩; (try clear A66); replace HO_10 := am (Kd.N_below (by (with_reducible repeat (first | apply Kd.N_alloc | apply Kd.N_drewN | apply Kd.N_drew)); exact HO_10.out) hb); replace BK316 := am (bb_ BK316.out hb); replace HB := am (bs_ HB.out hb); (try clear hb); (try clear hb2); (try clear hk); (try clear hi)) | (go_at_call 9; (have A_ := A67.out); (rw [Ny350.out] at A_); (with_reducible refine (hasLit2 _ _ t302 (⟨#[117, 115, 101]⟩ : ByteArray) t344 t345 t346 t347 t348 t349 t353 _ ?side1 ?side2 A_).mono ?_); (case side1 => repeat (first | exact (Kd.N_reads' HO_10.out).2.2 | (with_reducible refine Kd.C_alloc ?_ _) | (with_reducible refine Kd.C_drewN ?_ _) | (with_reducible refine Kd.C_drew ?_))); (case side2 => exact (Kd.N_reads' HO_10.out).2.1); rintro e w219 ⟨rfl, hb⟩; (try clear A67); replace HO_10 := am (Kd.N_below (by (with_reducible repeat (first | apply Kd.N_alloc | apply Kd.N_drewN | apply Kd.N_drew)); exact HO_10.out) hb); replace BK316 := am (bb_ BK316.out hb); replace HB := am (bs_ HB.out hb); (try clear hb); (try clear hb2); (try clear hk); (try clear hi)) | (go_at_call 10; (with_reducible refine (lambrequinlaw21_num.calls a1 t354 t355 t356 _ A69.out).mono ?_); rintro e w220 ⟨rfl, hb⟩; (try clear A69); replace HO_10 := am (Kd.N_below (by (with_reducible repeat (first | apply Kd.N_alloc | apply Kd.N_drewN | apply Kd.N_drew)); exact HO_10.out) hb); replace BK316 := am (bb_ BK316.out hb); replace HB := am (bs_ HB.out hb); (try clear hb); (try clear hb2); (try clear hk); (try clear hi)) | (go_at_call 15; (with_reducible refine (lambrequinlaw21_sym.calls a3 t357 t358 t359 _ A70.out).mono ?_); rintro e w221 ⟨rfl, hb⟩; (try clear A70); replace HO_10 := am (Kd.N_below (by (with_reducible repeat (first | apply Kd.N_alloc | apply Kd.N_drewN | apply Kd.N_drew)); exact HO_10.out) hb); replace BK316 := am (bb_ BK316.out hb); replace HB := am (bs_ HB.out hb); (try clear hb); (try clear hb2); (try clear hk); (try clear hi)) | (go_at_call 9; (have A_ := A71.out); (rw [Ny360.out] at A_); (with_reducible refine (hasLit2 _ _ t302 (⟨#[115, 111, 117, 114, 99, 101]⟩ : ByteArray) t354 t355 t356 t357 t358 t359 t363 _ ?side1 ?side2 A_).mono ?_); (case side1 => repeat (first | exact (Kd.N_reads' HO_10.out).2.2 | (with_reducible refine Kd.C_alloc ?_ _) | (with_reducible refine Kd.C_drewN ?_ _) | (with_reducible refine Kd.C_drew ?_))); (case side2 => exact (Kd.N_reads' HO_10.out).2.1); rintro e w225 ⟨rfl, hb⟩; (try clear A71); replace HO_10 := am (Kd.N_below (by (with_reducible repeat (first | apply Kd.N_alloc | apply Kd.N_drewN | apply Kd.N_drew)); exact HO_10.out) hb); replace BK316 := am (bb_ BK316.out hb); replace HB := am (bs_ HB.out hb); (try clear hb); (try clear hb2); (try clear hk); (try clear hi)) | (go_at_call 10; (with_reducible refine (lambrequinlaw21_num.calls a1 t374 t375 t376 _ A167.out).mono ?_); rintro e w226 ⟨rfl, hb⟩; (try clear A167); replace HO_10 := am (Kd.N_below (by (with_reducible repeat (first | apply Kd.N_alloc | apply Kd.N_drewN | apply Kd.N_drew)); exact HO_10.out) hb); replace BK316 := am (bb_ BK316.out hb); replace HB := am (bs_ HB.out hb); (try clear hb); (try clear hb2); (try clear hk); (try clear hi)) | (go_at_call 15; (with_reducible refine (lambrequinlaw21_sym.calls a3 t377 t378 t379 _ A168.out).mono ?_); rintro e w227 ⟨rfl, hb⟩; (try clear A168); replace HO_10 := am (Kd.N_below (by (with_reducible repeat (first | apply Kd.N_alloc | apply Kd.N_drewN | apply Kd.N_drew)); exact HO_10.out) hb); replace BK316 := am (bb_ BK316.out hb); replace HB := am (bs_ HB.out hb); (try clear hb); (try clear hb2); (try clear hk); (try clear hi)) | (go_at_call 9; (have A_ := A169.out); (rw [Ny380.out] at A_); (with_reducible refine (hasLit2 _ _ t302 (⟨#[115, 105, 110, 107]⟩ : ByteArray) t374 t375 t376 t377 t378 t379 t383 _ ?side1 ?side2 A_).mono ?_); (case side1 => repeat (first | exact (Kd.N_reads' HO_10.out).2.2 | (with_reducible refine Kd.C_alloc ?_ _) | (with_reducible refine Kd.C_drewN ?_ _) | (with_reducible refine Kd.C_drew ?_))); (case side2 => exact (Kd.N_reads' HO_10.out).2.1); rintro e w231 ⟨rfl, hb⟩; (try clear A169); replace HO_10 := am (Kd.N_below (by (with_reducible repeat (first | apply Kd.N_alloc | apply Kd.N_drewN | apply Kd.N_drew)); exact HO_10.out) hb); replace BK316 := am (bb_ BK316.out hb); replace HB := am (bs_ HB.out hb); (try clear hb); (try clear hb2); (try clear hk); (try clear hi)))
                     go_ret
                     exact ⟨by first | rfl | (simp [errW_none, errW_some] <;> rfl) | (simp [*, errW_none, errW_some] <;> rfl), pL HB.out⟩
                   ·rw [if_neg c166] at H
                    exact absurd H (by simp)
                 ·rw [if_neg c68] at H
                  exact absurd H (by simp)
                ·rw [if_neg c64] at H
                 exact absurd H (by simp)
               ·rw [if_neg c60] at H
                exact absurd H (by simp)
              ·rw [if_neg c56] at H
               exact absurd H (by simp)
end Go.Proofs.Ytoekfmdcplphmaa.H
namespace Go.Proofs.Ytoekfmdcplphmaa.H
open Go.RowKit Go.Proofs.YtoekfmdcplphmaaW.PrintWords
/-- no longer than the model's longest text -/
def bStr (s : ByteArray) : Prop := s.size ≤ 9223372036854775807
/-- What an argument of a type holds, read as the kind kd; B: how long its texts are. -/
structure Opens {α : Type} (P : Program) (t : TypeId) (kd : Kd α) (B : α → Prop) : Prop where
  size : P.cellsOf t = kd.sz
  opened : ∀ {H : Type} {enc : TypeId × Value → H} {w : World} {base : Nat} {sp : Nat → Bool} {held : Bool} {fuel : Nat} {cs : List Value} {x : DataW H × List MemPlace},
    DataW.trod enc P w base sp held fuel t cs = some x → ∃ a, kd.K w a cs ∧ B a
theorem Opens.as {α : Type} {P : Program} {t : TypeId} {kd : Kd α} {B B' : α → Prop} (h : Opens P t kd B) (hB : ∀ a, B a → B' a) : Opens P t kd B' :=
  ⟨h.size, fun hx => by obtain ⟨a, ha, hb⟩ := h.opened hx; exact ⟨a, ha, hB a hb⟩⟩
theorem opens_bool {P : Program} {t : TypeId} (ht : P.underlying t = some .bool) (hs : P.cellsOf t = 1) : Opens P t Kd.bool (fun _ => True) :=
  ⟨hs, fun h => by obtain ⟨b, rfl, _⟩ := DataW.trod_bool ht h; exact ⟨b, rfl, trivial⟩⟩
theorem opens_int {P : Program} {t : TypeId} {k : IntKind} (ht : P.underlying t = some (.int k)) (hs : P.cellsOf t = 1) : Opens P t (Kd.int k) (fun _ => True) :=
  ⟨hs, fun h => by obtain ⟨b, rfl, _⟩ := DataW.trod_int ht h; exact ⟨b, rfl, trivial⟩⟩
theorem opens_string {P : Program} {t : TypeId} (ht : P.underlying t = some .string) (hs : P.cellsOf t = 1) : Opens P t Kd.string bStr :=
  ⟨hs, fun h => by obtain ⟨b, rfl, _, hb⟩ := DataW.trod_string ht h; exact ⟨b, rfl, hb⟩⟩
theorem list_of {α : Type} (p : Nat → α → Prop) : ∀ n : Nat, (∀ i, i < n → ∃ y, p i y) → ∃ l : List α, l.length = n ∧ ∀ i y, l[i]? = some y → p i y
  | 0, _ => ⟨[], rfl, fun i y h => by simp at h⟩
  | n + 1, h => by
    obtain ⟨l, hl, hp⟩ := list_of p n (fun i hi => h i (by omega))
    obtain ⟨y, hy⟩ := h n (by omega)
    refine ⟨l ++ [y], by simp [hl], fun i z hz => ?_⟩
    rcases Nat.lt_trichotomy i n with hi | rfl | hi
    · rw [List.getElem?_append_left (by omega)] at hz
      exact hp i z hz
    · rw [List.getElem?_append_right (by omega), hl, Nat.sub_self] at hz
      simp at hz
      subst hz
      exact hy
    · rw [List.getElem?_eq_none (by simp [hl]; omega)] at hz
      simp at hz
theorem addr_add_add (a : Addr) (i j : Nat) : (a.add i).add j = a.add (i + j) := by
  unfold Addr.add
  by_cases hi : i = 0 <;> by_cases hj : j = 0 <;> simp [hi, hj, Nat.add_assoc]
theorem opens_slice {α : Type} {P : Program} {t e : TypeId} {kd : Kd α} {B : α → Prop} (ht : P.underlying t = some (.slice e)) (hs : P.cellsOf t = 1) (he : Opens P e kd B) (q : Nat) : Opens P t (Kd.slice q kd) (fun l => l.length ≤ 9223372036854775807 ∧ ∀ y ∈ l, B y) := by
  refine ⟨hs, fun {H enc w base sp held fuel cs x} h => ?_⟩
  rcases DataW.trod_slice ht h with ⟨rfl, _⟩ | ⟨a, len, cap, elems, rest, n, _, rfl, _, _, hl, hm, hlen, hel, _⟩
  · exact ⟨[], ⟨none, 0, rfl, Nat.le_refl _, rfl, by simp, fun h => absurd h (by simp)⟩, by simp, by simp⟩
  · obtain ⟨l, hll, hp⟩ := list_of (fun i y => B y ∧ ∃ c, c.length = kd.sz ∧ kd.K w y c ∧ ∀ j u, c[j]? = some u → w.cell? (a.add (i * kd.sz + j)) = some u) len (fun i hi => by
      have h1 := hel i hi
      rw [List.getElem?_eq_getElem (by omega)] at h1
      obtain ⟨cs', h2, h3⟩ := Option.bind_eq_some_iff.1 h1
      obtain ⟨y, hy, hby⟩ := he.opened h3
      obtain ⟨_, h4, h5⟩ := World.cells?_some h2
      refine ⟨y, hby, cs', by rw [h4, he.size], hy, fun j u hu => ?_⟩
      have hj : j < P.cellsOf e := by rw [← h4]; exact (List.getElem?_eq_some_iff.1 hu).1
      rw [← addr_add_add, ← he.size, h5 j hj, hu])
    subst hll
    refine ⟨l, ⟨some a, cap, rfl, hl, rfl, Nat.le_trans hl (Nat.le_trans hm (by decide)), fun _ => ⟨a, rfl, fun j p hj => (hp j p hj).2⟩⟩, Nat.le_trans hl (Nat.le_trans hm (by decide)), fun y hy => ?_⟩
    obtain ⟨i, hi, rfl⟩ := List.mem_iff_getElem.1 hy
    exact (hp i _ (List.getElem?_eq_getElem hi)).1
theorem opens_iso {α β : Type} {P : Program} {t : TypeId} {kd : Kd α} {B : α → Prop} (h : Opens P t kd B) (f : β → α) (hf : ∀ b, ∃ a, f a = b) : Opens P t (Kd.iso kd f) (fun b => B (f b)) :=
  ⟨h.size, fun hx => by obtain ⟨a, ha⟩ := h.opened hx; obtain ⟨b, rfl⟩ := hf a; exact ⟨b, ha⟩⟩
/-- The fields of a struct from the offset o on. -/
structure OpensL {α : Type} (P : Program) (fs : List Field) (o : Nat) (kd : Kd α) (B : α → Prop) : Prop where
  opened : ∀ {H : Type} {enc : TypeId × Value → H} {w : World} {base : Nat} {sp : Nat → Bool} {held : Bool} {fuel : Nat} (cs : List Value), cs.length = o + kd.sz →
    (∀ f ∈ fs, ∃ x, DataW.trod enc P w base sp held fuel f.type ((cs.drop f.offset).take (P.cellsOf f.type)) = some x) → ∃ a, kd.K w a (cs.drop o) ∧ B a
theorem opensL_one {α : Type} {P : Program} {f : Field} {o : Nat} {kd : Kd α} {B : α → Prop} (ho : f.offset = o) (h : Opens P f.type kd B) : OpensL P [f] o kd B := by
  refine ⟨fun {H enc w base sp held fuel} cs hcs hf => ?_⟩
  obtain ⟨x, hx⟩ := hf f (by simp)
  obtain ⟨a, ha, hb⟩ := h.opened hx
  rw [ho, h.size, List.take_of_length_le (by simp [hcs])] at ha
  exact ⟨a, ha, hb⟩
theorem opensL_cons {α β : Type} {P : Program} {f : Field} {fs : List Field} {o : Nat} {kd : Kd α} {kd' : Kd β} {B : α → Prop} {B' : β → Prop} (ho : f.offset = o) (h : Opens P f.type kd B) (hr : OpensL P fs (o + kd.sz) kd' B') : OpensL P (f :: fs) o (Kd.pair kd kd') (fun p => B p.1 ∧ B' p.2) := by
  refine ⟨fun {H enc w base sp held fuel} cs hcs hf => ?_⟩
  obtain ⟨x, hx⟩ := hf f (by simp)
  obtain ⟨a, ha, hba⟩ := h.opened hx
  have hcs' : cs.length = o + kd.sz + kd'.sz := by rw [hcs]; show o + (kd.sz + kd'.sz) = _; omega
  obtain ⟨b, hb, hbb⟩ := hr.opened cs hcs' (fun g hg => hf g (by simp [hg]))
  rw [ho, h.size] at ha
  refine ⟨(a, b), ⟨(cs.drop o).take kd.sz, (cs.drop (o + kd.sz)), ?_, ha, hb⟩, hba, hbb⟩
  rw [← List.drop_drop, List.take_append_drop]
theorem opens_struct {α : Type} {P : Program} {t : TypeId} {fs : List Field} {kd : Kd α} {B : α → Prop} (ht : P.underlying t = some (.struct ⟨fs⟩)) (hs : P.cellsOf t = kd.sz) (h : OpensL P fs 0 kd B) : Opens P t kd B := by
  refine ⟨hs, fun {H enc w base sp held fuel cs x} hx => ?_⟩
  obtain ⟨xs, n, _, _, hl, hlen, hf⟩ := DataW.trod_struct ht hx
  obtain ⟨a, ha, hb⟩ := h.opened (enc := enc) (w := w) (base := base) (sp := sp) (held := held) (fuel := n) cs (by rw [hl, hs]; omega) (fun f hfm => by
    obtain ⟨i, hi, rfl⟩ := List.mem_iff_getElem.1 hfm
    have h1 := hf i fs[i] (by simp [hi])
    exact ⟨xs[i]'(by rw [hlen]; simpa using hi), by rw [h1, List.getElem?_eq_getElem]⟩)
  exact ⟨a, by simpa using ha, hb⟩
/-- an array of two numbers -/
theorem opens_arr2 {P : Program} {t e : TypeId} {k : IntKind} (ht : P.underlying t = some (.array 2 e)) (hu : P.underlying e = some (.int k)) (hs : P.cellsOf t = 2) (he : P.cellsOf e = 1) :
    Opens P t (Kd.pair (Kd.int k) (Kd.int k)) (fun p => (Lit.int k p.1).wf = true ∧ (Lit.int k p.2).wf = true) := by
  refine ⟨hs, fun {H enc w base sp held fuel cs x} hx => ?_⟩
  obtain ⟨xs, m, _, _, hl, hlen, hel⟩ := DataW.trod_array ht hx
  rw [hs] at hl
  match cs, hl with
  | [c0, c1], _ =>
    match xs, hlen with
    | [x0, x1], _ =>
      have h0 := hel 0 (by decide)
      have h1 := hel 1 (by decide)
      rw [he] at h0 h1
      obtain ⟨a, ea, _, wa⟩ := DataW.trod_int hu (show DataW.trod enc P w base sp held m e [c0] = some x0 from h0)
      obtain ⟨b, eb, _, wb⟩ := DataW.trod_int hu (show DataW.trod enc P w base sp held m e [c1] = some x1 from h1)
      cases ea; cases eb
      exact ⟨(a, b), ⟨[.int k a], [.int k b], rfl, rfl, rfl⟩, wa, wb⟩
theorem okWide_array {P : Program} {w : World} {r : Reach} {base : Nat} {t e : TypeId} {n : Nat} {v : Value} (ht : P.underlying t = some (.array n e)) (h : Value.okWide P w r base t v) : ∃ cs, v = .agg cs ∧ cs.size = P.cellsOf t := by
  simp only [Value.okWide, ht] at h
  obtain ⟨cs, h1, h2, _⟩ := h
  exact ⟨cs, h1, h2⟩
theorem opens_isoL {α β : Type} {P : Program} {fs : List Field} {o : Nat} {kd : Kd α} {B : α → Prop} (h : OpensL P fs o kd B) (f : β → α) (hf : ∀ b, ∃ a, f a = b) : OpensL P fs o (Kd.iso kd f) (fun b => B (f b)) := by
  refine ⟨fun {H enc w base sp held fuel} cs hcs hx => ?_⟩
  obtain ⟨a, ha⟩ := h.opened cs hcs hx
  obtain ⟨b, rfl⟩ := hf a
  exact ⟨b, ha⟩
/-- an argument's value, opened -/
theorem Opens.argB {α : Type} {P : Program} {t : TypeId} {kd : Kd α} {B : α → Prop} (h : Opens P t kd B) {H : Type} {enc : TypeId × Value → H} {w : World} {base : Nat} {sp : Nat → Bool} {held : Bool} {v : Value} {d : DataW H} {ps : List MemPlace}
    (hv : DataW.Trod enc P w base sp held t v d ps) : ∃ a, kd.K w a v.cells.toList ∧ B a := by
  obtain ⟨fuel, hf⟩ := hv
  exact h.opened hf
theorem Opens.arg {α : Type} {P : Program} {t : TypeId} {kd : Kd α} {B : α → Prop} (h : Opens P t kd B) {H : Type} {enc : TypeId × Value → H} {w : World} {base : Nat} {sp : Nat → Bool} {held : Bool} {v : Value} {d : DataW H} {ps : List MemPlace}
    (hv : DataW.Trod enc P w base sp held t v d ps) : ∃ a, kd.K w a v.cells.toList := by
  obtain ⟨a, ha, _⟩ := h.argB hv
  exact ⟨a, ha⟩
/-- An argument's row is no longer than its weight allows. -/
theorem sized_row {H : Type} {enc : TypeId × Value → H} {P : Program} {W : World} {base : Nat} {spare : Nat → Bool} {held : Bool} {t e : TypeId} {a : Option Addr} {len cap : Nat} {d : DataW H} {ps : List MemPlace} {ts : List TypeId} {ds : List (DataW H)} {j : Nat}
    (hsz : (DataW.weightsEach P ts ds).all (· ≤ reachBytes) = true) (ht : ts[j]? = some t) (hd : ds[j]? = some d) (hu : P.underlying t = some (.slice e)) {B : Nat} (hB : P.bytesOf e = B)
    (h : DataW.Trod enc P W base spare held t (.slice a len cap) d ps) : len * B ≤ 140737488351232 := by
  obtain ⟨fuel, hf⟩ := h
  rcases DataW.trod_slice hu hf with ⟨hcs, _⟩ | ⟨x, l, c, elems, rest, n, _, hcs, hx, _, hl, _, hlen, _⟩
  · simp [Value.cells] at hcs
    obtain ⟨rfl, rfl, rfl⟩ := hcs
    simp
  · simp [Value.cells] at hcs
    obtain ⟨rfl, rfl, rfl⟩ := hcs
    obtain ⟨rfl, _⟩ := Prod.mk.inj hx
    have z := sized_slice hsz ht hd hu
    rw [hB, List.length_map, List.length_map, hlen] at z
    exact Nat.le_trans (Nat.mul_le_mul_right _ (Nat.le_add_right _ _)) z
def bVal (x : Val) : Prop := True ∧ bStr (x.sym) ∧ True
theorem opens_Val : Opens Try.prog 28 k28 bVal :=
  Opens.as (opens_struct Try.underlying28 (by kernel_rfl) (opens_isoL (opensL_cons rfl (opens_bool (by kernel_rfl) (by kernel_rfl)) (opensL_cons rfl (opens_string (by kernel_rfl) (by kernel_rfl)) (opensL_one rfl (opens_int (by kernel_rfl) (by kernel_rfl))))) _ (fun b => ⟨⟨b.1, b.2.1, b.2.2⟩, rfl⟩))) (fun _ h => h)
def bFact (x : Fact) : Prop := bStr (x.pred) ∧ (x.args.length ≤ 9223372036854775807 ∧ ∀ y ∈ x.args, bVal (y))
theorem opens_Fact : Opens Try.prog 44 k44 bFact :=
  Opens.as (opens_struct Try.underlying44 (by kernel_rfl) (opens_isoL (opensL_cons rfl (opens_string (by kernel_rfl) (by kernel_rfl)) (opensL_one rfl (opens_slice (by kernel_rfl) (by kernel_rfl) opens_Val 28))) _ (fun b => ⟨⟨b.1, b.2⟩, rfl⟩))) (fun _ h => h)
def bStmt (x : Stmt) : Prop := True ∧ bStr (x.x) ∧ bStr (x.y) ∧ bStr (x.z) ∧ bStr (x.op) ∧ True ∧ True ∧ True
theorem opens_Stmt : Opens Try.prog 33 k33 bStmt :=
  Opens.as (opens_struct Try.underlying33 (by kernel_rfl) (opens_isoL (opensL_cons rfl (opens_int (by kernel_rfl) (by kernel_rfl)) (opensL_cons rfl (opens_string (by kernel_rfl) (by kernel_rfl)) (opensL_cons rfl (opens_string (by kernel_rfl) (by kernel_rfl)) (opensL_cons rfl (opens_string (by kernel_rfl) (by kernel_rfl)) (opensL_cons rfl (opens_string (by kernel_rfl) (by kernel_rfl)) (opensL_cons rfl (opens_int (by kernel_rfl) (by kernel_rfl)) (opensL_cons rfl (opens_int (by kernel_rfl) (by kernel_rfl)) (opensL_one rfl (opens_int (by kernel_rfl) (by kernel_rfl)))))))))) _ (fun b => ⟨⟨b.1, b.2.1, b.2.2.1, b.2.2.2.1, b.2.2.2.2.1, b.2.2.2.2.2.1, b.2.2.2.2.2.2.1, b.2.2.2.2.2.2.2⟩, rfl⟩))) (fun _ h => h)
end Go.Proofs.Ytoekfmdcplphmaa.H
/- FactsTell: facts tell just where a statement leads, what it defines, and what it uses. Conditions: the statement's own. -/
namespace Go.Proofs.Ytoekfmdcplphmaa.H
open Go.RowKit Go.Proofs.YtoekfmdcplphmaaW.PrintWords
section
variable (s : List Stmt) (n m : Int) (x : ByteArray)
theorem Tell_sink (st : Stmt) (x18 x19 : Bool) (h6 : (x19 && st.kind == 6) = true ↔ fSink n x ∈ factsL s) {t : Bool} (ht : t = decide (fSink n x ∈ factsL s)) {g : Nat → Option Bool}
    (hg : ∀ k, g k = if x19 = true then (some (t == (st.kind == 6))) else (some (t == false))) : Ev g true := by
  have e : g = _ := funext hg
  rw [e]
  cases x19 with
  | true =>
    refine Ev.pos rfl (Ev.some ?_)
    have : t = (st.kind == 6) := by rw [ht, Bool.eq_iff_iff, decide_eq_true_iff, ← h6]; simp
    rw [this]; simp
  | false =>
    refine Ev.neg (by decide) (Ev.some ?_)
    have : t = false := by
      rw [ht]
      refine decide_eq_false fun h => ?_
      have := h6.2 h
      simp at this
    rw [this]; simp
theorem Tell_j4 (st : Stmt) (x12 x18 x19 : Bool) (h12 : x12 = true ↔ fNext n m ∈ factsL s) (h18 : x18 = true ↔ fDef n x ∈ factsL s) (h19 : x19 = true ↔ fUse n x ∈ factsL s)
    (h4 : (x18 && st.kind == 4) = true ↔ fSource n x ∈ factsL s) (h6 : (x19 && st.kind == 6) = true ↔ fSink n x ∈ factsL s) :
    Ev (fun k => lambrequinlaw21_FactsTell.j4 k n m x true (ofF s) x12 x18 x19 st.kind st.x st.y st.z st.op st.n st.a st.b) true := by
  refine Ev.step (fun k => by rw [lambrequinlaw21_FactsTell.j4]) ?_
  refine Ev.pos rfl ?_
  refine Ev.pure rfl ?_
  refine Ev.pure rfl ?_
  refine Ev.pure (HasOf (b := x12) rfl h12) ?_
  refine Ev.pos (by simp) ?_
  refine Ev.pure rfl ?_
  refine Ev.pure rfl ?_
  refine Ev.pure (HasOf (b := x18) rfl h18) ?_
  refine Ev.pos (by simp) ?_
  refine Ev.pure rfl ?_
  refine Ev.pure rfl ?_
  refine Ev.pure (HasOf (b := x19) rfl h19) ?_
  refine Ev.pos (by simp) ?_
  refine Ev.pure rfl ?_
  refine Ev.pure rfl ?_
  refine Ev.pure (HasOf (b := (x18 && st.kind == 4)) rfl h4) ?_
  cases x18 with
  | true =>
    refine Ev.pos rfl ?_
    refine Ev.pos (by simp) ?_
    refine Ev.pure rfl ?_
    refine Ev.pure rfl ?_
    refine Ev.pure (HasOf (b := decide (fSink n x ∈ factsL s)) rfl decide_eq_true_iff) ?_
    exact Tell_sink s n x st true x19 h6 rfl (fun k => rfl)
  | false =>
    refine Ev.neg (by decide) ?_
    refine Ev.pos (by simp) ?_
    refine Ev.pure rfl ?_
    refine Ev.pure rfl ?_
    refine Ev.pure (HasOf (b := decide (fSink n x ∈ factsL s)) rfl decide_eq_true_iff) ?_
    exact Tell_sink s n x st false x19 h6 rfl (fun k => rfl)
theorem Tell_in (h0 : 0 ≤ n) (h1 : n < (s.length : Int)) (c : Bool) (hc : c = true ↔ fNext n m ∈ factsL s) (st : Stmt) (hst : st = at_ s n) :
    Ev (fun k => lambrequinlaw21_FactsTell.j2 k n m x true (ofF s) true c st.kind st.x st.y st.z st.op st.n st.a st.b) true := by
  refine Ev.step (fun k => by rw [lambrequinlaw21_FactsTell.j2]) ?_
  refine Ev.pure (Def_eq st) ?_
  refine Ev.pos rfl ?_
  have hl := usesS_len st
  have key : ∀ v : Bool, (v = true ↔ fDef n x ∈ factsL s) → Ev (fun k => lambrequinlaw21_FactsTell.j3 k n m x true (ofF s) true c v st.kind st.x st.y st.z st.op st.n st.a st.b) true := by
    intro v hv
    refine Ev.step (fun k => by rw [lambrequinlaw21_FactsTell.j3]) ?_
    refine Ev.pos rfl ?_
    refine Ev.pure (Uses_eq st) ?_
    refine Ev.bind (In_ev _ x (by omega)) ?_
    refine Tell_j4 s n m x st c v _ hc hv ?_ ?_ ?_
    · rw [mem_iff, mem_use, ← hst]; simp only [h0, h1, true_and]
    · rw [Bool.and_eq_true, hv, mem_def, mem_source, ← hst]
      simp only [h0, h1, true_and, beq_iff_eq, and_assoc]
    · rw [Bool.and_eq_true, mem_iff, mem_sink, ← hst]
      simp only [h0, h1, true_and, beq_iff_eq]
  by_cases hd : (defN st).2 = true
  · refine Ev.pos hd ?_
    refine key _ ?_
    rw [mem_def, ← hst, beq_iff_eq, lib_ba_eq]
    simp only [h0, h1, hd, true_and]
  · refine Ev.neg hd ?_
    refine key false ?_
    rw [mem_def, ← hst]
    simp only [hd, false_and, and_false, Bool.false_eq_true]
theorem Tell_out (h : ¬ (0 ≤ n ∧ n < (s.length : Int))) (c : Bool) (hc : c = true ↔ fNext n m ∈ factsL s) (st : Stmt) :
    Ev (fun k => lambrequinlaw21_FactsTell.j2 k n m x true (ofF s) false c st.kind st.x st.y st.z st.op st.n st.a st.b) true := by
  refine Ev.step (fun k => by rw [lambrequinlaw21_FactsTell.j2]) ?_
  refine Ev.pure (Def_eq st) ?_
  refine Ev.neg (by decide) ?_
  refine Ev.step (fun k => by rw [lambrequinlaw21_FactsTell.j3]) ?_
  refine Ev.neg (by decide) ?_
  refine Tell_j4 s n m x st c false false hc ?_ ?_ ?_ ?_
  · rw [mem_def]
    constructor
    · intro h; cases h
    · intro h'; omega
  · rw [mem_use]
    constructor
    · intro h; cases h
    · intro h'; omega
  · rw [mem_source, Bool.false_and]
    constructor
    · intro h; cases h
    · intro h'; omega
  · rw [mem_sink, Bool.false_and]
    constructor
    · intro h; cases h
    · intro h'; omega
theorem Tell_l0 (b : Bool) (hb : b = true ↔ 0 ≤ n ∧ n < (s.length : Int)) : ∀ (r : List Int) (i : Nat) (c : Bool), (nxt s n).drop i = r → (m ∈ nxt s n ↔ c = true ∨ m ∈ r) → Ev (fun k => lambrequinlaw21_FactsTell.l0 k s n m x true (ofF s) b c (nxt s n) i) true
  | [], i, c, h, e => by
    refine Ev.step (fun k => by rw [lambrequinlaw21_FactsTell.l0]) ?_
    refine Ev.neg (drop_end h) ?_
    have hc : c = true ↔ fNext n m ∈ factsL s := by rw [mem_next, e]; simp
    cases b with
    | true =>
      obtain ⟨h0, h1⟩ := hb.1 rfl
      refine Ev.pos rfl ?_
      refine Ev.pos h0 ?_
      refine Ev.pos h1 ?_
      exact Tell_in s n m x h0 h1 c hc (at_ s n) rfl
    | false =>
      refine Ev.neg (by decide) ?_
      exact Tell_out s n m x (fun h => by cases hb.2 h) c hc ⟨0, noS, noS, noS, noS, 0, 0, 0⟩
  | y :: r, i, c, h, e => by
    have hl := nxt_len s n
    obtain ⟨g1, g2, g3, g4, g5⟩ := drop_more h (by omega)
    refine Ev.step (fun k => by rw [lambrequinlaw21_FactsTell.l0]) ?_
    refine Ev.pos g1 ?_
    rw [g5]
    cases c with
    | true =>
      refine Ev.pos rfl ?_
      exact Tell_l0 b hb r (i + 1) true g4 (by rw [e]; simp)
    | false =>
      refine Ev.neg (by decide) ?_
      refine Ev.pos g2 ?_
      rw [show rd (nxt s n) i = y from g3 _]
      refine Tell_l0 b hb r (i + 1) (y == m) g4 ?_
      rw [e, List.mem_cons, beq_iff_eq]
      constructor
      · rintro (h | h | h)
        · cases h
        · exact .inl h.symm
        · exact .inr h
      · rintro (h | h)
        · exact .inr (.inl h.symm)
        · exact .inr (.inr h)
theorem Tell_j0 (b : Bool) (hb : b = true ↔ 0 ≤ n ∧ n < (s.length : Int)) : Ev (fun k => lambrequinlaw21_FactsTell.j0 k s n m x true (ofF s) b) true := by
  refine Ev.step (fun k => by rw [lambrequinlaw21_FactsTell.j0]) ?_
  refine Ev.pure rfl ?_
  refine Ev.pure (HasOf (b := b) rfl (by rw [hb]; exact mem_node.symm)) ?_
  refine Ev.neg (by simp) ?_
  refine Ev.pure (Next_eq s n) ?_
  exact Tell_l0 s n m x b hb (nxt s n) 0 false rfl (by simp)
end
theorem FactsTell_pure (s : List Stmt) (_hl : s.length * 96 ≤ 140737488351232) (n : Int) (w1 : (Lit.int .i64 n).wf = true) (m : Int) (w2 : (Lit.int .i64 m).wf = true) (x : ByteArray) (w3 : x.size ≤ 140737488351232) : ∃ k, lambrequinlaw21_FactsTell.f k s n m x = some true := by
  refine Ev.rounds ?_
  unfold lambrequinlaw21_FactsTell.f
  refine Ev.bind shown21_ev ?_
  by_cases hs : (s.length : Int) > 60
  · exact Ev.pos hs (Ev.now _)
  · refine Ev.neg hs ?_
    refine Ev.bind (of_ev s (by omega)) ?_
    by_cases h0 : n ≥ 0
    · refine Ev.pos h0 ?_
      exact Tell_j0 s n m x _ (by rw [decide_eq_true_iff]; omega)
    · refine Ev.neg h0 ?_
      exact Tell_j0 s n m x false ⟨fun h => (by cases h), fun h => (by omega)⟩
theorem FactsTell_walk (w : World) (x0 : (List Stmt)) (A0 : Option Addr) (c0 : Nat) (l0 : x0.length ≤ c0) (g0 : Kd.C k33 w A0 x0.length x0) (y0 : x0.length * 96 ≤ 140737488351232) (a1 : Int) (w1 : (Lit.int .i64 a1).wf = true) (a2 : Int) (w2 : (Lit.int .i64 a2).wf = true) (a3 : ByteArray) (w3 : a3.size ≤ 140737488351232) :
    Calls Try.prog 3 #[.slice A0 x0.length c0, .int .i64 a1, .int .i64 a2, .string a3] w fun e w' => e = .returned (.bool true) ∧ Below w.heap.size w w' := by
  obtain ⟨k, h⟩ := FactsTell_pure x0 y0 a1 w1 a2 w2 a3 w3
  exact (lambrequinlaw21_FactsTell.calls k A0 c0 x0 a1 a2 a3 true w g0 l0 h).mono (fun e w' h' => ⟨h'.1, h'.2⟩)
end Go.Proofs.Ytoekfmdcplphmaa.H
namespace Go.Proofs.Ytoekfmdcplphmaa.factsTell
open Go.ChangeShapes Go.WideShapes Go.ChangeAt Go.RowKit Go.Proofs.Ytoekfmdcplphmaa.H Go.Proofs.YtoekfmdcplphmaaW.PrintWords
open Go.ChangeMaps (open_string shut_string)
theorem own : ownKnob Try.prog.godebug = none := by kernel_rfl
theorem laidOut : laidOutB Try.prog = true := by kernel_rfl
set_option maxRecDepth 100000 in
theorem lifted (os : Os) (started : os.Started) (H : Type) (enc : TypeId × Value → H) :
    ReturnsInHanded {} Try.checked os 3 .any (Rows.factsTellSpec.pre6 enc Try.prog Try.f3 Rows.factsTellRow.domain false) (Rows.factsTellSpec.post enc Try.prog Try.f3 false true false false) := by
  refine returnsInHanded_of_change_sized (C := Try.checked) own started (by kernel_rfl) Try.func3
    (ChangeSpec.witness6 (enc := enc) (C := Try.checked) false ⟨#[], #[.slice none 0 0, .int .i64 0, .int .i64 0, .string ⟨#[]⟩], []⟩ 8 (by kernel_rfl) (by kernel_rfl) (by kernel_rfl) (by kernel_rfl)) ?_
  intro W base args ds gs before hval0 hW hcnd hsz0 _
  have hsz : (DataW.weightsEach Try.prog (Try.f3.params.toList ++ Rows.factsTellSpec.plain.varTypes Try.prog) (ds ++ gs)).all (· ≤ reachBytes) = true := hsz0
  have hval : ∀ (j : Nat) t v, Try.f3.params[j]? = some t → args[j]? = some v → Value.okWide Try.prog W .any base t v := hval0
  have hW' := hW
  obtain ⟨p, q, hA0, hV, rfl, hfz, hnd⟩ := hW
  have hA : DataW.TrodAll enc Try.prog W 0 (fun _ => true) true Try.f3.params.toList args.toList ds p := hA0
  rw [Try.params3] at hA hval hsz
  obtain ⟨v0, vs0, d0, ds0, p0, q0, hargs, rfl, rfl, h0, r0⟩ := trodAll_cons hA
  obtain ⟨v1, vs1, d1, ds1, p1, q1, rfl, rfl, rfl, h1, r1⟩ := trodAll_cons r0
  obtain ⟨v2, vs2, d2, ds2, p2, q2, rfl, rfl, rfl, h2, r2⟩ := trodAll_cons r1
  obtain ⟨v3, vs3, d3, ds3, p3, q3, rfl, rfl, rfl, h3, r3⟩ := trodAll_cons r2
  obtain ⟨rfl, rfl, rfl⟩ := trodAll_nil r3
  obtain rfl : args = #[v0, v1, v2, v3] := by cases args; simp_all
  obtain ⟨rfl, rfl⟩ := trodVars_none hV
  have k0 := h0
  have lt0 : ∀ x ∈ p0, x.block < W.heap.size := by obtain ⟨m, hm⟩ := k0; exact DataW.trod_lt m _ _ _ hm
  obtain ⟨a0, len0, cap0, rfl⟩ := okWide_slice Try.underlying22 (hval 0 22 v0 rfl rfl)
  have y0 := sized_row hsz (j := 0) (t := 22) rfl rfl Try.underlying22 (B := 96) (by kernel_rfl) h0
  obtain ⟨x0, A0, c0, e0, l0, g0⟩ := (opens_slice Try.underlying22 (by kernel_rfl) opens_Stmt 33).arg k0
  simp only [Value.cells, List.cons.injEq, and_true, Value.slice.injEq] at e0
  obtain ⟨rfl, rfl, rfl⟩ := e0
  obtain ⟨a1, rfl, rfl, rfl, w1⟩ := open_int Try.underlying3 (hval 1 3 v1 rfl rfl) h1
  obtain ⟨a2, rfl, rfl, rfl, w2⟩ := open_int Try.underlying3 (hval 2 3 v2 rfl rfl) h2
  obtain ⟨a3, rfl, rfl, rfl, y3⟩ := open_string Try.underlying9 (hval 3 9 v3 rfl rfl) h3
  have w3 : a3.size ≤ 140737488351232 := by
    have z := sized_string hsz (j := 3) (t := 9) rfl rfl
    rw [Array.length_toList] at z
    exact z
  clear hA0 hval0 hsz0 hsz
  refine (FactsTell_walk W x0 a0 cap0 l0 g0 y0 a1 w1 a2 w2 a3 w3).mono fun e W' ⟨he, bel⟩ => ?_
  subst he
  exact ⟨_, rfl, _, _, _, [], _, [], hW', trodAll_mk1 (shut_bool Try.underlying4 _), (trodAll_cons_mk (Below.trod laidOut (by kernel_rfl) (of_decide_eq_true (by kernel_rfl)) k0 bel lt0) (trodAll_cons_mk (shut_int Try.underlying3 w1) (trodAll_cons_mk (shut_int Try.underlying3 w2) (trodAll_cons_mk (shut_string Try.underlying9 y3) trodAll_mk0)))), rfl, bel.frame _, fun h => by cases h⟩
theorem over : Rows.factsTellRow.holds Try.pinned (OpenSpec.ofChange Rows.factsTellSpec) :=
  OpenClaim.holds_of_wide 3 Try.f3 rfl rfl rfl rfl rfl rfl rfl ⟨rfl, rfl, rfl, rfl, rfl⟩ rfl rfl rfl rfl rfl (by kernel_rfl) Try.func3 (by kernel_rfl)
    (of_decide_eq_true (by kernel_rfl)) (by unfold Func.isWrapper; first | (rw [if_pos (by decide +kernel)]; kernel_rfl) | (rw [if_neg (by decide +kernel)]; exact ⟨rfl, rfl⟩))
    (fun os started H enc _ => lifted os started H enc)
theorem proved : Rows.FactsTellSaid := over
end Go.Proofs.Ytoekfmdcplphmaa.factsTell
namespace Go.Proofs.Ytoekfmdcplphmaa
theorem factsTell_holds : Rows.FactsTellSaid := factsTell.proved
#print axioms factsTell_holds
end Go.Proofs.Ytoekfmdcplphmaa

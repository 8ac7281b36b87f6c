/- RowFactsSorted of the seat's law FactsSorted: the law holds, under the statement's own conditions. -/
import Derived.Test.YtoekfmdcplphmaaNXFactsSorted
import Derived.Test.YtoekfmdcplphmaaNXFactsSorted2
import Derived.OpenShut
import Derived.SizedLaws
import Derived.DataReads
set_option linter.unusedVariables false
set_option linter.unusedSimpArgs false
set_option linter.unusedSectionVars false
namespace Go.Proofs.Ytoekfmdcplphmaa.H
open Go.RowKit Go.Proofs.YtoekfmdcplphmaaW.PrintWords Go.Proofs.YtoekfmdcplphmaaW.PrintLast Go.Proofs.YtoekfmdcplphmaaW.PrintMore
attribute [local go_sem] max2_int min2_int max_two min_two max_three min_three max_four min_four
def lambrequinlaw21_num.f (a0 : Int) : Option (Bool × ByteArray × Int) := some (false, (⟨#[]⟩ : ByteArray), a0)
set_option maxHeartbeats 8000000 in
set_option maxRecDepth 100000 in
theorem lambrequinlaw21_num.calls (a0 : Int) (r1 : Bool) (r2 : ByteArray) (r3 : Int) (w : World) (h : lambrequinlaw21_num.f a0 = some (r1, r2, r3)) :
  Calls Try.prog 10 #[.int .i64 a0] w fun e w' => e = .returned (.agg #[.bool r1, .string r2, .int .i64 r3]) ∧ Below w.heap.size w w' := by
 have hu28 := Try.underlying28
 have HB := Aside0.mk (Below.refl w.heap.size w)
 have H : (some (false, (⟨#[]⟩ : ByteArray), a0)) = some (r1, r2, r3) := h
 clear h
 simp only [Option.some.injEq, Prod.mk.injEq] at H
 obtain ⟨rfl, rfl, rfl⟩ := H
 go_enter Try.func10, Try.ntmps10
 go_wp2_with (first | ((with_reducible refine gate_dst (N := 2) rfl ?_); refine box_event ?hg (N := 2) ?hd (cs := #[.bool false, .string (⟨#[]⟩ : ByteArray), .int .i64 0]) (t := 28) ?hr ?_; (case hd => rfl); (case hg => rfl); (case hr => first | (go_simp; done) | (go_simp; rfl)); intro gb101 hg w2 hbox hb; have n0_ := Aside0.mk (below_step (by repeat (first | (with_reducible first | exact HB.out | apply below_alloc | apply pw_below_drewN | apply below_drew1) | exact HB.out)) hb); have n1_ := Aside0.mk (hbox); have n2_ := Aside0.mk ((by rw [hg]; exact (below_size (by repeat (first | (with_reducible first | exact HB.out | apply below_alloc | apply pw_below_drewN | apply below_drew1) | exact HB.out))) : w.heap.size ≤ gb101)); have n3_ := Aside0.mk ((by rw [hg]; exact (below_size (by repeat (first | (with_reducible first | exact HB.out | apply below_alloc | apply pw_below_drewN | apply below_drew1) | exact HB.out))) : w.heap.size ≤ gb101)); clear HB; have HB := n0_; have BK101 := n1_; have GW101 := n2_; have GE101 := n3_; clear n0_ n1_ n2_ n3_; clear hb hbox hg; have hcz3_0 : w2.cell? ⟨gb101, 0, none⟩ = some (.bool false) := (blk_cell BK101.out 0).trans rfl; have hcz3_1 : w2.cell? ⟨gb101, 1, none⟩ = some (.string (⟨#[]⟩ : ByteArray)) := (blk_cell BK101.out 1).trans rfl; have hcz3_2 : w2.cell? ⟨gb101, 2, none⟩ = some (.int .i64 0) := (blk_cell BK101.out 2).trans rfl; have hfz3_0 := blk_frozen BK101.out 0; have hfz3_1 := blk_frozen BK101.out 1; have hfz3_2 := blk_frozen BK101.out 2))
 refine bodyPost_ret (results_cell_row rfl _ _ gb101 28 #[.bool false, .string (⟨#[]⟩ : ByteArray), .int .i64 a0] (0, 0) _ rfl (by (with_reducible repeat (first | refine blk_drewN ?_ _ | refine blk_drew ?_ | refine blk_alloc ?_ _)); refine blk_put (cs := #[.bool false, .string (⟨#[]⟩ : ByteArray), .int .i64 0]) ?_ 2 _ rfl; (with_reducible repeat (first | refine blk_drewN ?_ _ | refine blk_drew ?_ | refine blk_alloc ?_ _)); refine blk_put (cs := #[.bool false, .string (⟨#[]⟩ : ByteArray), .int .i64 0]) ?_ 1 _ rfl; (with_reducible repeat (first | refine blk_drewN ?_ _ | refine blk_drew ?_ | refine blk_alloc ?_ _)); refine blk_put (cs := #[.bool false, .string (⟨#[]⟩ : ByteArray), .int .i64 0]) ?_ 0 _ rfl; (with_reducible repeat (first | refine blk_drewN ?_ _ | refine blk_drew ?_ | refine blk_alloc ?_ _)); exact BK101.out) Try.underlying28 rfl (by kernel_rfl)) rfl ?_
 exact ⟨by first | rfl | (simp [errW_none, errW_some] <;> rfl) | (simp [*, errW_none, errW_some] <;> rfl), by repeat (first | (with_reducible first | exact HB.out | apply below_alloc | apply pw_below_drewN | apply below_drew1 | refine below_set ?_ GE101.out) | exact HB.out)⟩
def lambrequinlaw21_sym.f (a0 : ByteArray) : Option (Bool × ByteArray × Int) := some (true, a0, 0)
set_option maxHeartbeats 8000000 in
set_option maxRecDepth 100000 in
theorem lambrequinlaw21_sym.calls (a0 : ByteArray) (r1 : Bool) (r2 : ByteArray) (r3 : Int) (w : World) (h : lambrequinlaw21_sym.f a0 = some (r1, r2, r3)) :
  Calls Try.prog 15 #[.string a0] w fun e w' => e = .returned (.agg #[.bool r1, .string r2, .int .i64 r3]) ∧ Below w.heap.size w w' := by
 have hu28 := Try.underlying28
 have HB := Aside0.mk (Below.refl w.heap.size w)
 have H : (some (true, a0, 0)) = some (r1, r2, r3) := h
 clear h
 simp only [Option.some.injEq, Prod.mk.injEq] at H
 obtain ⟨rfl, rfl, rfl⟩ := H
 go_enter Try.func15, Try.ntmps15
 go_wp2_with (first | ((with_reducible refine gate_dst (N := 2) rfl ?_); refine box_event ?hg (N := 2) ?hd (cs := #[.bool false, .string (⟨#[]⟩ : ByteArray), .int .i64 0]) (t := 28) ?hr ?_; (case hd => rfl); (case hg => rfl); (case hr => first | (go_simp; done) | (go_simp; rfl)); intro gb101 hg w2 hbox hb; have n0_ := Aside0.mk (below_step (by repeat (first | (with_reducible first | exact HB.out | apply below_alloc | apply pw_below_drewN | apply below_drew1) | exact HB.out)) hb); have n1_ := Aside0.mk (hbox); have n2_ := Aside0.mk ((by rw [hg]; exact (below_size (by repeat (first | (with_reducible first | exact HB.out | apply below_alloc | apply pw_below_drewN | apply below_drew1) | exact HB.out))) : w.heap.size ≤ gb101)); have n3_ := Aside0.mk ((by rw [hg]; exact (below_size (by repeat (first | (with_reducible first | exact HB.out | apply below_alloc | apply pw_below_drewN | apply below_drew1) | exact HB.out))) : w.heap.size ≤ gb101)); clear HB; have HB := n0_; have BK101 := n1_; have GW101 := n2_; have GE101 := n3_; clear n0_ n1_ n2_ n3_; clear hb hbox hg; have hcz3_0 : w2.cell? ⟨gb101, 0, none⟩ = some (.bool false) := (blk_cell BK101.out 0).trans rfl; have hcz3_1 : w2.cell? ⟨gb101, 1, none⟩ = some (.string (⟨#[]⟩ : ByteArray)) := (blk_cell BK101.out 1).trans rfl; have hcz3_2 : w2.cell? ⟨gb101, 2, none⟩ = some (.int .i64 0) := (blk_cell BK101.out 2).trans rfl; have hfz3_0 := blk_frozen BK101.out 0; have hfz3_1 := blk_frozen BK101.out 1; have hfz3_2 := blk_frozen BK101.out 2))
 refine bodyPost_ret (results_cell_row rfl _ _ gb101 28 #[.bool true, .string a0, .int .i64 0] (0, 0) _ rfl (by (with_reducible repeat (first | refine blk_drewN ?_ _ | refine blk_drew ?_ | refine blk_alloc ?_ _)); refine blk_put (cs := #[.bool true, .string a0, .int .i64 0]) ?_ 2 _ rfl; (with_reducible repeat (first | refine blk_drewN ?_ _ | refine blk_drew ?_ | refine blk_alloc ?_ _)); refine blk_put (cs := #[.bool true, .string (⟨#[]⟩ : ByteArray), .int .i64 0]) ?_ 1 _ rfl; (with_reducible repeat (first | refine blk_drewN ?_ _ | refine blk_drew ?_ | refine blk_alloc ?_ _)); refine blk_put (cs := #[.bool false, .string (⟨#[]⟩ : ByteArray), .int .i64 0]) ?_ 0 _ rfl; (with_reducible repeat (first | refine blk_drewN ?_ _ | refine blk_drew ?_ | refine blk_alloc ?_ _)); exact BK101.out) Try.underlying28 rfl (by kernel_rfl)) rfl ?_
 exact ⟨by first | rfl | (simp [errW_none, errW_some] <;> rfl) | (simp [*, errW_none, errW_some] <;> rfl), by repeat (first | (with_reducible first | exact HB.out | apply below_alloc | apply pw_below_drewN | apply below_drew1 | refine below_set ?_ GE101.out) | exact HB.out)⟩
def lambrequinlaw21_shown.f (k : Nat)  : Option (Bool) := (facts_Of.f k (([(⟨4, (⟨#[120]⟩ : ByteArray), (⟨#[]⟩ : ByteArray), (⟨#[]⟩ : ByteArray), (⟨#[]⟩ : ByteArray), 0, 0, 0⟩ : Stmt), (⟨9, (⟨#[]⟩ : ByteArray), (⟨#[]⟩ : ByteArray), (⟨#[]⟩ : ByteArray), (⟨#[]⟩ : ByteArray), 0, 0, 0⟩ : Stmt)] : List (Stmt)))).bind fun t104 => (if (t104.length : Int) = 5 then (if 0 < (t104.length : Int) then (if ((rd_T44 t104 0).pred).toList = ([100, 101, 102] : List UInt8) then ((lambrequinlaw21_num.f 0).bind fun bt108 => ((lambrequinlaw21_num.f 1).bind fun bt111 => ((facts_Has.f t104 (⟨#[110, 101, 120, 116]⟩ : ByteArray) (([(⟨bt108.1, bt108.2.1, bt108.2.2⟩ : Val), (⟨bt111.1, bt111.2.1, bt111.2.2⟩ : Val)] : List (Val)))).bind fun t117 => (if t117 = true then ((lambrequinlaw21_num.f 0).bind fun bt118 => ((lambrequinlaw21_sym.f (⟨#[120]⟩ : ByteArray)).bind fun bt121 => ((facts_Has.f t104 (⟨#[115, 111, 117, 114, 99, 101]⟩ : ByteArray) (([(⟨bt118.1, bt118.2.1, bt118.2.2⟩ : Val), (⟨bt121.1, bt121.2.1, bt121.2.2⟩ : Val)] : List (Val)))).bind fun t127 => (if t127 = true then ((lambrequinlaw21_num.f 1).bind fun bt128 => ((lambrequinlaw21_num.f 0).bind fun bt131 => ((facts_Has.f t104 (⟨#[110, 101, 120, 116]⟩ : ByteArray) (([(⟨bt128.1, bt128.2.1, bt128.2.2⟩ : Val), (⟨bt131.1, bt131.2.1, bt131.2.2⟩ : Val)] : List (Val)))).bind fun t137 => (some (!t137))))) else (some false))))) else (some false))))) else (some false)) else (none)) else (some false))
theorem lambrequinlaw21_shown.mono : ∀ k, LeO (lambrequinlaw21_shown.f k ) (lambrequinlaw21_shown.f (k + 1) ) := by
 intro  k
 unfold lambrequinlaw21_shown.f
 repeat' first
   | (with_reducible exact facts_Of.mono _ _)
   | (with_reducible exact LeO.refl _)
   | (with_reducible exact LeO.none _)
   | (with_reducible refine LeO.ite ?_ ?_)
   | (with_reducible refine LeO.bind ?_ (fun _ => ?_))
   | exact facts_Of.mono _ _
   | exact LeO.none _
   | refine LeO.ite ?_ ?_
   | refine LeO.bind ?_ (fun _ => ?_)
set_option maxHeartbeats 8000000 in
set_option maxRecDepth 100000 in
theorem lambrequinlaw21_shown.calls (k : Nat)  (r : Bool) (w : World) (h : lambrequinlaw21_shown.f k  = some r) :
  Calls Try.prog 7 #[] w fun e w' => e = .returned (.bool r) ∧ Below w.heap.size w w' := by
 have hu33 := Try.underlying33
 have HB := am (Below.refl w.heap.size w)
 have H : ((facts_Of.f k (([(⟨4, (⟨#[120]⟩ : ByteArray), (⟨#[]⟩ : ByteArray), (⟨#[]⟩ : ByteArray), (⟨#[]⟩ : ByteArray), 0, 0, 0⟩ : Stmt), (⟨9, (⟨#[]⟩ : ByteArray), (⟨#[]⟩ : ByteArray), (⟨#[]⟩ : ByteArray), (⟨#[]⟩ : ByteArray), 0, 0, 0⟩ : Stmt)] : List (Stmt)))).bind fun t104 => (if (t104.length : Int) = 5 then (if 0 < (t104.length : Int) then (if ((rd_T44 t104 0).pred).toList = ([100, 101, 102] : List UInt8) then ((lambrequinlaw21_num.f 0).bind fun bt108 => ((lambrequinlaw21_num.f 1).bind fun bt111 => ((facts_Has.f t104 (⟨#[110, 101, 120, 116]⟩ : ByteArray) (([(⟨bt108.1, bt108.2.1, bt108.2.2⟩ : Val), (⟨bt111.1, bt111.2.1, bt111.2.2⟩ : Val)] : List (Val)))).bind fun t117 => (if t117 = true then ((lambrequinlaw21_num.f 0).bind fun bt118 => ((lambrequinlaw21_sym.f (⟨#[120]⟩ : ByteArray)).bind fun bt121 => ((facts_Has.f t104 (⟨#[115, 111, 117, 114, 99, 101]⟩ : ByteArray) (([(⟨bt118.1, bt118.2.1, bt118.2.2⟩ : Val), (⟨bt121.1, bt121.2.1, bt121.2.2⟩ : Val)] : List (Val)))).bind fun t127 => (if t127 = true then ((lambrequinlaw21_num.f 1).bind fun bt128 => ((lambrequinlaw21_num.f 0).bind fun bt131 => ((facts_Has.f t104 (⟨#[110, 101, 120, 116]⟩ : ByteArray) (([(⟨bt128.1, bt128.2.1, bt128.2.2⟩ : Val), (⟨bt131.1, bt131.2.1, bt131.2.2⟩ : Val)] : List (Val)))).bind fun t137 => (some (!t137))))) else (some false))))) else (some false))))) else (some false)) else (none)) else (some false))) = some r := h
 clear h
 obtain ⟨y101, hy101⟩ : ∃ y_ : List (Stmt), y_ = (([(⟨4, (⟨#[120]⟩ : ByteArray), (⟨#[]⟩ : ByteArray), (⟨#[]⟩ : ByteArray), (⟨#[]⟩ : ByteArray), 0, 0, 0⟩ : Stmt), (⟨9, (⟨#[]⟩ : ByteArray), (⟨#[]⟩ : ByteArray), (⟨#[]⟩ : ByteArray), (⟨#[]⟩ : ByteArray), 0, 0, 0⟩ : Stmt)] : List (Stmt))) := ⟨_, rfl⟩
 replace H : ((facts_Of.f k y101).bind fun t104 => (if (t104.length : Int) = 5 then (if 0 < (t104.length : Int) then (if ((rd_T44 t104 0).pred).toList = ([100, 101, 102] : List UInt8) then ((lambrequinlaw21_num.f 0).bind fun bt108 => ((lambrequinlaw21_num.f 1).bind fun bt111 => ((facts_Has.f t104 (⟨#[110, 101, 120, 116]⟩ : ByteArray) (([(⟨bt108.1, bt108.2.1, bt108.2.2⟩ : Val), (⟨bt111.1, bt111.2.1, bt111.2.2⟩ : Val)] : List (Val)))).bind fun t117 => (if t117 = true then ((lambrequinlaw21_num.f 0).bind fun bt118 => ((lambrequinlaw21_sym.f (⟨#[120]⟩ : ByteArray)).bind fun bt121 => ((facts_Has.f t104 (⟨#[115, 111, 117, 114, 99, 101]⟩ : ByteArray) (([(⟨bt118.1, bt118.2.1, bt118.2.2⟩ : Val), (⟨bt121.1, bt121.2.1, bt121.2.2⟩ : Val)] : List (Val)))).bind fun t127 => (if t127 = true then ((lambrequinlaw21_num.f 1).bind fun bt128 => ((lambrequinlaw21_num.f 0).bind fun bt131 => ((facts_Has.f t104 (⟨#[110, 101, 120, 116]⟩ : ByteArray) (([(⟨bt128.1, bt128.2.1, bt128.2.2⟩ : Val), (⟨bt131.1, bt131.2.1, bt131.2.2⟩ : Val)] : List (Val)))).bind fun t137 => (some (!t137))))) else (some false))))) else (some false))))) else (some false)) else (none)) else (some false))) = some r := by first | (rw [hy101]; with_reducible exact H) | (have H2_ := (Option.bind_some _ _).symm.trans H; rw [hy101]; with_reducible exact H2_) | (have H2_ := (Option.bind_some _ _).symm.trans H; with_reducible exact H2_) | with_reducible exact H | (rw [hy101]; exact H) | exact H
 have Ny101 := am hy101
 clear hy101
 replace H := Option.bind_eq_some_iff.mp H
 obtain ⟨t104, A10, H⟩ := H
 replace H : (if (t104.length : Int) = 5 then (if 0 < (t104.length : Int) then (if ((rd_T44 t104 0).pred).toList = ([100, 101, 102] : List UInt8) then ((lambrequinlaw21_num.f 0).bind fun bt108 => ((lambrequinlaw21_num.f 1).bind fun bt111 => ((facts_Has.f t104 (⟨#[110, 101, 120, 116]⟩ : ByteArray) (([(⟨bt108.1, bt108.2.1, bt108.2.2⟩ : Val), (⟨bt111.1, bt111.2.1, bt111.2.2⟩ : Val)] : List (Val)))).bind fun t117 => (if t117 = true then ((lambrequinlaw21_num.f 0).bind fun bt118 => ((lambrequinlaw21_sym.f (⟨#[120]⟩ : ByteArray)).bind fun bt121 => ((facts_Has.f t104 (⟨#[115, 111, 117, 114, 99, 101]⟩ : ByteArray) (([(⟨bt118.1, bt118.2.1, bt118.2.2⟩ : Val), (⟨bt121.1, bt121.2.1, bt121.2.2⟩ : Val)] : List (Val)))).bind fun t127 => (if t127 = true then ((lambrequinlaw21_num.f 1).bind fun bt128 => ((lambrequinlaw21_num.f 0).bind fun bt131 => ((facts_Has.f t104 (⟨#[110, 101, 120, 116]⟩ : ByteArray) (([(⟨bt128.1, bt128.2.1, bt128.2.2⟩ : Val), (⟨bt131.1, bt131.2.1, bt131.2.2⟩ : Val)] : List (Val)))).bind fun t137 => (some (!t137))))) else (some false))))) else (some false))))) else (some false)) else (none)) else (some false)) = some r := H
 have A1 := am A10
 clear A10
 by_cases c2 : (t104.length : Int) = 5
 ·rw [if_pos c2] at H
  have c2b0 : ((t104.length : Int) == 5) = true := beq_iff_eq.mpr c2
  have c2b1 : ((t104.length : Int) != 5) = false := bne_eq_false_iff_eq.mpr c2
  clear c2
  by_cases c3 : 0 < (t104.length : Int)
  ·rw [if_pos c3] at H
   have c3b0 : decide (0 < (t104.length : Int)) = true := decide_eq_true c3
   have c3b1 : decide (0 < t104.length) = true := decide_eq_true (by omega)
   clear c3
   by_cases c4 : ((rd_T44 t104 0).pred).toList = ([100, 101, 102] : List UInt8)
   ·rw [if_pos c4] at H
    have c4b0 : (((rd_T44 t104 0).pred).toList == ([100, 101, 102] : List UInt8)) = true := beq_iff_eq.mpr c4
    have c4b1 : (((rd_T44 t104 0).pred).toList != ([100, 101, 102] : List UInt8)) = false := bne_eq_false_iff_eq.mpr c4
    clear c4
    replace H := Option.bind_eq_some_iff.mp H
    obtain ⟨⟨t108, t109, t110⟩, A50, H⟩ := H
    replace H : ((lambrequinlaw21_num.f 1).bind fun bt111 => ((facts_Has.f t104 (⟨#[110, 101, 120, 116]⟩ : ByteArray) (([(⟨t108, t109, t110⟩ : Val), (⟨bt111.1, bt111.2.1, bt111.2.2⟩ : Val)] : List (Val)))).bind fun t117 => (if t117 = true then ((lambrequinlaw21_num.f 0).bind fun bt118 => ((lambrequinlaw21_sym.f (⟨#[120]⟩ : ByteArray)).bind fun bt121 => ((facts_Has.f t104 (⟨#[115, 111, 117, 114, 99, 101]⟩ : ByteArray) (([(⟨bt118.1, bt118.2.1, bt118.2.2⟩ : Val), (⟨bt121.1, bt121.2.1, bt121.2.2⟩ : Val)] : List (Val)))).bind fun t127 => (if t127 = true then ((lambrequinlaw21_num.f 1).bind fun bt128 => ((lambrequinlaw21_num.f 0).bind fun bt131 => ((facts_Has.f t104 (⟨#[110, 101, 120, 116]⟩ : ByteArray) (([(⟨bt128.1, bt128.2.1, bt128.2.2⟩ : Val), (⟨bt131.1, bt131.2.1, bt131.2.2⟩ : Val)] : List (Val)))).bind fun t137 => (some (!t137))))) else (some false))))) else (some false)))) = some r := H
    have A5 := am A50
    clear A50
    replace H := Option.bind_eq_some_iff.mp H
    obtain ⟨⟨t111, t112, t113⟩, A60, H⟩ := H
    replace H : ((facts_Has.f t104 (⟨#[110, 101, 120, 116]⟩ : ByteArray) (([(⟨t108, t109, t110⟩ : Val), (⟨t111, t112, t113⟩ : Val)] : List (Val)))).bind fun t117 => (if t117 = true then ((lambrequinlaw21_num.f 0).bind fun bt118 => ((lambrequinlaw21_sym.f (⟨#[120]⟩ : ByteArray)).bind fun bt121 => ((facts_Has.f t104 (⟨#[115, 111, 117, 114, 99, 101]⟩ : ByteArray) (([(⟨bt118.1, bt118.2.1, bt118.2.2⟩ : Val), (⟨bt121.1, bt121.2.1, bt121.2.2⟩ : Val)] : List (Val)))).bind fun t127 => (if t127 = true then ((lambrequinlaw21_num.f 1).bind fun bt128 => ((lambrequinlaw21_num.f 0).bind fun bt131 => ((facts_Has.f t104 (⟨#[110, 101, 120, 116]⟩ : ByteArray) (([(⟨bt128.1, bt128.2.1, bt128.2.2⟩ : Val), (⟨bt131.1, bt131.2.1, bt131.2.2⟩ : Val)] : List (Val)))).bind fun t137 => (some (!t137))))) else (some false))))) else (some false))) = some r := H
    have A6 := am A60
    clear A60
    obtain ⟨y114, hy114⟩ : ∃ y_ : List (Val), y_ = (([(⟨t108, t109, t110⟩ : Val), (⟨t111, t112, t113⟩ : Val)] : List (Val))) := ⟨_, rfl⟩
    replace H : ((facts_Has.f t104 (⟨#[110, 101, 120, 116]⟩ : ByteArray) y114).bind fun t117 => (if t117 = true then ((lambrequinlaw21_num.f 0).bind fun bt118 => ((lambrequinlaw21_sym.f (⟨#[120]⟩ : ByteArray)).bind fun bt121 => ((facts_Has.f t104 (⟨#[115, 111, 117, 114, 99, 101]⟩ : ByteArray) (([(⟨bt118.1, bt118.2.1, bt118.2.2⟩ : Val), (⟨bt121.1, bt121.2.1, bt121.2.2⟩ : Val)] : List (Val)))).bind fun t127 => (if t127 = true then ((lambrequinlaw21_num.f 1).bind fun bt128 => ((lambrequinlaw21_num.f 0).bind fun bt131 => ((facts_Has.f t104 (⟨#[110, 101, 120, 116]⟩ : ByteArray) (([(⟨bt128.1, bt128.2.1, bt128.2.2⟩ : Val), (⟨bt131.1, bt131.2.1, bt131.2.2⟩ : Val)] : List (Val)))).bind fun t137 => (some (!t137))))) else (some false))))) else (some false))) = some r := by first | (rw [hy114]; with_reducible exact H) | (have H2_ := (Option.bind_some _ _).symm.trans H; rw [hy114]; with_reducible exact H2_) | (have H2_ := (Option.bind_some _ _).symm.trans H; with_reducible exact H2_) | with_reducible exact H | (rw [hy114]; exact H) | exact H
    have Ny114 := am hy114
    clear hy114
    replace H := Option.bind_eq_some_iff.mp H
    obtain ⟨t117, A70, H⟩ := H
    replace H : (if t117 = true then ((lambrequinlaw21_num.f 0).bind fun bt118 => ((lambrequinlaw21_sym.f (⟨#[120]⟩ : ByteArray)).bind fun bt121 => ((facts_Has.f t104 (⟨#[115, 111, 117, 114, 99, 101]⟩ : ByteArray) (([(⟨bt118.1, bt118.2.1, bt118.2.2⟩ : Val), (⟨bt121.1, bt121.2.1, bt121.2.2⟩ : Val)] : List (Val)))).bind fun t127 => (if t127 = true then ((lambrequinlaw21_num.f 1).bind fun bt128 => ((lambrequinlaw21_num.f 0).bind fun bt131 => ((facts_Has.f t104 (⟨#[110, 101, 120, 116]⟩ : ByteArray) (([(⟨bt128.1, bt128.2.1, bt128.2.2⟩ : Val), (⟨bt131.1, bt131.2.1, bt131.2.2⟩ : Val)] : List (Val)))).bind fun t137 => (some (!t137))))) else (some false))))) else (some false)) = some r := H
    have A7 := am A70
    clear A70
    by_cases c8 : t117 = true
    ·subst c8
     have H1 : ((lambrequinlaw21_num.f 0).bind fun bt118 => ((lambrequinlaw21_sym.f (⟨#[120]⟩ : ByteArray)).bind fun bt121 => ((facts_Has.f t104 (⟨#[115, 111, 117, 114, 99, 101]⟩ : ByteArray) (([(⟨bt118.1, bt118.2.1, bt118.2.2⟩ : Val), (⟨bt121.1, bt121.2.1, bt121.2.2⟩ : Val)] : List (Val)))).bind fun t127 => (if t127 = true then ((lambrequinlaw21_num.f 1).bind fun bt128 => ((lambrequinlaw21_num.f 0).bind fun bt131 => ((facts_Has.f t104 (⟨#[110, 101, 120, 116]⟩ : ByteArray) (([(⟨bt128.1, bt128.2.1, bt128.2.2⟩ : Val), (⟨bt131.1, bt131.2.1, bt131.2.2⟩ : Val)] : List (Val)))).bind fun t137 => (some (!t137))))) else (some false))))) = some r := by rw [if_pos rfl] at H; exact H
     clear H
     have H := H1
     clear H1
     replace H := Option.bind_eq_some_iff.mp H
     obtain ⟨⟨t118, t119, t120⟩, A90, H⟩ := H
     replace H : ((lambrequinlaw21_sym.f (⟨#[120]⟩ : ByteArray)).bind fun bt121 => ((facts_Has.f t104 (⟨#[115, 111, 117, 114, 99, 101]⟩ : ByteArray) (([(⟨t118, t119, t120⟩ : Val), (⟨bt121.1, bt121.2.1, bt121.2.2⟩ : Val)] : List (Val)))).bind fun t127 => (if t127 = true then ((lambrequinlaw21_num.f 1).bind fun bt128 => ((lambrequinlaw21_num.f 0).bind fun bt131 => ((facts_Has.f t104 (⟨#[110, 101, 120, 116]⟩ : ByteArray) (([(⟨bt128.1, bt128.2.1, bt128.2.2⟩ : Val), (⟨bt131.1, bt131.2.1, bt131.2.2⟩ : Val)] : List (Val)))).bind fun t137 => (some (!t137))))) else (some false)))) = some r := H
     have A9 := am A90
     clear A90
     replace H := Option.bind_eq_some_iff.mp H
     obtain ⟨⟨t121, t122, t123⟩, A100, H⟩ := H
     replace H : ((facts_Has.f t104 (⟨#[115, 111, 117, 114, 99, 101]⟩ : ByteArray) (([(⟨t118, t119, t120⟩ : Val), (⟨t121, t122, t123⟩ : Val)] : List (Val)))).bind fun t127 => (if t127 = true then ((lambrequinlaw21_num.f 1).bind fun bt128 => ((lambrequinlaw21_num.f 0).bind fun bt131 => ((facts_Has.f t104 (⟨#[110, 101, 120, 116]⟩ : ByteArray) (([(⟨bt128.1, bt128.2.1, bt128.2.2⟩ : Val), (⟨bt131.1, bt131.2.1, bt131.2.2⟩ : Val)] : List (Val)))).bind fun t137 => (some (!t137))))) else (some false))) = some r := H
     have A10 := am A100
     clear A100
     obtain ⟨y124, hy124⟩ : ∃ y_ : List (Val), y_ = (([(⟨t118, t119, t120⟩ : Val), (⟨t121, t122, t123⟩ : Val)] : List (Val))) := ⟨_, rfl⟩
     replace H : ((facts_Has.f t104 (⟨#[115, 111, 117, 114, 99, 101]⟩ : ByteArray) y124).bind fun t127 => (if t127 = true then ((lambrequinlaw21_num.f 1).bind fun bt128 => ((lambrequinlaw21_num.f 0).bind fun bt131 => ((facts_Has.f t104 (⟨#[110, 101, 120, 116]⟩ : ByteArray) (([(⟨bt128.1, bt128.2.1, bt128.2.2⟩ : Val), (⟨bt131.1, bt131.2.1, bt131.2.2⟩ : Val)] : List (Val)))).bind fun t137 => (some (!t137))))) else (some false))) = some r := by first | (rw [hy124]; with_reducible exact H) | (have H2_ := (Option.bind_some _ _).symm.trans H; rw [hy124]; with_reducible exact H2_) | (have H2_ := (Option.bind_some _ _).symm.trans H; with_reducible exact H2_) | with_reducible exact H | (rw [hy124]; exact H) | exact H
     have Ny124 := am hy124
     clear hy124
     replace H := Option.bind_eq_some_iff.mp H
     obtain ⟨t127, A110, H⟩ := H
     replace H : (if t127 = true then ((lambrequinlaw21_num.f 1).bind fun bt128 => ((lambrequinlaw21_num.f 0).bind fun bt131 => ((facts_Has.f t104 (⟨#[110, 101, 120, 116]⟩ : ByteArray) (([(⟨bt128.1, bt128.2.1, bt128.2.2⟩ : Val), (⟨bt131.1, bt131.2.1, bt131.2.2⟩ : Val)] : List (Val)))).bind fun t137 => (some (!t137))))) else (some false)) = some r := H
     have A11 := am A110
     clear A110
     by_cases c12 : t127 = true
     ·subst c12
      have H1 : ((lambrequinlaw21_num.f 1).bind fun bt128 => ((lambrequinlaw21_num.f 0).bind fun bt131 => ((facts_Has.f t104 (⟨#[110, 101, 120, 116]⟩ : ByteArray) (([(⟨bt128.1, bt128.2.1, bt128.2.2⟩ : Val), (⟨bt131.1, bt131.2.1, bt131.2.2⟩ : Val)] : List (Val)))).bind fun t137 => (some (!t137))))) = some r := by rw [if_pos rfl] at H; exact H
      clear H
      have H := H1
      clear H1
      replace H := Option.bind_eq_some_iff.mp H
      obtain ⟨⟨t128, t129, t130⟩, A130, H⟩ := H
      replace H : ((lambrequinlaw21_num.f 0).bind fun bt131 => ((facts_Has.f t104 (⟨#[110, 101, 120, 116]⟩ : ByteArray) (([(⟨t128, t129, t130⟩ : Val), (⟨bt131.1, bt131.2.1, bt131.2.2⟩ : Val)] : List (Val)))).bind fun t137 => (some (!t137)))) = some r := H
      have A13 := am A130
      clear A130
      replace H := Option.bind_eq_some_iff.mp H
      obtain ⟨⟨t131, t132, t133⟩, A140, H⟩ := H
      replace H : ((facts_Has.f t104 (⟨#[110, 101, 120, 116]⟩ : ByteArray) (([(⟨t128, t129, t130⟩ : Val), (⟨t131, t132, t133⟩ : Val)] : List (Val)))).bind fun t137 => (some (!t137))) = some r := H
      have A14 := am A140
      clear A140
      obtain ⟨y134, hy134⟩ : ∃ y_ : List (Val), y_ = (([(⟨t128, t129, t130⟩ : Val), (⟨t131, t132, t133⟩ : Val)] : List (Val))) := ⟨_, rfl⟩
      replace H : ((facts_Has.f t104 (⟨#[110, 101, 120, 116]⟩ : ByteArray) y134).bind fun t137 => (some (!t137))) = some r := by first | (rw [hy134]; with_reducible exact H) | (have H2_ := (Option.bind_some _ _).symm.trans H; rw [hy134]; with_reducible exact H2_) | (have H2_ := (Option.bind_some _ _).symm.trans H; with_reducible exact H2_) | with_reducible exact H | (rw [hy134]; exact H) | exact H
      have Ny134 := am hy134
      clear hy134
      replace H := Option.bind_eq_some_iff.mp H
      obtain ⟨t137, A150, H⟩ := H
      replace H : (some (!t137)) = some r := H
      have A15 := am A150
      clear A150
      obtain rfl := Option.some.inj H
      go_enter Try.func7, Try.ntmps7
      go_wp2_with (first | ((with_reducible refine gate_dst (N := 4) rfl ?_); (try (refine gate_guard (by rfl) ?_; dsimp only)); refine Kd.R_lit k33 _ 33 ?hg (N := 4) ?hd (xs := ([(⟨4, (⟨#[120]⟩ : ByteArray), (⟨#[]⟩ : ByteArray), (⟨#[]⟩ : ByteArray), (⟨#[]⟩ : ByteArray), 0, 0, 0⟩ : Stmt), (⟨9, (⟨#[]⟩ : ByteArray), (⟨#[]⟩ : ByteArray), (⟨#[]⟩ : ByteArray), (⟨#[]⟩ : ByteArray), 0, 0, 0⟩ : Stmt)] : List (Stmt))) (inner := [.int .i64 4, .string (⟨#[120]⟩ : ByteArray), .string (⟨#[]⟩ : ByteArray), .string (⟨#[]⟩ : ByteArray), .string (⟨#[]⟩ : ByteArray), .int .i64 0, .int .i64 0, .int .i64 0, .int .i64 9, .string (⟨#[]⟩ : ByteArray), .string (⟨#[]⟩ : ByteArray), .string (⟨#[]⟩ : ByteArray), .string (⟨#[]⟩ : ByteArray), .int .i64 0, .int .i64 0, .int .i64 0]) (ok := fun _ => True) (okp := fun _ => True) ?hr ?hp (fun _ hk => hk) trivial (Below.refl _ _) (Nat.le_refl _) (by simp) ?_; (case hd => rfl); (case hg => rfl); (case hr => first | (go_simp; done) | (go_simp; rfl)); (case hp => exact (Reps.c8 (show Kd.M k33 _ _ _ (⟨4, (⟨#[120]⟩ : ByteArray), (⟨#[]⟩ : ByteArray), (⟨#[]⟩ : ByteArray), (⟨#[]⟩ : ByteArray), 0, 0, 0⟩ : Stmt) [.int .i64 4, .string (⟨#[120]⟩ : ByteArray), .string (⟨#[]⟩ : ByteArray), .string (⟨#[]⟩ : ByteArray), .string (⟨#[]⟩ : ByteArray), .int .i64 0, .int .i64 0, .int .i64 0] from (k33_mkM _ _ _ (⟨4, (⟨#[120]⟩ : ByteArray), (⟨#[]⟩ : ByteArray), (⟨#[]⟩ : ByteArray), (⟨#[]⟩ : ByteArray), 0, 0, 0⟩ : Stmt) )) (Reps.c8 (show Kd.M k33 _ _ _ (⟨9, (⟨#[]⟩ : ByteArray), (⟨#[]⟩ : ByteArray), (⟨#[]⟩ : ByteArray), (⟨#[]⟩ : ByteArray), 0, 0, 0⟩ : Stmt) [.int .i64 9, .string (⟨#[]⟩ : ByteArray), .string (⟨#[]⟩ : ByteArray), .string (⟨#[]⟩ : ByteArray), .string (⟨#[]⟩ : ByteArray), .int .i64 0, .int .i64 0, .int .i64 0] from (k33_mkM _ _ _ (⟨9, (⟨#[]⟩ : ByteArray), (⟨#[]⟩ : ByteArray), (⟨#[]⟩ : ByteArray), (⟨#[]⟩ : ByteArray), 0, 0, 0⟩ : Stmt) )) (Reps.none _ _)))); intro v102 w16 ho17 hb hg_ hnew_; clear hg_ hnew_; (first | rw [← Ny101.out] at ho17 | (simp only [Int.reduceToNat] at ho17; rw [← Ny101.out] at ho17)); have HO103 := am (Kd.R_lower ho17 (below_size (pL HB.out))); replace HB := am (bs_ HB.out hb); clear hb ho17; obtain ⟨Ao18, co18, eo18⟩ := Kd.R_slice HO103.out; subst eo18) | ((with_reducible refine gate_callee (f := 8) rfl ?_); refine goesL_ (some 5) rfl rfl Try.func8 (by kernel_rfl) rfl #[.slice Ao18 y101.length co18] rfl (by (try simp only [List.map_toArray, List.map_cons, List.map_nil]); first | done | rfl | (simp only [List.length_drop, List.length_take]; rfl)) ?_; (with_reducible refine (facts_Of.calls k _ _ y101 t104 _ ?side1 ?side2 A1.out).mono ?_); (case side1 => repeat (first | exact (Kd.R_reads' HO103.out).2.2 | (with_reducible refine Kd.C_alloc ?_ _) | (with_reducible refine Kd.C_drewN ?_ _) | (with_reducible refine Kd.C_drew ?_))); (case side2 => exact (Kd.R_reads' HO103.out).2.1); rintro e w19 ⟨v105, rfl, ho0, hb⟩; refine ⟨_, rfl, ?_⟩; have HO106 := am (Kd.N_lower (Kd.N_mono (ok' := fun k_ => some k_ ≠ (.slice Ao18 y101.length co18 : Value).ownBlock) ho0 (fun k_ hk_ => (Kd.fresh' (Kd.R_lt (pR HO103.out)) k_ hk_))) (below_size (pL HB.out))); replace HO103 := am (Rb_ HO103.out hb); replace HB := am (bs_ HB.out hb); (try clear hb); (try clear hb2); (try clear hk); (try clear hi); (try clear ho0); obtain ⟨Ao20, co20, eo20⟩ := Kd.N_slice HO106.out; subst eo20; have p107 : 0 ≤ (0 : Int) := (by omega); have q107 : 0 < (t104.length : Int) := dt_; obtain ⟨ad107, A107_1, c107_1, e107, hx107_0, hx107_1, hl107_1, hi107_1⟩ := at_T44 (Kd.N_reads' HO106.out).2.2 0 p107 q107; cases e107; obtain ⟨ce107, hce107, hMe107, hcc107⟩ := Kd.N_get HO106.out z44 0 p107 (by first | exact q107 | exact dt_ | (have e_ := (Kd.N_reads' HO106.out).1; omega)); obtain ⟨ua107_1, uc107_1, rfl, ul107_1, ge107_1⟩ := k44_openF hMe107; have hv107_1 := hcc107 1 _ rfl; rw [add_field _ _ 1 (by omega)] at hv107_1; replace hv107_1 := Option.some.inj (hv107_1.symm.trans hx107_1); injection hv107_1 with hva_ hvn_ hvc_; rw [hva_] at ge107_1; rw [hvc_] at ul107_1; have HL107_1 := am (show Kd.V k28 28 _ w.heap.size _ _ ((rd_T44 t104 0).args) from Kd.V_mk ul107_1 ge107_1); clear hva_ hvn_ hvc_ ge107_1 ul107_1; clear hcc107 hce107; have qi107 : (0 < t104.length) = True := eq_true (by omega); (try rw [show ((0 : Int)).toNat = 0 from rfl] at hx107_0); (try rw [show 0 * 2 = 0 from rfl] at hx107_0); (try rw [Addr.add_zero'] at hx107_0); (try rw [show ((0 : Int)).toNat = 0 from rfl] at hx107_1); (try rw [show 0 * 2 = 0 from rfl] at hx107_1); (try rw [Addr.add_zero'] at hx107_1); have HR107_1 := am hi107_1; have HC107_1 := am hl107_1; clear hi107_1 hl107_1; replace p107 := eq_true p107; replace q107 := eq_true q107) | (go_at_call 10; (with_reducible refine (lambrequinlaw21_num.calls 0 t108 t109 t110 _ A5.out).mono ?_); rintro e w21 ⟨rfl, hb⟩; (try clear A5); replace HO103 := am (Rb_ HO103.out hb); replace HO106 := am (Kd.N_below (by (with_reducible repeat (first | apply Kd.N_alloc | apply Kd.N_drewN | apply Kd.N_drew)); exact HO106.out) hb); replace HL107_1 := am (Kd.V_below (pV HL107_1.out) hb); replace HR107_1 := am (Kd.C_below (by repeat (first | (with_reducible exact HR107_1.out) | (with_reducible refine Kd.C_alloc ?_ _) | (with_reducible refine Kd.C_drewN ?_ _) | (with_reducible refine Kd.C_drew ?_) | exact HR107_1.out)) hb); replace HB := am (bs_ HB.out hb); (try clear hb); (try clear hb2); (try clear hk); (try clear hi)) | (go_at_call 10; (with_reducible refine (lambrequinlaw21_num.calls 1 t111 t112 t113 _ A6.out).mono ?_); rintro e w22 ⟨rfl, hb⟩; (try clear A6); replace HO103 := am (Rb_ HO103.out hb); replace HO106 := am (Kd.N_below (by (with_reducible repeat (first | apply Kd.N_alloc | apply Kd.N_drewN | apply Kd.N_drew)); exact HO106.out) hb); replace HL107_1 := am (Kd.V_below (pV HL107_1.out) hb); replace HR107_1 := am (Kd.C_below (by repeat (first | (with_reducible exact HR107_1.out) | (with_reducible refine Kd.C_alloc ?_ _) | (with_reducible refine Kd.C_drewN ?_ _) | (with_reducible refine Kd.C_drew ?_) | exact HR107_1.out)) hb); replace HB := am (bs_ HB.out hb); (try clear hb); (try clear hb2); (try clear hk); (try clear hi)) | ((with_reducible refine gate_dst (N := 20) rfl ?_); (try (refine gate_guard (by rfl) ?_; dsimp only)); refine Kd.R_lit k28 _ 28 ?hg (N := 20) ?hd (xs := ([(⟨t108, t109, t110⟩ : Val), (⟨t111, t112, t113⟩ : Val)] : List (Val))) (inner := [.bool t108, .string t109, .int .i64 t110, .bool t111, .string t112, .int .i64 t113]) (ok := fun _ => True) (okp := fun _ => True) ?hr ?hp (fun _ hk => hk) trivial (Below.refl _ _) (Nat.le_refl _) (by simp) ?_; (case hd => rfl); (case hg => rfl); (case hr => first | (go_simp; done) | (go_simp; rfl)); (case hp => exact (Reps.c3 (show Kd.M k28 _ _ _ (⟨t108, t109, t110⟩ : Val) [.bool t108, .string t109, .int .i64 t110] from (k28_mkM _ _ _ (⟨t108, t109, t110⟩ : Val) )) (Reps.c3 (show Kd.M k28 _ _ _ (⟨t111, t112, t113⟩ : Val) [.bool t111, .string t112, .int .i64 t113] from (k28_mkM _ _ _ (⟨t111, t112, t113⟩ : Val) )) (Reps.none _ _)))); intro v115 w23 ho24 hb hg_ hnew_; clear hg_ hnew_; (first | rw [← Ny114.out] at ho24 | (simp only [Int.reduceToNat] at ho24; rw [← Ny114.out] at ho24)); replace HO103 := am (Rb_ HO103.out hb); replace HO106 := am (Kd.N_elder' (by (with_reducible repeat (first | apply Kd.N_alloc | apply Kd.N_drewN | apply Kd.N_drew)); exact HO106.out) (Kd.R_base ho24) hb); replace HL107_1 := am (Kd.V_elder' (pV HL107_1.out) (Kd.R_base ho24) hb); have HO116 := am (Kd.R_lower ho24 (below_size (pL HB.out))); replace HR107_1 := am (Kd.C_below (by repeat (first | (with_reducible exact HR107_1.out) | (with_reducible refine Kd.C_alloc ?_ _) | (with_reducible refine Kd.C_drewN ?_ _) | (with_reducible refine Kd.C_drew ?_) | exact HR107_1.out)) hb); replace HB := am (bs_ HB.out hb); clear hb ho24; obtain ⟨Ao25, co25, eo25⟩ := Kd.R_slice HO116.out; subst eo25) | (go_at_call 9; (with_reducible refine (facts_Has.calls _ _ t104 (⟨#[110, 101, 120, 116]⟩ : ByteArray) _ _ y114 true _ ?side1 ?side2 ?side3 ?side4 A7.out).mono ?_); (case side1 => repeat (first | exact (Kd.N_reads' HO106.out).2.2 | (with_reducible refine Kd.C_alloc ?_ _) | (with_reducible refine Kd.C_drewN ?_ _) | (with_reducible refine Kd.C_drew ?_))); (case side2 => exact (Kd.N_reads' HO106.out).2.1); (case side3 => repeat (first | exact (Kd.R_reads' HO116.out).2.2 | (with_reducible refine Kd.C_alloc ?_ _) | (with_reducible refine Kd.C_drewN ?_ _) | (with_reducible refine Kd.C_drew ?_))); (case side4 => exact (Kd.R_reads' HO116.out).2.1); rintro e w26 ⟨rfl, hb⟩; (try clear A7); replace HO103 := am (Rb_ HO103.out hb); replace HO106 := am (Kd.N_below (by (with_reducible repeat (first | apply Kd.N_alloc | apply Kd.N_drewN | apply Kd.N_drew)); exact HO106.out) hb); replace HL107_1 := am (Kd.V_below (pV HL107_1.out) hb); replace HO116 := am (Rb_ HO116.out hb); replace HR107_1 := am (Kd.C_below (by repeat (first | (with_reducible exact HR107_1.out) | (with_reducible refine Kd.C_alloc ?_ _) | (with_reducible refine Kd.C_drewN ?_ _) | (with_reducible refine Kd.C_drew ?_) | exact HR107_1.out)) hb); replace HB := am (bs_ HB.out hb); (try clear hb); (try clear hb2); (try clear hk); (try clear hi)) | (go_at_call 10; (with_reducible refine (lambrequinlaw21_num.calls 0 t118 t119 t120 _ A9.out).mono ?_); rintro e w27 ⟨rfl, hb⟩; (try clear A9); replace HO103 := am (Rb_ HO103.out hb); replace HO106 := am (Kd.N_below (by (with_reducible repeat (first | apply Kd.N_alloc | apply Kd.N_drewN | apply Kd.N_drew)); exact HO106.out) hb); replace HL107_1 := am (Kd.V_below (pV HL107_1.out) hb); replace HO116 := am (Rb_ HO116.out hb); replace HR107_1 := am (Kd.C_below (by repeat (first | (with_reducible exact HR107_1.out) | (with_reducible refine Kd.C_alloc ?_ _) | (with_reducible refine Kd.C_drewN ?_ _) | (with_reducible refine Kd.C_drew ?_) | exact HR107_1.out)) hb); replace HB := am (bs_ HB.out hb); (try clear hb); (try clear hb2); (try clear hk); (try clear hi)) | (go_at_call 15; (with_reducible refine (lambrequinlaw21_sym.calls (⟨#[120]⟩ : ByteArray) t121 t122 t123 _ A10.out).mono ?_); rintro e w28 ⟨rfl, hb⟩; (try clear A10); replace HO103 := am (Rb_ HO103.out hb); replace HO106 := am (Kd.N_below (by (with_reducible repeat (first | apply Kd.N_alloc | apply Kd.N_drewN | apply Kd.N_drew)); exact HO106.out) hb); replace HL107_1 := am (Kd.V_below (pV HL107_1.out) hb); replace HO116 := am (Rb_ HO116.out hb); replace HR107_1 := am (Kd.C_below (by repeat (first | (with_reducible exact HR107_1.out) | (with_reducible refine Kd.C_alloc ?_ _) | (with_reducible refine Kd.C_drewN ?_ _) | (with_reducible refine Kd.C_drew ?_) | exact HR107_1.out)) hb); replace HB := am (bs_ HB.out hb); (try clear hb); (try clear hb2); (try clear hk); (try clear hi)) | ((with_reducible refine gate_dst (N := 27) rfl ?_); (try (refine gate_guard (by rfl) ?_; dsimp only)); refine Kd.R_lit k28 _ 28 ?hg (N := 27) ?hd (xs := ([(⟨t118, t119, t120⟩ : Val), (⟨t121, t122, t123⟩ : Val)] : List (Val))) (inner := [.bool t118, .string t119, .int .i64 t120, .bool t121, .string t122, .int .i64 t123]) (ok := fun _ => True) (okp := fun _ => True) ?hr ?hp (fun _ hk => hk) trivial (Below.refl _ _) (Nat.le_refl _) (by simp) ?_; (case hd => rfl); (case hg => rfl); (case hr => first | (go_simp; done) | (go_simp; rfl)); (case hp => exact (Reps.c3 (show Kd.M k28 _ _ _ (⟨t118, t119, t120⟩ : Val) [.bool t118, .string t119, .int .i64 t120] from (k28_mkM _ _ _ (⟨t118, t119, t120⟩ : Val) )) (Reps.c3 (show Kd.M k28 _ _ _ (⟨t121, t122, t123⟩ : Val) [.bool t121, .string t122, .int .i64 t123] from (k28_mkM _ _ _ (⟨t121, t122, t123⟩ : Val) )) (Reps.none _ _)))); intro v125 w29 ho30 hb hg_ hnew_; clear hg_ hnew_; (first | rw [← Ny124.out] at ho30 | (simp only [Int.reduceToNat] at ho30; rw [← Ny124.out] at ho30)); replace HO103 := am (Rb_ HO103.out hb); replace HO106 := am (Kd.N_elder' (by (with_reducible repeat (first | apply Kd.N_alloc | apply Kd.N_drewN | apply Kd.N_drew)); exact HO106.out) (Kd.R_base ho30) hb); replace HL107_1 := am (Kd.V_elder' (pV HL107_1.out) (Kd.R_base ho30) hb); have HO126 := am (Kd.R_lower (Kd.R_new' ho30 (Kd.R_lt (pR HO116.out))) (below_size (pL HB.out))); replace HO116 := am (Kd.R_elder' (pR HO116.out) (Kd.R_base ho30) hb); replace HR107_1 := am (Kd.C_below (by repeat (first | (with_reducible exact HR107_1.out) | (with_reducible refine Kd.C_alloc ?_ _) | (with_reducible refine Kd.C_drewN ?_ _) | (with_reducible refine Kd.C_drew ?_) | exact HR107_1.out)) hb); replace HB := am (bs_ HB.out hb); clear hb ho30; obtain ⟨Ao31, co31, eo31⟩ := Kd.R_slice HO126.out; subst eo31) | (go_at_call 9; (with_reducible refine (facts_Has.calls _ _ t104 (⟨#[115, 111, 117, 114, 99, 101]⟩ : ByteArray) _ _ y124 true _ ?side1 ?side2 ?side3 ?side4 A11.out).mono ?_); (case side1 => repeat (first | exact (Kd.N_reads' HO106.out).2.2 | (with_reducible refine Kd.C_alloc ?_ _) | (with_reducible refine Kd.C_drewN ?_ _) | (with_reducible refine Kd.C_drew ?_))); (case side2 => exact (Kd.N_reads' HO106.out).2.1); (case side3 => repeat (first | exact (Kd.R_reads' HO126.out).2.2 | (with_reducible refine Kd.C_alloc ?_ _) | (with_reducible refine Kd.C_drewN ?_ _) | (with_reducible refine Kd.C_drew ?_))); (case side4 => exact (Kd.R_reads' HO126.out).2.1); rintro e w32 ⟨rfl, hb⟩; (try clear A11); replace HO103 := am (Rb_ HO103.out hb); replace HO106 := am (Kd.N_below (by (with_reducible repeat (first | apply Kd.N_alloc | apply Kd.N_drewN | apply Kd.N_drew)); exact HO106.out) hb); replace HL107_1 := am (Kd.V_below (pV HL107_1.out) hb); replace HO116 := am (Rb_ HO116.out hb); replace HO126 := am (Rb_ HO126.out hb); replace HR107_1 := am (Kd.C_below (by repeat (first | (with_reducible exact HR107_1.out) | (with_reducible refine Kd.C_alloc ?_ _) | (with_reducible refine Kd.C_drewN ?_ _) | (with_reducible refine Kd.C_drew ?_) | exact HR107_1.out)) hb); replace HB := am (bs_ HB.out hb); (try clear hb); (try clear hb2); (try clear hk); (try clear hi)) | (go_at_call 10; (with_reducible refine (lambrequinlaw21_num.calls 1 t128 t129 t130 _ A13.out).mono ?_); rintro e w33 ⟨rfl, hb⟩; (try clear A13); replace HO103 := am (Rb_ HO103.out hb); replace HO106 := am (Kd.N_below (by (with_reducible repeat (first | apply Kd.N_alloc | apply Kd.N_drewN | apply Kd.N_drew)); exact HO106.out) hb); replace HL107_1 := am (Kd.V_below (pV HL107_1.out) hb); replace HO116 := am (Rb_ HO116.out hb); replace HO126 := am (Rb_ HO126.out hb); replace HR107_1 := am (Kd.C_below (by repeat (first | (with_reducible exact HR107_1.out) | (with_reducible refine Kd.C_alloc ?_ _) | (with_reducible refine Kd.C_drewN ?_ _) | (with_reducible refine Kd.C_drew ?_) | exact HR107_1.out)) hb); replace HB := am (bs_ HB.out hb); (try clear hb); (try clear hb2); (try clear hk); (try clear hi)) | (go_at_call 10; (with_reducible refine (lambrequinlaw21_num.calls 0 t131 t132 t133 _ A14.out).mono ?_); rintro e w34 ⟨rfl, hb⟩; (try clear A14); replace HO103 := am (Rb_ HO103.out hb); replace HO106 := am (Kd.N_below (by (with_reducible repeat (first | apply Kd.N_alloc | apply Kd.N_drewN | apply Kd.N_drew)); exact HO106.out) hb); replace HL107_1 := am (Kd.V_below (pV HL107_1.out) hb); replace HO116 := am (Rb_ HO116.out hb); replace HO126 := am (Rb_ HO126.out hb); replace HR107_1 := am (Kd.C_below (by repeat (first | (with_reducible exact HR107_1.out) | (with_reducible refine Kd.C_alloc ?_ _) | (with_reducible refine Kd.C_drewN ?_ _) | (with_reducible refine Kd.C_drew ?_) | exact HR107_1.out)) hb); replace HB := am (bs_ HB.out hb); (try clear hb); (try clear hb2); (try clear hk); (try clear hi)) | ((with_reducible refine gate_dst (N := 34) rfl ?_); (try (refine gate_guard (by rfl) ?_; dsimp only)); refine Kd.R_lit k28 _ 28 ?hg (N := 34) ?hd (xs := ([(⟨t128, t129, t130⟩ : Val), (⟨t131, t132, t133⟩ : Val)] : List (Val))) (inner := [.bool t128, .string t129, .int .i64 t130, .bool t131, .string t132, .int .i64 t133]) (ok := fun _ => True) (okp := fun _ => True) ?hr ?hp (fun _ hk => hk) trivial (Below.refl _ _) (Nat.le_refl _) (by simp) ?_; (case hd => rfl); (case hg => rfl); (case hr => first | (go_simp; done) | (go_simp; rfl)); (case hp => exact (Reps.c3 (show Kd.M k28 _ _ _ (⟨t128, t129, t130⟩ : Val) [.bool t128, .string t129, .int .i64 t130] from (k28_mkM _ _ _ (⟨t128, t129, t130⟩ : Val) )) (Reps.c3 (show Kd.M k28 _ _ _ (⟨t131, t132, t133⟩ : Val) [.bool t131, .string t132, .int .i64 t133] from (k28_mkM _ _ _ (⟨t131, t132, t133⟩ : Val) )) (Reps.none _ _)))); intro v135 w35 ho36 hb hg_ hnew_; clear hg_ hnew_; (first | rw [← Ny134.out] at ho36 | (simp only [Int.reduceToNat] at ho36; rw [← Ny134.out] at ho36)); replace HO103 := am (Rb_ HO103.out hb); replace HO106 := am (Kd.N_elder' (by (with_reducible repeat (first | apply Kd.N_alloc | apply Kd.N_drewN | apply Kd.N_drew)); exact HO106.out) (Kd.R_base ho36) hb); replace HL107_1 := am (Kd.V_elder' (pV HL107_1.out) (Kd.R_base ho36) hb); have HO136 := am (Kd.R_lower (Kd.R_new' (Kd.R_new' ho36 (Kd.R_lt (pR HO116.out))) (Kd.R_lt (pR HO126.out))) (below_size (pL HB.out))); replace HO116 := am (Kd.R_elder' (pR HO116.out) (Kd.R_base ho36) hb); replace HO126 := am (Kd.R_elder' (pR HO126.out) (Kd.R_base ho36) hb); replace HR107_1 := am (Kd.C_below (by repeat (first | (with_reducible exact HR107_1.out) | (with_reducible refine Kd.C_alloc ?_ _) | (with_reducible refine Kd.C_drewN ?_ _) | (with_reducible refine Kd.C_drew ?_) | exact HR107_1.out)) hb); replace HB := am (bs_ HB.out hb); clear hb ho36; obtain ⟨Ao37, co37, eo37⟩ := Kd.R_slice HO136.out; subst eo37) | (go_at_call 9; (with_reducible refine (facts_Has.calls _ _ t104 (⟨#[110, 101, 120, 116]⟩ : ByteArray) _ _ y134 t137 _ ?side1 ?side2 ?side3 ?side4 A15.out).mono ?_); (case side1 => repeat (first | exact (Kd.N_reads' HO106.out).2.2 | (with_reducible refine Kd.C_alloc ?_ _) | (with_reducible refine Kd.C_drewN ?_ _) | (with_reducible refine Kd.C_drew ?_))); (case side2 => exact (Kd.N_reads' HO106.out).2.1); (case side3 => repeat (first | exact (Kd.R_reads' HO136.out).2.2 | (with_reducible refine Kd.C_alloc ?_ _) | (with_reducible refine Kd.C_drewN ?_ _) | (with_reducible refine Kd.C_drew ?_))); (case side4 => exact (Kd.R_reads' HO136.out).2.1); rintro e w38 ⟨rfl, hb⟩; (try clear A15); replace HO103 := am (Rb_ HO103.out hb); replace HO106 := am (Kd.N_below (by (with_reducible repeat (first | apply Kd.N_alloc | apply Kd.N_drewN | apply Kd.N_drew)); exact HO106.out) hb); replace HL107_1 := am (Kd.V_below (pV HL107_1.out) hb); replace HO116 := am (Rb_ HO116.out hb); replace HO126 := am (Rb_ HO126.out hb); replace HO136 := am (Rb_ HO136.out hb); replace HR107_1 := am (Kd.C_below (by repeat (first | (with_reducible exact HR107_1.out) | (with_reducible refine Kd.C_alloc ?_ _) | (with_reducible refine Kd.C_drewN ?_ _) | (with_reducible refine Kd.C_drew ?_) | exact HR107_1.out)) hb); replace HB := am (bs_ HB.out hb); (try clear hb); (try clear hb2); (try clear hk); (try clear hi)))
      go_ret
      exact ⟨by first | rfl | (simp [errW_none, errW_some] <;> rfl) | (simp [*, errW_none, errW_some] <;> rfl), pL HB.out⟩
     ·replace c12 := Bool.eq_false_iff.mpr c12
      subst c12
      have H1 : (some false) = some r := by rw [if_neg (show ¬ (false = true) by decide)] at H; exact H
      clear H
      have H := H1
      clear H1
      obtain rfl := Option.some.inj H
      go_enter Try.func7, Try.ntmps7
      go_wp2_with (first | ((with_reducible refine gate_dst (N := 4) rfl ?_); (try (refine gate_guard (by rfl) ?_; dsimp only)); refine Kd.R_lit k33 _ 33 ?hg (N := 4) ?hd (xs := ([(⟨4, (⟨#[120]⟩ : ByteArray), (⟨#[]⟩ : ByteArray), (⟨#[]⟩ : ByteArray), (⟨#[]⟩ : ByteArray), 0, 0, 0⟩ : Stmt), (⟨9, (⟨#[]⟩ : ByteArray), (⟨#[]⟩ : ByteArray), (⟨#[]⟩ : ByteArray), (⟨#[]⟩ : ByteArray), 0, 0, 0⟩ : Stmt)] : List (Stmt))) (inner := [.int .i64 4, .string (⟨#[120]⟩ : ByteArray), .string (⟨#[]⟩ : ByteArray), .string (⟨#[]⟩ : ByteArray), .string (⟨#[]⟩ : ByteArray), .int .i64 0, .int .i64 0, .int .i64 0, .int .i64 9, .string (⟨#[]⟩ : ByteArray), .string (⟨#[]⟩ : ByteArray), .string (⟨#[]⟩ : ByteArray), .string (⟨#[]⟩ : ByteArray), .int .i64 0, .int .i64 0, .int .i64 0]) (ok := fun _ => True) (okp := fun _ => True) ?hr ?hp (fun _ hk => hk) trivial (Below.refl _ _) (Nat.le_refl _) (by simp) ?_; (case hd => rfl); (case hg => rfl); (case hr => first | (go_simp; done) | (go_simp; rfl)); (case hp => exact (Reps.c8 (show Kd.M k33 _ _ _ (⟨4, (⟨#[120]⟩ : ByteArray), (⟨#[]⟩ : ByteArray), (⟨#[]⟩ : ByteArray), (⟨#[]⟩ : ByteArray), 0, 0, 0⟩ : Stmt) [.int .i64 4, .string (⟨#[120]⟩ : ByteArray), .string (⟨#[]⟩ : ByteArray), .string (⟨#[]⟩ : ByteArray), .string (⟨#[]⟩ : ByteArray), .int .i64 0, .int .i64 0, .int .i64 0] from (k33_mkM _ _ _ (⟨4, (⟨#[120]⟩ : ByteArray), (⟨#[]⟩ : ByteArray), (⟨#[]⟩ : ByteArray), (⟨#[]⟩ : ByteArray), 0, 0, 0⟩ : Stmt) )) (Reps.c8 (show Kd.M k33 _ _ _ (⟨9, (⟨#[]⟩ : ByteArray), (⟨#[]⟩ : ByteArray), (⟨#[]⟩ : ByteArray), (⟨#[]⟩ : ByteArray), 0, 0, 0⟩ : Stmt) [.int .i64 9, .string (⟨#[]⟩ : ByteArray), .string (⟨#[]⟩ : ByteArray), .string (⟨#[]⟩ : ByteArray), .string (⟨#[]⟩ : ByteArray), .int .i64 0, .int .i64 0, .int .i64 0] from (k33_mkM _ _ _ (⟨9, (⟨#[]⟩ : ByteArray), (⟨#[]⟩ : ByteArray), (⟨#[]⟩ : ByteArray), (⟨#[]⟩ : ByteArray), 0, 0, 0⟩ : Stmt) )) (Reps.none _ _)))); intro v102 w39 ho40 hb hg_ hnew_; clear hg_ hnew_; (first | rw [← Ny101.out] at ho40 | (simp only [Int.reduceToNat] at ho40; rw [← Ny101.out] at ho40)); have HO103 := am (Kd.R_lower ho40 (below_size (pL HB.out))); replace HB := am (bs_ HB.out hb); clear hb ho40; obtain ⟨Ao41, co41, eo41⟩ := Kd.R_slice HO103.out; subst eo41) | ((with_reducible refine gate_callee (f := 8) rfl ?_); refine goesL_ (some 5) rfl rfl Try.func8 (by kernel_rfl) rfl #[.slice Ao41 y101.length co41] rfl (by (try simp only [List.map_toArray, List.map_cons, List.map_nil]); first | done | rfl | (simp only [List.length_drop, List.length_take]; rfl)) ?_; (with_reducible refine (facts_Of.calls k _ _ y101 t104 _ ?side1 ?side2 A1.out).mono ?_); (case side1 => repeat (first | exact (Kd.R_reads' HO103.out).2.2 | (with_reducible refine Kd.C_alloc ?_ _) | (with_reducible refine Kd.C_drewN ?_ _) | (with_reducible refine Kd.C_drew ?_))); (case side2 => exact (Kd.R_reads' HO103.out).2.1); rintro e w42 ⟨v105, rfl, ho0, hb⟩; refine ⟨_, rfl, ?_⟩; have HO106 := am (Kd.N_lower (Kd.N_mono (ok' := fun k_ => some k_ ≠ (.slice Ao41 y101.length co41 : Value).ownBlock) ho0 (fun k_ hk_ => (Kd.fresh' (Kd.R_lt (pR HO103.out)) k_ hk_))) (below_size (pL HB.out))); replace HO103 := am (Rb_ HO103.out hb); replace HB := am (bs_ HB.out hb); (try clear hb); (try clear hb2); (try clear hk); (try clear hi); (try clear ho0); obtain ⟨Ao43, co43, eo43⟩ := Kd.N_slice HO106.out; subst eo43; have p107 : 0 ≤ (0 : Int) := (by omega); have q107 : 0 < (t104.length : Int) := dt_; obtain ⟨ad107, A107_1, c107_1, e107, hx107_0, hx107_1, hl107_1, hi107_1⟩ := at_T44 (Kd.N_reads' HO106.out).2.2 0 p107 q107; cases e107; obtain ⟨ce107, hce107, hMe107, hcc107⟩ := Kd.N_get HO106.out z44 0 p107 (by first | exact q107 | exact dt_ | (have e_ := (Kd.N_reads' HO106.out).1; omega)); obtain ⟨ua107_1, uc107_1, rfl, ul107_1, ge107_1⟩ := k44_openF hMe107; have hv107_1 := hcc107 1 _ rfl; rw [add_field _ _ 1 (by omega)] at hv107_1; replace hv107_1 := Option.some.inj (hv107_1.symm.trans hx107_1); injection hv107_1 with hva_ hvn_ hvc_; rw [hva_] at ge107_1; rw [hvc_] at ul107_1; have HL107_1 := am (show Kd.V k28 28 _ w.heap.size _ _ ((rd_T44 t104 0).args) from Kd.V_mk ul107_1 ge107_1); clear hva_ hvn_ hvc_ ge107_1 ul107_1; clear hcc107 hce107; have qi107 : (0 < t104.length) = True := eq_true (by omega); (try rw [show ((0 : Int)).toNat = 0 from rfl] at hx107_0); (try rw [show 0 * 2 = 0 from rfl] at hx107_0); (try rw [Addr.add_zero'] at hx107_0); (try rw [show ((0 : Int)).toNat = 0 from rfl] at hx107_1); (try rw [show 0 * 2 = 0 from rfl] at hx107_1); (try rw [Addr.add_zero'] at hx107_1); have HR107_1 := am hi107_1; have HC107_1 := am hl107_1; clear hi107_1 hl107_1; replace p107 := eq_true p107; replace q107 := eq_true q107) | (go_at_call 10; (with_reducible refine (lambrequinlaw21_num.calls 0 t108 t109 t110 _ A5.out).mono ?_); rintro e w44 ⟨rfl, hb⟩; (try clear A5); replace HO103 := am (Rb_ HO103.out hb); replace HO106 := am (Kd.N_below (by (with_reducible repeat (first | apply Kd.N_alloc | apply Kd.N_drewN | apply Kd.N_drew)); exact HO106.out) hb); replace HL107_1 := am (Kd.V_below (pV HL107_1.out) hb); replace HR107_1 := am (Kd.C_below (by repeat (first | (with_reducible exact HR107_1.out) | (with_reducible refine Kd.C_alloc ?_ _) | (with_reducible refine Kd.C_drewN ?_ _) | (with_reducible refine Kd.C_drew ?_) | exact HR107_1.out)) hb); replace HB := am (bs_ HB.out hb); (try clear hb); (try clear hb2); (try clear hk); (try clear hi)) | (go_at_call 10; (with_reducible refine (lambrequinlaw21_num.calls 1 t111 t112 t113 _ A6.out).mono ?_); rintro e w45 ⟨rfl, hb⟩; (try clear A6); replace HO103 := am (Rb_ HO103.out hb); replace HO106 := am (Kd.N_below (by (with_reducible repeat (first | apply Kd.N_alloc | apply Kd.N_drewN | apply Kd.N_drew)); exact HO106.out) hb); replace HL107_1 := am (Kd.V_below (pV HL107_1.out) hb); replace HR107_1 := am (Kd.C_below (by repeat (first | (with_reducible exact HR107_1.out) | (with_reducible refine Kd.C_alloc ?_ _) | (with_reducible refine Kd.C_drewN ?_ _) | (with_reducible refine Kd.C_drew ?_) | exact HR107_1.out)) hb); replace HB := am (bs_ HB.out hb); (try clear hb); (try clear hb2); (try clear hk); (try clear hi)) | ((with_reducible refine gate_dst (N := 20) rfl ?_); (try (refine gate_guard (by rfl) ?_; dsimp only)); refine Kd.R_lit k28 _ 28 ?hg (N := 20) ?hd (xs := ([(⟨t108, t109, t110⟩ : Val), (⟨t111, t112, t113⟩ : Val)] : List (Val))) (inner := [.bool t108, .string t109, .int .i64 t110, .bool t111, .string t112, .int .i64 t113]) (ok := fun _ => True) (okp := fun _ => True) ?hr ?hp (fun _ hk => hk) trivial (Below.refl _ _) (Nat.le_refl _) (by simp) ?_; (case hd => rfl); (case hg => rfl); (case hr => first | (go_simp; done) | (go_simp; rfl)); (case hp => exact (Reps.c3 (show Kd.M k28 _ _ _ (⟨t108, t109, t110⟩ : Val) [.bool t108, .string t109, .int .i64 t110] from (k28_mkM _ _ _ (⟨t108, t109, t110⟩ : Val) )) (Reps.c3 (show Kd.M k28 _ _ _ (⟨t111, t112, t113⟩ : Val) [.bool t111, .string t112, .int .i64 t113] from (k28_mkM _ _ _ (⟨t111, t112, t113⟩ : Val) )) (Reps.none _ _)))); intro v115 w46 ho47 hb hg_ hnew_; clear hg_ hnew_; (first | rw [← Ny114.out] at ho47 | (simp only [Int.reduceToNat] at ho47; rw [← Ny114.out] at ho47)); replace HO103 := am (Rb_ HO103.out hb); replace HO106 := am (Kd.N_elder' (by (with_reducible repeat (first | apply Kd.N_alloc | apply Kd.N_drewN | apply Kd.N_drew)); exact HO106.out) (Kd.R_base ho47) hb); replace HL107_1 := am (Kd.V_elder' (pV HL107_1.out) (Kd.R_base ho47) hb); have HO116 := am (Kd.R_lower ho47 (below_size (pL HB.out))); replace HR107_1 := am (Kd.C_below (by repeat (first | (with_reducible exact HR107_1.out) | (with_reducible refine Kd.C_alloc ?_ _) | (with_reducible refine Kd.C_drewN ?_ _) | (with_reducible refine Kd.C_drew ?_) | exact HR107_1.out)) hb); replace HB := am (bs_ HB.out hb); clear hb ho47; obtain ⟨Ao48, co48, eo48⟩ := Kd.R_slice HO116.out; subst eo48) | (go_at_call 9; (with_reducible refine (facts_Has.calls _ _ t104 (⟨#[110, 101, 120, 116]⟩ : ByteArray) _ _ y114 true _ ?side1 ?side2 ?side3 ?side4 A7.out).mono ?_); (case side1 => repeat (first | exact (Kd.N_reads' HO106.out).2.2 | (with_reducible refine Kd.C_alloc ?_ _) | (with_reducible refine Kd.C_drewN ?_ _) | (with_reducible refine Kd.C_drew ?_))); (case side2 => exact (Kd.N_reads' HO106.out).2.1); (case side3 => repeat (first | exact (Kd.R_reads' HO116.out).2.2 | (with_reducible refine Kd.C_alloc ?_ _) | (with_reducible refine Kd.C_drewN ?_ _) | (with_reducible refine Kd.C_drew ?_))); (case side4 => exact (Kd.R_reads' HO116.out).2.1); rintro e w49 ⟨rfl, hb⟩; (try clear A7); replace HO103 := am (Rb_ HO103.out hb); replace HO106 := am (Kd.N_below (by (with_reducible repeat (first | apply Kd.N_alloc | apply Kd.N_drewN | apply Kd.N_drew)); exact HO106.out) hb); replace HL107_1 := am (Kd.V_below (pV HL107_1.out) hb); replace HO116 := am (Rb_ HO116.out hb); replace HR107_1 := am (Kd.C_below (by repeat (first | (with_reducible exact HR107_1.out) | (with_reducible refine Kd.C_alloc ?_ _) | (with_reducible refine Kd.C_drewN ?_ _) | (with_reducible refine Kd.C_drew ?_) | exact HR107_1.out)) hb); replace HB := am (bs_ HB.out hb); (try clear hb); (try clear hb2); (try clear hk); (try clear hi)) | (go_at_call 10; (with_reducible refine (lambrequinlaw21_num.calls 0 t118 t119 t120 _ A9.out).mono ?_); rintro e w50 ⟨rfl, hb⟩; (try clear A9); replace HO103 := am (Rb_ HO103.out hb); replace HO106 := am (Kd.N_below (by (with_reducible repeat (first | apply Kd.N_alloc | apply Kd.N_drewN | apply Kd.N_drew)); exact HO106.out) hb); replace HL107_1 := am (Kd.V_below (pV HL107_1.out) hb); replace HO116 := am (Rb_ HO116.out hb); replace HR107_1 := am (Kd.C_below (by repeat (first | (with_reducible exact HR107_1.out) | (with_reducible refine Kd.C_alloc ?_ _) | (with_reducible refine Kd.C_drewN ?_ _) | (with_reducible refine Kd.C_drew ?_) | exact HR107_1.out)) hb); replace HB := am (bs_ HB.out hb); (try clear hb); (try clear hb2); (try clear hk); (try clear hi)) | (go_at_call 15; (with_reducible refine (lambrequinlaw21_sym.calls (⟨#[120]⟩ : ByteArray) t121 t122 t123 _ A10.out).mono ?_); rintro e w51 ⟨rfl, hb⟩; (try clear A10); replace HO103 := am (Rb_ HO103.out hb); replace HO106 := am (Kd.N_below (by (with_reducible repeat (first | apply Kd.N_alloc | apply Kd.N_drewN | apply Kd.N_drew)); exact HO106.out) hb); replace HL107_1 := am (Kd.V_below (pV HL107_1.out) hb); replace HO116 := am (Rb_ HO116.out hb); replace HR107_1 := am (Kd.C_below (by repeat (first | (with_reducible exact HR107_1.out) | (with_reducible refine Kd.C_alloc ?_ _) | (with_reducible refine Kd.C_drewN ?_ _) | (with_reducible refine Kd.C_drew ?_) | exact HR107_1.out)) hb); replace HB := am (bs_ HB.out hb); (try clear hb); (try clear hb2); (try clear hk); (try clear hi)) | ((with_reducible refine gate_dst (N := 27) rfl ?_); (try (refine gate_guard (by rfl) ?_; dsimp only)); refine Kd.R_lit k28 _ 28 ?hg (N := 27) ?hd (xs := ([(⟨t118, t119, t120⟩ : Val), (⟨t121, t122, t123⟩ : Val)] : List (Val))) (inner := [.bool t118, .string t119, .int .i64 t120, .bool t121, .string t122, .int .i64 t123]) (ok := fun _ => True) (okp := fun _ => True) ?hr ?hp (fun _ hk => hk) trivial (Below.refl _ _) (Nat.le_refl _) (by simp) ?_; (case hd => rfl); (case hg => rfl); (case hr => first | (go_simp; done) | (go_simp; rfl)); (case hp => exact (Reps.c3 (show Kd.M k28 _ _ _ (⟨t118, t119, t120⟩ : Val) [.bool t118, .string t119, .int .i64 t120] from (k28_mkM _ _ _ (⟨t118, t119, t120⟩ : Val) )) (Reps.c3 (show Kd.M k28 _ _ _ (⟨t121, t122, t123⟩ : Val) [.bool t121, .string t122, .int .i64 t123] from (k28_mkM _ _ _ (⟨t121, t122, t123⟩ : Val) )) (Reps.none _ _)))); intro v125 w52 ho53 hb hg_ hnew_; clear hg_ hnew_; (first | rw [← Ny124.out] at ho53 | (simp only [Int.reduceToNat] at ho53; rw [← Ny124.out] at ho53)); replace HO103 := am (Rb_ HO103.out hb); replace HO106 := am (Kd.N_elder' (by (with_reducible repeat (first | apply Kd.N_alloc | apply Kd.N_drewN | apply Kd.N_drew)); exact HO106.out) (Kd.R_base ho53) hb); replace HL107_1 := am (Kd.V_elder' (pV HL107_1.out) (Kd.R_base ho53) hb); have HO126 := am (Kd.R_lower (Kd.R_new' ho53 (Kd.R_lt (pR HO116.out))) (below_size (pL HB.out))); replace HO116 := am (Kd.R_elder' (pR HO116.out) (Kd.R_base ho53) hb); replace HR107_1 := am (Kd.C_below (by repeat (first | (with_reducible exact HR107_1.out) | (with_reducible refine Kd.C_alloc ?_ _) | (with_reducible refine Kd.C_drewN ?_ _) | (with_reducible refine Kd.C_drew ?_) | exact HR107_1.out)) hb); replace HB := am (bs_ HB.out hb); clear hb ho53; obtain ⟨Ao54, co54, eo54⟩ := Kd.R_slice HO126.out; subst eo54) | (go_at_call 9; (with_reducible refine (facts_Has.calls _ _ t104 (⟨#[115, 111, 117, 114, 99, 101]⟩ : ByteArray) _ _ y124 false _ ?side1 ?side2 ?side3 ?side4 A11.out).mono ?_); (case side1 => repeat (first | exact (Kd.N_reads' HO106.out).2.2 | (with_reducible refine Kd.C_alloc ?_ _) | (with_reducible refine Kd.C_drewN ?_ _) | (with_reducible refine Kd.C_drew ?_))); (case side2 => exact (Kd.N_reads' HO106.out).2.1); (case side3 => repeat (first | exact (Kd.R_reads' HO126.out).2.2 | (with_reducible refine Kd.C_alloc ?_ _) | (with_reducible refine Kd.C_drewN ?_ _) | (with_reducible refine Kd.C_drew ?_))); (case side4 => exact (Kd.R_reads' HO126.out).2.1); rintro e w55 ⟨rfl, hb⟩; (try clear A11); replace HO103 := am (Rb_ HO103.out hb); replace HO106 := am (Kd.N_below (by (with_reducible repeat (first | apply Kd.N_alloc | apply Kd.N_drewN | apply Kd.N_drew)); exact HO106.out) hb); replace HL107_1 := am (Kd.V_below (pV HL107_1.out) hb); replace HO116 := am (Rb_ HO116.out hb); replace HO126 := am (Rb_ HO126.out hb); replace HR107_1 := am (Kd.C_below (by repeat (first | (with_reducible exact HR107_1.out) | (with_reducible refine Kd.C_alloc ?_ _) | (with_reducible refine Kd.C_drewN ?_ _) | (with_reducible refine Kd.C_drew ?_) | exact HR107_1.out)) hb); replace HB := am (bs_ HB.out hb); (try clear hb); (try clear hb2); (try clear hk); (try clear hi)))
      go_ret
      exact ⟨by first | rfl | (simp [errW_none, errW_some] <;> rfl) | (simp [*, errW_none, errW_some] <;> rfl), pL HB.out⟩
    ·replace c8 := Bool.eq_false_iff.mpr c8
     subst c8
     have H1 : (some false) = some r := by rw [if_neg (show ¬ (false = true) by decide)] at H; exact H
     clear H
     have H := H1
     clear H1
     obtain rfl := Option.some.inj H
     go_enter Try.func7, Try.ntmps7
     go_wp2_with (first | ((with_reducible refine gate_dst (N := 4) rfl ?_); (try (refine gate_guard (by rfl) ?_; dsimp only)); refine Kd.R_lit k33 _ 33 ?hg (N := 4) ?hd (xs := ([(⟨4, (⟨#[120]⟩ : ByteArray), (⟨#[]⟩ : ByteArray), (⟨#[]⟩ : ByteArray), (⟨#[]⟩ : ByteArray), 0, 0, 0⟩ : Stmt), (⟨9, (⟨#[]⟩ : ByteArray), (⟨#[]⟩ : ByteArray), (⟨#[]⟩ : ByteArray), (⟨#[]⟩ : ByteArray), 0, 0, 0⟩ : Stmt)] : List (Stmt))) (inner := [.int .i64 4, .string (⟨#[120]⟩ : ByteArray), .string (⟨#[]⟩ : ByteArray), .string (⟨#[]⟩ : ByteArray), .string (⟨#[]⟩ : ByteArray), .int .i64 0, .int .i64 0, .int .i64 0, .int .i64 9, .string (⟨#[]⟩ : ByteArray), .string (⟨#[]⟩ : ByteArray), .string (⟨#[]⟩ : ByteArray), .string (⟨#[]⟩ : ByteArray), .int .i64 0, .int .i64 0, .int .i64 0]) (ok := fun _ => True) (okp := fun _ => True) ?hr ?hp (fun _ hk => hk) trivial (Below.refl _ _) (Nat.le_refl _) (by simp) ?_; (case hd => rfl); (case hg => rfl); (case hr => first | (go_simp; done) | (go_simp; rfl)); (case hp => exact (Reps.c8 (show Kd.M k33 _ _ _ (⟨4, (⟨#[120]⟩ : ByteArray), (⟨#[]⟩ : ByteArray), (⟨#[]⟩ : ByteArray), (⟨#[]⟩ : ByteArray), 0, 0, 0⟩ : Stmt) [.int .i64 4, .string (⟨#[120]⟩ : ByteArray), .string (⟨#[]⟩ : ByteArray), .string (⟨#[]⟩ : ByteArray), .string (⟨#[]⟩ : ByteArray), .int .i64 0, .int .i64 0, .int .i64 0] from (k33_mkM _ _ _ (⟨4, (⟨#[120]⟩ : ByteArray), (⟨#[]⟩ : ByteArray), (⟨#[]⟩ : ByteArray), (⟨#[]⟩ : ByteArray), 0, 0, 0⟩ : Stmt) )) (Reps.c8 (show Kd.M k33 _ _ _ (⟨9, (⟨#[]⟩ : ByteArray), (⟨#[]⟩ : ByteArray), (⟨#[]⟩ : ByteArray), (⟨#[]⟩ : ByteArray), 0, 0, 0⟩ : Stmt) [.int .i64 9, .string (⟨#[]⟩ : ByteArray), .string (⟨#[]⟩ : ByteArray), .string (⟨#[]⟩ : ByteArray), .string (⟨#[]⟩ : ByteArray), .int .i64 0, .int .i64 0, .int .i64 0] from (k33_mkM _ _ _ (⟨9, (⟨#[]⟩ : ByteArray), (⟨#[]⟩ : ByteArray), (⟨#[]⟩ : ByteArray), (⟨#[]⟩ : ByteArray), 0, 0, 0⟩ : Stmt) )) (Reps.none _ _)))); intro v102 w56 ho57 hb hg_ hnew_; clear hg_ hnew_; (first | rw [← Ny101.out] at ho57 | (simp only [Int.reduceToNat] at ho57; rw [← Ny101.out] at ho57)); have HO103 := am (Kd.R_lower ho57 (below_size (pL HB.out))); replace HB := am (bs_ HB.out hb); clear hb ho57; obtain ⟨Ao58, co58, eo58⟩ := Kd.R_slice HO103.out; subst eo58) | ((with_reducible refine gate_callee (f := 8) rfl ?_); refine goesL_ (some 5) rfl rfl Try.func8 (by kernel_rfl) rfl #[.slice Ao58 y101.length co58] rfl (by (try simp only [List.map_toArray, List.map_cons, List.map_nil]); first | done | rfl | (simp only [List.length_drop, List.length_take]; rfl)) ?_; (with_reducible refine (facts_Of.calls k _ _ y101 t104 _ ?side1 ?side2 A1.out).mono ?_); (case side1 => repeat (first | exact (Kd.R_reads' HO103.out).2.2 | (with_reducible refine Kd.C_alloc ?_ _) | (with_reducible refine Kd.C_drewN ?_ _) | (with_reducible refine Kd.C_drew ?_))); (case side2 => exact (Kd.R_reads' HO103.out).2.1); rintro e w59 ⟨v105, rfl, ho0, hb⟩; refine ⟨_, rfl, ?_⟩; have HO106 := am (Kd.N_lower (Kd.N_mono (ok' := fun k_ => some k_ ≠ (.slice Ao58 y101.length co58 : Value).ownBlock) ho0 (fun k_ hk_ => (Kd.fresh' (Kd.R_lt (pR HO103.out)) k_ hk_))) (below_size (pL HB.out))); replace HO103 := am (Rb_ HO103.out hb); replace HB := am (bs_ HB.out hb); (try clear hb); (try clear hb2); (try clear hk); (try clear hi); (try clear ho0); obtain ⟨Ao60, co60, eo60⟩ := Kd.N_slice HO106.out; subst eo60; have p107 : 0 ≤ (0 : Int) := (by omega); have q107 : 0 < (t104.length : Int) := dt_; obtain ⟨ad107, A107_1, c107_1, e107, hx107_0, hx107_1, hl107_1, hi107_1⟩ := at_T44 (Kd.N_reads' HO106.out).2.2 0 p107 q107; cases e107; obtain ⟨ce107, hce107, hMe107, hcc107⟩ := Kd.N_get HO106.out z44 0 p107 (by first | exact q107 | exact dt_ | (have e_ := (Kd.N_reads' HO106.out).1; omega)); obtain ⟨ua107_1, uc107_1, rfl, ul107_1, ge107_1⟩ := k44_openF hMe107; have hv107_1 := hcc107 1 _ rfl; rw [add_field _ _ 1 (by omega)] at hv107_1; replace hv107_1 := Option.some.inj (hv107_1.symm.trans hx107_1); injection hv107_1 with hva_ hvn_ hvc_; rw [hva_] at ge107_1; rw [hvc_] at ul107_1; have HL107_1 := am (show Kd.V k28 28 _ w.heap.size _ _ ((rd_T44 t104 0).args) from Kd.V_mk ul107_1 ge107_1); clear hva_ hvn_ hvc_ ge107_1 ul107_1; clear hcc107 hce107; have qi107 : (0 < t104.length) = True := eq_true (by omega); (try rw [show ((0 : Int)).toNat = 0 from rfl] at hx107_0); (try rw [show 0 * 2 = 0 from rfl] at hx107_0); (try rw [Addr.add_zero'] at hx107_0); (try rw [show ((0 : Int)).toNat = 0 from rfl] at hx107_1); (try rw [show 0 * 2 = 0 from rfl] at hx107_1); (try rw [Addr.add_zero'] at hx107_1); have HR107_1 := am hi107_1; have HC107_1 := am hl107_1; clear hi107_1 hl107_1; replace p107 := eq_true p107; replace q107 := eq_true q107) | (go_at_call 10; (with_reducible refine (lambrequinlaw21_num.calls 0 t108 t109 t110 _ A5.out).mono ?_); rintro e w61 ⟨rfl, hb⟩; (try clear A5); replace HO103 := am (Rb_ HO103.out hb); replace HO106 := am (Kd.N_below (by (with_reducible repeat (first | apply Kd.N_alloc | apply Kd.N_drewN | apply Kd.N_drew)); exact HO106.out) hb); replace HL107_1 := am (Kd.V_below (pV HL107_1.out) hb); replace HR107_1 := am (Kd.C_below (by repeat (first | (with_reducible exact HR107_1.out) | (with_reducible refine Kd.C_alloc ?_ _) | (with_reducible refine Kd.C_drewN ?_ _) | (with_reducible refine Kd.C_drew ?_) | exact HR107_1.out)) hb); replace HB := am (bs_ HB.out hb); (try clear hb); (try clear hb2); (try clear hk); (try clear hi)) | (go_at_call 10; (with_reducible refine (lambrequinlaw21_num.calls 1 t111 t112 t113 _ A6.out).mono ?_); rintro e w62 ⟨rfl, hb⟩; (try clear A6); replace HO103 := am (Rb_ HO103.out hb); replace HO106 := am (Kd.N_below (by (with_reducible repeat (first | apply Kd.N_alloc | apply Kd.N_drewN | apply Kd.N_drew)); exact HO106.out) hb); replace HL107_1 := am (Kd.V_below (pV HL107_1.out) hb); replace HR107_1 := am (Kd.C_below (by repeat (first | (with_reducible exact HR107_1.out) | (with_reducible refine Kd.C_alloc ?_ _) | (with_reducible refine Kd.C_drewN ?_ _) | (with_reducible refine Kd.C_drew ?_) | exact HR107_1.out)) hb); replace HB := am (bs_ HB.out hb); (try clear hb); (try clear hb2); (try clear hk); (try clear hi)) | ((with_reducible refine gate_dst (N := 20) rfl ?_); (try (refine gate_guard (by rfl) ?_; dsimp only)); refine Kd.R_lit k28 _ 28 ?hg (N := 20) ?hd (xs := ([(⟨t108, t109, t110⟩ : Val), (⟨t111, t112, t113⟩ : Val)] : List (Val))) (inner := [.bool t108, .string t109, .int .i64 t110, .bool t111, .string t112, .int .i64 t113]) (ok := fun _ => True) (okp := fun _ => True) ?hr ?hp (fun _ hk => hk) trivial (Below.refl _ _) (Nat.le_refl _) (by simp) ?_; (case hd => rfl); (case hg => rfl); (case hr => first | (go_simp; done) | (go_simp; rfl)); (case hp => exact (Reps.c3 (show Kd.M k28 _ _ _ (⟨t108, t109, t110⟩ : Val) [.bool t108, .string t109, .int .i64 t110] from (k28_mkM _ _ _ (⟨t108, t109, t110⟩ : Val) )) (Reps.c3 (show Kd.M k28 _ _ _ (⟨t111, t112, t113⟩ : Val) [.bool t111, .string t112, .int .i64 t113] from (k28_mkM _ _ _ (⟨t111, t112, t113⟩ : Val) )) (Reps.none _ _)))); intro v115 w63 ho64 hb hg_ hnew_; clear hg_ hnew_; (first | rw [← Ny114.out] at ho64 | (simp only [Int.reduceToNat] at ho64; rw [← Ny114.out] at ho64)); replace HO103 := am (Rb_ HO103.out hb); replace HO106 := am (Kd.N_elder' (by (with_reducible repeat (first | apply Kd.N_alloc | apply Kd.N_drewN | apply Kd.N_drew)); exact HO106.out) (Kd.R_base ho64) hb); replace HL107_1 := am (Kd.V_elder' (pV HL107_1.out) (Kd.R_base ho64) hb); have HO116 := am (Kd.R_lower ho64 (below_size (pL HB.out))); replace HR107_1 := am (Kd.C_below (by repeat (first | (with_reducible exact HR107_1.out) | (with_reducible refine Kd.C_alloc ?_ _) | (with_reducible refine Kd.C_drewN ?_ _) | (with_reducible refine Kd.C_drew ?_) | exact HR107_1.out)) hb); replace HB := am (bs_ HB.out hb); clear hb ho64; obtain ⟨Ao65, co65, eo65⟩ := Kd.R_slice HO116.out; subst eo65) | (go_at_call 9; (with_reducible refine (facts_Has.calls _ _ t104 (⟨#[110, 101, 120, 116]⟩ : ByteArray) _ _ y114 false _ ?side1 ?side2 ?side3 ?side4 A7.out).mono ?_); (case side1 => repeat (first | exact (Kd.N_reads' HO106.out).2.2 | (with_reducible refine Kd.C_alloc ?_ _) | (with_reducible refine Kd.C_drewN ?_ _) | (with_reducible refine Kd.C_drew ?_))); (case side2 => exact (Kd.N_reads' HO106.out).2.1); (case side3 => repeat (first | exact (Kd.R_reads' HO116.out).2.2 | (with_reducible refine Kd.C_alloc ?_ _) | (with_reducible refine Kd.C_drewN ?_ _) | (with_reducible refine Kd.C_drew ?_))); (case side4 => exact (Kd.R_reads' HO116.out).2.1); rintro e w66 ⟨rfl, hb⟩; (try clear A7); replace HO103 := am (Rb_ HO103.out hb); replace HO106 := am (Kd.N_below (by (with_reducible repeat (first | apply Kd.N_alloc | apply Kd.N_drewN | apply Kd.N_drew)); exact HO106.out) hb); replace HL107_1 := am (Kd.V_below (pV HL107_1.out) hb); replace HO116 := am (Rb_ HO116.out hb); replace HR107_1 := am (Kd.C_below (by repeat (first | (with_reducible exact HR107_1.out) | (with_reducible refine Kd.C_alloc ?_ _) | (with_reducible refine Kd.C_drewN ?_ _) | (with_reducible refine Kd.C_drew ?_) | exact HR107_1.out)) hb); replace HB := am (bs_ HB.out hb); (try clear hb); (try clear hb2); (try clear hk); (try clear hi)))
     go_ret
     exact ⟨by first | rfl | (simp [errW_none, errW_some] <;> rfl) | (simp [*, errW_none, errW_some] <;> rfl), pL HB.out⟩
   ·rw [if_neg c4] at H
    have c4b0 : (((rd_T44 t104 0).pred).toList == ([100, 101, 102] : List UInt8)) = false := beq_eq_false_iff_ne.mpr c4
    have c4b1 : (((rd_T44 t104 0).pred).toList != ([100, 101, 102] : List UInt8)) = true := bne_iff_ne.mpr c4
    obtain rfl := Option.some.inj H
    go_enter Try.func7, Try.ntmps7
    go_wp2_with (first | ((with_reducible refine gate_dst (N := 4) rfl ?_); (try (refine gate_guard (by rfl) ?_; dsimp only)); refine Kd.R_lit k33 _ 33 ?hg (N := 4) ?hd (xs := ([(⟨4, (⟨#[120]⟩ : ByteArray), (⟨#[]⟩ : ByteArray), (⟨#[]⟩ : ByteArray), (⟨#[]⟩ : ByteArray), 0, 0, 0⟩ : Stmt), (⟨9, (⟨#[]⟩ : ByteArray), (⟨#[]⟩ : ByteArray), (⟨#[]⟩ : ByteArray), (⟨#[]⟩ : ByteArray), 0, 0, 0⟩ : Stmt)] : List (Stmt))) (inner := [.int .i64 4, .string (⟨#[120]⟩ : ByteArray), .string (⟨#[]⟩ : ByteArray), .string (⟨#[]⟩ : ByteArray), .string (⟨#[]⟩ : ByteArray), .int .i64 0, .int .i64 0, .int .i64 0, .int .i64 9, .string (⟨#[]⟩ : ByteArray), .string (⟨#[]⟩ : ByteArray), .string (⟨#[]⟩ : ByteArray), .string (⟨#[]⟩ : ByteArray), .int .i64 0, .int .i64 0, .int .i64 0]) (ok := fun _ => True) (okp := fun _ => True) ?hr ?hp (fun _ hk => hk) trivial (Below.refl _ _) (Nat.le_refl _) (by simp) ?_; (case hd => rfl); (case hg => rfl); (case hr => first | (go_simp; done) | (go_simp; rfl)); (case hp => exact (Reps.c8 (show Kd.M k33 _ _ _ (⟨4, (⟨#[120]⟩ : ByteArray), (⟨#[]⟩ : ByteArray), (⟨#[]⟩ : ByteArray), (⟨#[]⟩ : ByteArray), 0, 0, 0⟩ : Stmt) [.int .i64 4, .string (⟨#[120]⟩ : ByteArray), .string (⟨#[]⟩ : ByteArray), .string (⟨#[]⟩ : ByteArray), .string (⟨#[]⟩ : ByteArray), .int .i64 0, .int .i64 0, .int .i64 0] from (k33_mkM _ _ _ (⟨4, (⟨#[120]⟩ : ByteArray), (⟨#[]⟩ : ByteArray), (⟨#[]⟩ : ByteArray), (⟨#[]⟩ : ByteArray), 0, 0, 0⟩ : Stmt) )) (Reps.c8 (show Kd.M k33 _ _ _ (⟨9, (⟨#[]⟩ : ByteArray), (⟨#[]⟩ : ByteArray), (⟨#[]⟩ : ByteArray), (⟨#[]⟩ : ByteArray), 0, 0, 0⟩ : Stmt) [.int .i64 9, .string (⟨#[]⟩ : ByteArray), .string (⟨#[]⟩ : ByteArray), .string (⟨#[]⟩ : ByteArray), .string (⟨#[]⟩ : ByteArray), .int .i64 0, .int .i64 0, .int .i64 0] from (k33_mkM _ _ _ (⟨9, (⟨#[]⟩ : ByteArray), (⟨#[]⟩ : ByteArray), (⟨#[]⟩ : ByteArray), (⟨#[]⟩ : ByteArray), 0, 0, 0⟩ : Stmt) )) (Reps.none _ _)))); intro v102 w67 ho68 hb hg_ hnew_; clear hg_ hnew_; (first | rw [← Ny101.out] at ho68 | (simp only [Int.reduceToNat] at ho68; rw [← Ny101.out] at ho68)); have HO103 := am (Kd.R_lower ho68 (below_size (pL HB.out))); replace HB := am (bs_ HB.out hb); clear hb ho68; obtain ⟨Ao69, co69, eo69⟩ := Kd.R_slice HO103.out; subst eo69) | ((with_reducible refine gate_callee (f := 8) rfl ?_); refine goesL_ (some 5) rfl rfl Try.func8 (by kernel_rfl) rfl #[.slice Ao69 y101.length co69] rfl (by (try simp only [List.map_toArray, List.map_cons, List.map_nil]); first | done | rfl | (simp only [List.length_drop, List.length_take]; rfl)) ?_; (with_reducible refine (facts_Of.calls k _ _ y101 t104 _ ?side1 ?side2 A1.out).mono ?_); (case side1 => repeat (first | exact (Kd.R_reads' HO103.out).2.2 | (with_reducible refine Kd.C_alloc ?_ _) | (with_reducible refine Kd.C_drewN ?_ _) | (with_reducible refine Kd.C_drew ?_))); (case side2 => exact (Kd.R_reads' HO103.out).2.1); rintro e w70 ⟨v105, rfl, ho0, hb⟩; refine ⟨_, rfl, ?_⟩; have HO106 := am (Kd.N_lower (Kd.N_mono (ok' := fun k_ => some k_ ≠ (.slice Ao69 y101.length co69 : Value).ownBlock) ho0 (fun k_ hk_ => (Kd.fresh' (Kd.R_lt (pR HO103.out)) k_ hk_))) (below_size (pL HB.out))); replace HO103 := am (Rb_ HO103.out hb); replace HB := am (bs_ HB.out hb); (try clear hb); (try clear hb2); (try clear hk); (try clear hi); (try clear ho0); obtain ⟨Ao71, co71, eo71⟩ := Kd.N_slice HO106.out; subst eo71; have p107 : 0 ≤ (0 : Int) := (by omega); have q107 : 0 < (t104.length : Int) := dt_; obtain ⟨ad107, A107_1, c107_1, e107, hx107_0, hx107_1, hl107_1, hi107_1⟩ := at_T44 (Kd.N_reads' HO106.out).2.2 0 p107 q107; cases e107; obtain ⟨ce107, hce107, hMe107, hcc107⟩ := Kd.N_get HO106.out z44 0 p107 (by first | exact q107 | exact dt_ | (have e_ := (Kd.N_reads' HO106.out).1; omega)); obtain ⟨ua107_1, uc107_1, rfl, ul107_1, ge107_1⟩ := k44_openF hMe107; have hv107_1 := hcc107 1 _ rfl; rw [add_field _ _ 1 (by omega)] at hv107_1; replace hv107_1 := Option.some.inj (hv107_1.symm.trans hx107_1); injection hv107_1 with hva_ hvn_ hvc_; rw [hva_] at ge107_1; rw [hvc_] at ul107_1; have HL107_1 := am (show Kd.V k28 28 _ w.heap.size _ _ ((rd_T44 t104 0).args) from Kd.V_mk ul107_1 ge107_1); clear hva_ hvn_ hvc_ ge107_1 ul107_1; clear hcc107 hce107; have qi107 : (0 < t104.length) = True := eq_true (by omega); (try rw [show ((0 : Int)).toNat = 0 from rfl] at hx107_0); (try rw [show 0 * 2 = 0 from rfl] at hx107_0); (try rw [Addr.add_zero'] at hx107_0); (try rw [show ((0 : Int)).toNat = 0 from rfl] at hx107_1); (try rw [show 0 * 2 = 0 from rfl] at hx107_1); (try rw [Addr.add_zero'] at hx107_1); have HR107_1 := am hi107_1; have HC107_1 := am hl107_1; clear hi107_1 hl107_1; replace p107 := eq_true p107; replace q107 := eq_true q107))
    go_ret
    exact ⟨by first | rfl | (simp [errW_none, errW_some] <;> rfl) | (simp [*, errW_none, errW_some] <;> rfl), pL HB.out⟩
  ·rw [if_neg c3] at H
   exact absurd H (by simp)
 ·rw [if_neg c2] at H
  have c2b0 : ((t104.length : Int) == 5) = false := beq_eq_false_iff_ne.mpr c2
  have c2b1 : ((t104.length : Int) != 5) = true := bne_iff_ne.mpr c2
  obtain rfl := Option.some.inj H
  go_enter Try.func7, Try.ntmps7
  go_wp2_with (first | ((with_reducible refine gate_dst (N := 4) rfl ?_); (try (refine gate_guard (by rfl) ?_; dsimp only)); refine Kd.R_lit k33 _ 33 ?hg (N := 4) ?hd (xs := ([(⟨4, (⟨#[120]⟩ : ByteArray), (⟨#[]⟩ : ByteArray), (⟨#[]⟩ : ByteArray), (⟨#[]⟩ : ByteArray), 0, 0, 0⟩ : Stmt), (⟨9, (⟨#[]⟩ : ByteArray), (⟨#[]⟩ : ByteArray), (⟨#[]⟩ : ByteArray), (⟨#[]⟩ : ByteArray), 0, 0, 0⟩ : Stmt)] : List (Stmt))) (inner := [.int .i64 4, .string (⟨#[120]⟩ : ByteArray), .string (⟨#[]⟩ : ByteArray), .string (⟨#[]⟩ : ByteArray), .string (⟨#[]⟩ : ByteArray), .int .i64 0, .int .i64 0, .int .i64 0, .int .i64 9, .string (⟨#[]⟩ : ByteArray), .string (⟨#[]⟩ : ByteArray), .string (⟨#[]⟩ : ByteArray), .string (⟨#[]⟩ : ByteArray), .int .i64 0, .int .i64 0, .int .i64 0]) (ok := fun _ => True) (okp := fun _ => True) ?hr ?hp (fun _ hk => hk) trivial (Below.refl _ _) (Nat.le_refl _) (by simp) ?_; (case hd => rfl); (case hg => rfl); (case hr => first | (go_simp; done) | (go_simp; rfl)); (case hp => exact (Reps.c8 (show Kd.M k33 _ _ _ (⟨4, (⟨#[120]⟩ : ByteArray), (⟨#[]⟩ : ByteArray), (⟨#[]⟩ : ByteArray), (⟨#[]⟩ : ByteArray), 0, 0, 0⟩ : Stmt) [.int .i64 4, .string (⟨#[120]⟩ : ByteArray), .string (⟨#[]⟩ : ByteArray), .string (⟨#[]⟩ : ByteArray), .string (⟨#[]⟩ : ByteArray), .int .i64 0, .int .i64 0, .int .i64 0] from (k33_mkM _ _ _ (⟨4, (⟨#[120]⟩ : ByteArray), (⟨#[]⟩ : ByteArray), (⟨#[]⟩ : ByteArray), (⟨#[]⟩ : ByteArray), 0, 0, 0⟩ : Stmt) )) (Reps.c8 (show Kd.M k33 _ _ _ (⟨9, (⟨#[]⟩ : ByteArray), (⟨#[]⟩ : ByteArray), (⟨#[]⟩ : ByteArray), (⟨#[]⟩ : ByteArray), 0, 0, 0⟩ : Stmt) [.int .i64 9, .string (⟨#[]⟩ : ByteArray), .string (⟨#[]⟩ : ByteArray), .string (⟨#[]⟩ : ByteArray), .string (⟨#[]⟩ : ByteArray), .int .i64 0, .int .i64 0, .int .i64 0] from (k33_mkM _ _ _ (⟨9, (⟨#[]⟩ : ByteArray), (⟨#[]⟩ : ByteArray), (⟨#[]⟩ : ByteArray), (⟨#[]⟩ : ByteArray), 0, 0, 0⟩ : Stmt) )) (Reps.none _ _)))); intro v102 w72 ho73 hb hg_ hnew_; clear hg_ hnew_; (first | rw [← Ny101.out] at ho73 | (simp only [Int.reduceToNat] at ho73; rw [← Ny101.out] at ho73)); have HO103 := am (Kd.R_lower ho73 (below_size (pL HB.out))); replace HB := am (bs_ HB.out hb); clear hb ho73; obtain ⟨Ao74, co74, eo74⟩ := Kd.R_slice HO103.out; subst eo74) | ((with_reducible refine gate_callee (f := 8) rfl ?_); refine goesL_ (some 5) rfl rfl Try.func8 (by kernel_rfl) rfl #[.slice Ao74 y101.length co74] rfl (by (try simp only [List.map_toArray, List.map_cons, List.map_nil]); first | done | rfl | (simp only [List.length_drop, List.length_take]; rfl)) ?_; (with_reducible refine (facts_Of.calls k _ _ y101 t104 _ ?side1 ?side2 A1.out).mono ?_); (case side1 => repeat (first | exact (Kd.R_reads' HO103.out).2.2 | (with_reducible refine Kd.C_alloc ?_ _) | (with_reducible refine Kd.C_drewN ?_ _) | (with_reducible refine Kd.C_drew ?_))); (case side2 => exact (Kd.R_reads' HO103.out).2.1); rintro e w75 ⟨v105, rfl, ho0, hb⟩; refine ⟨_, rfl, ?_⟩; have HO106 := am (Kd.N_lower (Kd.N_mono (ok' := fun k_ => some k_ ≠ (.slice Ao74 y101.length co74 : Value).ownBlock) ho0 (fun k_ hk_ => (Kd.fresh' (Kd.R_lt (pR HO103.out)) k_ hk_))) (below_size (pL HB.out))); replace HO103 := am (Rb_ HO103.out hb); replace HB := am (bs_ HB.out hb); (try clear hb); (try clear hb2); (try clear hk); (try clear hi); (try clear ho0); obtain ⟨Ao76, co76, eo76⟩ := Kd.N_slice HO106.out; subst eo76))
  go_ret
  exact ⟨by first | rfl | (simp [errW_none, errW_some] <;> rfl) | (simp [*, errW_none, errW_some] <;> rfl), pL HB.out⟩
end Go.Proofs.Ytoekfmdcplphmaa.H
/- the document's example holds -/
namespace Go.Proofs.Ytoekfmdcplphmaa.H
open Go.RowKit Go.Proofs.YtoekfmdcplphmaaW.PrintWords
theorem HasEx {p : ByteArray} {a : List Val} {b : Bool} (hb : bareF ⟨p, a⟩ = true) (h : b = true ↔ (⟨p, a⟩ : Fact) ∈ factsL ex21) : facts_Has.f exF p a = some b := by
  rw [← ex_of]
  exact HasOf hb h
theorem shown21_ev : Ev (fun k => lambrequinlaw21_shown.f k) true := by
  unfold lambrequinlaw21_shown.f
  refine Ev.bind (a := exF) (ex_of ▸ of_ev ex21 (by decide)) ?_
  refine Ev.pos (by decide) ?_
  refine Ev.pos (by decide) ?_
  refine Ev.pos (by rw [ByteArray.toList_eq]; rfl) ?_
  refine Ev.pure rfl ?_
  refine Ev.pure rfl ?_
  refine Ev.pure (HasEx (b := true) rfl (by rw [ex_facts]; simp)) ?_
  refine Ev.pos rfl ?_
  refine Ev.pure rfl ?_
  refine Ev.pure rfl ?_
  refine Ev.pure (HasEx (b := true) rfl (by rw [ex_facts]; simp)) ?_
  refine Ev.pos rfl ?_
  refine Ev.pure rfl ?_
  refine Ev.pure rfl ?_
  refine Ev.pure (HasEx (b := false) rfl (by rw [ex_facts]; simp)) ?_
  exact Ev.now _
end Go.Proofs.Ytoekfmdcplphmaa.H
namespace Go.Proofs.Ytoekfmdcplphmaa.H
open Go.RowKit Go.Proofs.YtoekfmdcplphmaaW.PrintWords Go.Proofs.YtoekfmdcplphmaaW.PrintLast Go.Proofs.YtoekfmdcplphmaaW.PrintMore
attribute [local go_sem] max2_int min2_int max_two min_two max_three min_three max_four min_four
def lambrequinref09_In.l0 : Nat → List ByteArray → ByteArray → Int → Option (Bool)
 | 0, _, _, _ => none
 | k + 1, x0, x1, x5 => if x5 < (x0.length : Int) then (if 0 ≤ x5 then (if (rdOf ByteArray.empty x0 x5).toList = x1.toList then (some true) else (lambrequinref09_In.l0 k x0 x1 (wrap64 (x5 + 1)))) else (none)) else (some false)
def lambrequinref09_In.f (k : Nat) (l0 : List ByteArray) (a1 : ByteArray) : Option (Bool) := lambrequinref09_In.l0 k l0 a1 0
theorem lambrequinref09_In.mono_l : ∀ k, (∀ y0 y1 y2, LeO (lambrequinref09_In.l0 k y0 y1 y2) (lambrequinref09_In.l0 (k + 1) y0 y1 y2))
 | 0 => fun _ _ _ r h => by simp [lambrequinref09_In.l0] at h
 | k + 1 => by
  have ih0 := lambrequinref09_In.mono_l k
  ·intro y0 y1 y2
   unfold lambrequinref09_In.l0
   repeat' first
   | (with_reducible exact ih0 _ _ _)
   | (with_reducible exact LeO.refl _)
   | (with_reducible exact LeO.none _)
   | (with_reducible refine LeO.ite ?_ ?_)
   | (with_reducible refine LeO.bind ?_ (fun _ => ?_))
   | exact ih0 _ _ _
   | exact LeO.none _
   | refine LeO.ite ?_ ?_
   | refine LeO.bind ?_ (fun _ => ?_)
theorem lambrequinref09_In.mono : ∀ a0 a1 k, LeO (lambrequinref09_In.f k a0 a1) (lambrequinref09_In.f (k + 1) a0 a1) := by
 intro a0 a1 k
 have ih0 := lambrequinref09_In.mono_l k
 unfold lambrequinref09_In.f
 repeat' first
   | (with_reducible exact ih0 _ _ _)
   | (with_reducible exact LeO.refl _)
   | (with_reducible exact LeO.none _)
   | (with_reducible refine LeO.ite ?_ ?_)
   | (with_reducible refine LeO.bind ?_ (fun _ => ?_))
   | exact ih0 _ _ _
   | exact LeO.none _
   | refine LeO.ite ?_ ?_
   | refine LeO.bind ?_ (fun _ => ?_)
set_option maxHeartbeats 8000000 in
set_option maxRecDepth 100000 in
theorem lambrequinref09_In.calls (k : Nat) (A0 : Option Addr) (c0 : Nat) (l0 : List ByteArray) (a1 : ByteArray) (r : Bool) (w : World) (hr0 : Kd.C Kd.string w A0 l0.length l0) (hc0 : l0.length ≤ c0) (h : lambrequinref09_In.f k l0 a1 = some r) :
  Calls Try.prog 13 #[.slice A0 l0.length c0, .string a1] w fun e w' => e = .returned (.bool r) ∧ Drawn0 w w' := by
 have HR0 := Aside0.mk hr0
 have HC0 := Aside0.mk hc0
 clear hr0 hc0
 have H : (lambrequinref09_In.l0 k l0 a1 0) = some r := h
 clear h
 have H' := Aside0.mk H
 clear H
 go_enter Try.func13, Try.ntmps13
 go_wp2
 go_loopg [5] k (fun kq v5 w' => ∃ (x5_1 : Int), v5 = .int .i64 x5_1 ∧ Aside0 (lambrequinref09_In.l0 kq l0 a1 x5_1 = some r) ∧ Aside0 (kq ≤ k) ∧ Drawn0 w w')
 case atStart => exact ⟨(0), (by first | rfl | (simp; done) | (simp [*]; done)), H', ⟨Nat.le_refl _⟩, by repeat (first | exact Drawn0.refl _ | apply Drawn0.step)⟩
 case round =>
  clear H'
  try clear c1
  try clear p2
  obtain ⟨x5_1, rfl, HA, HK1, ⟨m1, rfl⟩⟩ := hrel
  cases gk with
  | zero => exact absurd HA.out (by simp [lambrequinref09_In.l0])
  | succ k1 =>
   have H := HA.out
   clear HA
   simp only [lambrequinref09_In.l0] at H
   by_cases c3 : x5_1 < (l0.length : Int)
   ·rw [if_pos c3] at H
    have c3b0 : decide (x5_1 < (l0.length : Int)) = true := decide_eq_true c3
    clear c3
    by_cases c4 : 0 ≤ x5_1
    ·rw [if_pos c4] at H
     have c4b0 : decide (0 ≤ x5_1) = true := decide_eq_true c4
     clear c4
     by_cases c5 : (rdOf ByteArray.empty l0 x5_1).toList = a1.toList
     ·rw [if_pos c5] at H
      have c5b0 : ((rdOf ByteArray.empty l0 x5_1).toList == a1.toList) = true := beq_iff_eq.mpr c5
      have c5b1 : ((rdOf ByteArray.empty l0 x5_1).toList != a1.toList) = false := bne_eq_false_iff_eq.mpr c5
      clear c5
      obtain rfl := Option.some.inj H
      have p101 : 0 ≤ (x5_1 : Int) := of_decide_eq_true (by first | (with_reducible assumption) | assumption)
      have q101 : x5_1 < (l0.length : Int) := of_decide_eq_true (by first | (with_reducible assumption) | assumption)
      obtain ⟨ad101, e101, hx101_0⟩ := Kd.at_string HR0.out x5_1 p101 q101
      cases e101
      replace p101 := eq_true p101
      replace q101 := eq_true q101
      go_wp2
      go_ret
      exact ⟨by first | rfl | (simp; done) | (simp [*]; done), by repeat (first | exact Drawn0.refl _ | apply Drawn0.step)⟩
     ·rw [if_neg c5] at H
      have c5b0 : ((rdOf ByteArray.empty l0 x5_1).toList == a1.toList) = false := beq_eq_false_iff_ne.mpr c5
      have c5b1 : ((rdOf ByteArray.empty l0 x5_1).toList != a1.toList) = true := bne_iff_ne.mpr c5
      have H' := Aside0.mk H
      clear H
      have p101 : 0 ≤ (x5_1 : Int) := of_decide_eq_true (by first | (with_reducible assumption) | assumption)
      have q101 : x5_1 < (l0.length : Int) := of_decide_eq_true (by first | (with_reducible assumption) | assumption)
      obtain ⟨ad101, e101, hx101_0⟩ := Kd.at_string HR0.out x5_1 p101 q101
      cases e101
      replace p101 := eq_true p101
      replace q101 := eq_true q101
      go_wp2
      go_roundg k1
      case measure => have := HK1.out; omega
      case rel => exact ⟨(wrap64 (x5_1 + 1)), (by first | rfl | (simp; done) | (simp [*]; done)), H', ⟨by have := HK1.out; omega⟩, by repeat (first | exact Drawn0.refl _ | apply Drawn0.step)⟩
    ·rw [if_neg c4] at H
     exact absurd H (by simp)
   ·rw [if_neg c3] at H
    have c3b0 : decide (x5_1 < (l0.length : Int)) = false := decide_eq_false c3
    clear c3
    obtain rfl := Option.some.inj H
    go_wp2
    go_ret
    exact ⟨by first | rfl | (simp; done) | (simp [*]; done), by repeat (first | exact Drawn0.refl _ | apply Drawn0.step)⟩
end Go.Proofs.Ytoekfmdcplphmaa.H
namespace Go.Proofs.Ytoekfmdcplphmaa.H
open Go.RowKit Go.Proofs.YtoekfmdcplphmaaW.PrintWords
theorem In_l0 (l : List ByteArray) (s : ByteArray) (hl : l.length ≤ 9223372036854775807) : ∀ (r : List ByteArray) (n : Nat), l.drop n = r → Ev (fun k => lambrequinref09_In.l0 k l s n) (mem s r)
  | [], n, h => by
    refine Ev.step (fun k => by rw [lambrequinref09_In.l0]) ?_
    exact Ev.neg (drop_end h) (Ev.some (by simp [mem]))
  | y :: r, n, h => by
    obtain ⟨h1, h2, h3, h4, h5⟩ := drop_more h hl
    refine Ev.step (fun k => by rw [lambrequinref09_In.l0]) ?_
    refine Ev.pos h1 (Ev.pos h2 ?_)
    rw [show rdOf ByteArray.empty l n = y from h3 _, h5]
    refine Ev.iff (Ev.cases (fun _ => Ev.now true) (fun _ => In_l0 l s hl r (n + 1) h4)) ?_
    simp only [lib_ba_eq, mem, List.any_cons]
    by_cases e : y = s
    · subst e; simp
    · have e' : ¬ s = y := fun h => e h.symm
      simp [e, e']
theorem In_ev (l : List ByteArray) (s : ByteArray) (hl : l.length ≤ 9223372036854775807) : Ev (fun k => lambrequinref09_In.f k l s) (mem s l) := In_l0 l s hl l 0 rfl
end Go.Proofs.Ytoekfmdcplphmaa.H
namespace Go.Proofs.Ytoekfmdcplphmaa.H
open Go.RowKit Go.Proofs.YtoekfmdcplphmaaW.PrintWords Go.Proofs.YtoekfmdcplphmaaW.PrintLast Go.Proofs.YtoekfmdcplphmaaW.PrintMore
attribute [local go_sem] max2_int min2_int max_two min_two max_three min_three max_four min_four
mutual
def lambrequinref01_texts.l0 : Nat → ByteArray → ByteArray → Int → Option (Int)
 | 0, _, _, _ => none
 | k + 1, x0, x1, x5 => if x5 < (x0.size : Int) then (lambrequinref01_texts.j1 k x0 x1 x5 (decide (x5 < (x1.size : Int)))) else (lambrequinref01_texts.j1 k x0 x1 x5 false)
def lambrequinref01_texts.j1 : Nat → ByteArray → ByteArray → Int → Bool → Option (Int)
 | 0, _, _, _, _ => none
 | k + 1, x0, x1, x5, x15 => if x15 = true then (if 0 ≤ x5 then (if x5 < (x0.size : Int) then (if x5 < (x1.size : Int) then (if (bt x0 x5) < (bt x1 x5) then (some (-1)) else (if (bt x0 x5) > (bt x1 x5) then (some 1) else (lambrequinref01_texts.l0 k x0 x1 (wrap64 (x5 + 1))))) else (none)) else (none)) else (none)) else (if (x0.size : Int) < (x1.size : Int) then (some (-1)) else (if (x0.size : Int) > (x1.size : Int) then (some 1) else (some 0)))
end
def lambrequinref01_texts.f (k : Nat) (a0 : ByteArray) (a1 : ByteArray) : Option (Int) := lambrequinref01_texts.l0 k a0 a1 0
theorem lambrequinref01_texts.mono_l : ∀ k, (∀ y0 y1 y2, LeO (lambrequinref01_texts.l0 k y0 y1 y2) (lambrequinref01_texts.l0 (k + 1) y0 y1 y2)) ∧ (∀ y0 y1 y2 y3, LeO (lambrequinref01_texts.j1 k y0 y1 y2 y3) (lambrequinref01_texts.j1 (k + 1) y0 y1 y2 y3))
 | 0 => ⟨fun _ _ _ r h => by simp [lambrequinref01_texts.l0] at h, fun _ _ _ _ r h => by simp [lambrequinref01_texts.j1] at h⟩
 | k + 1 => by
  obtain ⟨ih0, ih1⟩ := lambrequinref01_texts.mono_l k
  refine ⟨?_, ?_⟩
  ·intro y0 y1 y2
   unfold lambrequinref01_texts.l0
   repeat' first
   | (with_reducible exact ih0 _ _ _)
   | (with_reducible exact ih1 _ _ _ _)
   | (with_reducible exact LeO.refl _)
   | (with_reducible exact LeO.none _)
   | (with_reducible refine LeO.ite ?_ ?_)
   | (with_reducible refine LeO.bind ?_ (fun _ => ?_))
   | exact ih0 _ _ _
   | exact ih1 _ _ _ _
   | exact LeO.none _
   | refine LeO.ite ?_ ?_
   | refine LeO.bind ?_ (fun _ => ?_)
  ·intro y0 y1 y2 y3
   unfold lambrequinref01_texts.j1
   repeat' first
   | (with_reducible exact ih0 _ _ _)
   | (with_reducible exact ih1 _ _ _ _)
   | (with_reducible exact LeO.refl _)
   | (with_reducible exact LeO.none _)
   | (with_reducible refine LeO.ite ?_ ?_)
   | (with_reducible refine LeO.bind ?_ (fun _ => ?_))
   | exact ih0 _ _ _
   | exact ih1 _ _ _ _
   | exact LeO.none _
   | refine LeO.ite ?_ ?_
   | refine LeO.bind ?_ (fun _ => ?_)
theorem lambrequinref01_texts.mono : ∀ a0 a1 k, LeO (lambrequinref01_texts.f k a0 a1) (lambrequinref01_texts.f (k + 1) a0 a1) := by
 intro a0 a1 k
 obtain ⟨ih0, ih1⟩ := lambrequinref01_texts.mono_l k
 unfold lambrequinref01_texts.f
 repeat' first
   | (with_reducible exact ih0 _ _ _)
   | (with_reducible exact ih1 _ _ _ _)
   | (with_reducible exact LeO.refl _)
   | (with_reducible exact LeO.none _)
   | (with_reducible refine LeO.ite ?_ ?_)
   | (with_reducible refine LeO.bind ?_ (fun _ => ?_))
   | exact ih0 _ _ _
   | exact ih1 _ _ _ _
   | exact LeO.none _
   | refine LeO.ite ?_ ?_
   | refine LeO.bind ?_ (fun _ => ?_)
set_option maxHeartbeats 8000000 in
set_option maxRecDepth 100000 in
theorem lambrequinref01_texts.calls (k : Nat) (a0 : ByteArray) (a1 : ByteArray) (r : Int) (w : World) (h : lambrequinref01_texts.f k a0 a1 = some r) :
  Calls Try.prog 48 #[.string a0, .string a1] w fun e w' => e = .returned (.int .i64 r) ∧ Drawn0 w w' := by
 have H : (lambrequinref01_texts.l0 k a0 a1 0) = some r := h
 clear h
 have H' := Aside0.mk H
 clear H
 go_enter Try.func48, Try.ntmps48
 go_wp2
 repeat (go_quiet (fail); try go_wp2)
 go_loopg [5] k (fun kq v5 w' => ∃ (x5_1 : Int), v5 = .int .i64 x5_1 ∧ Aside0 (lambrequinref01_texts.l0 kq a0 a1 x5_1 = some r) ∧ Aside0 (kq ≤ k) ∧ Drawn0 w w')
 case atStart => exact ⟨(0), (by first | rfl | (simp; done) | (simp [*]; done)), H', ⟨Nat.le_refl _⟩, by repeat (first | exact Drawn0.refl _ | apply Drawn0.step)⟩
 case round =>
  clear H'
  try clear p2
  obtain ⟨x5_1, rfl, HA, HK1, ⟨m1, rfl⟩⟩ := hrel
  cases gk with
  | zero => exact absurd HA.out (by simp [lambrequinref01_texts.l0])
  | succ k1 =>
   have H := HA.out
   clear HA
   simp only [lambrequinref01_texts.l0] at H
   have HC3 := Aside0.mk H
   clear H
   go_upto_region 2 with (fail)
   repeat (go_quiet (fail); go_upto_region 2 with (fail))
   go_cut [15] (fun v15 wc => ∃ (kq : Nat) (x15_2 : Bool), v15 = .bool x15_2 ∧ Aside0 (lambrequinref01_texts.j1 kq a0 a1 x5_1 x15_2 = some r) ∧ Aside0 (kq ≤ k1) ∧ Drawn0 w wc)
   case first =>
    have H := HC3.out
    clear HC3
    by_cases c4 : x5_1 < (a0.size : Int)
    ·rw [if_pos c4] at H
     have c4b0 : decide (x5_1 < (a0.size : Int)) = true := decide_eq_true c4
     clear c4
     (first | rw [c4b0] | (simp only [i64_w, i32_w]; rw [c4b0]) | skip)
     have H' := Aside0.mk H
     clear H
     go_wp2
     repeat (go_quiet (fail); try go_wp2)
     go_meet
     case rel => exact ⟨_, (decide (x5_1 < (a1.size : Int))), (by first | rfl | (simp; done) | (simp [*]; done)), H', ⟨by have := HK1.out; first | omega | exact Nat.le_refl _⟩, by repeat (first | exact Drawn0.refl _ | apply Drawn0.step)⟩
    ·rw [if_neg c4] at H
     have c4b0 : decide (x5_1 < (a0.size : Int)) = false := decide_eq_false c4
     clear c4
     (first | rw [c4b0] | (simp only [i64_w, i32_w]; rw [c4b0]) | skip)
     have H' := Aside0.mk H
     clear H
     go_wp2
     repeat (go_quiet (fail); try go_wp2)
     go_meet
     case rel => exact ⟨_, (false), (by first | rfl | (simp; done) | (simp [*]; done)), H', ⟨by have := HK1.out; first | omega | exact Nat.le_refl _⟩, by repeat (first | exact Drawn0.refl _ | apply Drawn0.step)⟩
   case rest =>
    clear HC3
    try clear p2
    try clear c4
    try clear c4b0
    try clear p2
    obtain ⟨kq, x15_2, rfl, HA, HJ2, ⟨mc2, rfl⟩⟩ := hcut
    cases kq with
    | zero => exact absurd HA.out (by simp [lambrequinref01_texts.j1])
    | succ kj2 =>
     have H := HA.out
     clear HA
     simp only [lambrequinref01_texts.j1] at H
     by_cases c5 : x15_2 = true
     ·subst c5
      have H1 : (if 0 ≤ x5_1 then (if x5_1 < (a0.size : Int) then (if x5_1 < (a1.size : Int) then (if (bt a0 x5_1) < (bt a1 x5_1) then (some (-1)) else (if (bt a0 x5_1) > (bt a1 x5_1) then (some 1) else (lambrequinref01_texts.l0 kj2 a0 a1 (wrap64 (x5_1 + 1))))) else (none)) else (none)) else (none)) = some r := by rw [if_pos rfl] at H; exact H
      clear H
      have H := H1
      clear H1
      by_cases c6 : 0 ≤ x5_1
      ·rw [if_pos c6] at H
       have c6b0 : decide (0 ≤ x5_1) = true := decide_eq_true c6
       clear c6
       by_cases c7 : x5_1 < (a0.size : Int)
       ·rw [if_pos c7] at H
        have c7b0 : decide (x5_1 < (a0.size : Int)) = true := decide_eq_true c7
        clear c7
        by_cases c9 : x5_1 < (a1.size : Int)
        ·rw [if_pos c9] at H
         have c9b0 : decide (x5_1 < (a1.size : Int)) = true := decide_eq_true c9
         clear c9
         by_cases c11 : (bt a0 x5_1) < (bt a1 x5_1)
         ·rw [if_pos c11] at H
          have c11b0 : decide ((bt a0 x5_1) < (bt a1 x5_1)) = true := decide_eq_true c11
          clear c11
          obtain rfl := Option.some.inj H
          have p8 : 0 ≤ (x5_1 : Int) := of_decide_eq_true (by first | (with_reducible assumption) | assumption)
          have q8 : x5_1 < (a0.size : Int) := of_decide_eq_true (by first | (with_reducible assumption) | assumption)
          have hx8 := bt_at a0 x5_1
          replace p8 := eq_true p8
          replace q8 := eq_true q8
          have p10 : 0 ≤ (x5_1 : Int) := of_decide_eq_true (by first | (with_reducible assumption) | assumption)
          have q10 : x5_1 < (a1.size : Int) := of_decide_eq_true (by first | (with_reducible assumption) | assumption)
          have hx10 := bt_at a1 x5_1
          replace p10 := eq_true p10
          replace q10 := eq_true q10
          go_wp2
          repeat (go_quiet (fail); try go_wp2)
          go_ret
          exact ⟨by first | rfl | (simp; done) | (simp [*]; done), by repeat (first | exact Drawn0.refl _ | apply Drawn0.step)⟩
         ·rw [if_neg c11] at H
          have c11b0 : decide ((bt a0 x5_1) < (bt a1 x5_1)) = false := decide_eq_false c11
          clear c11
          by_cases c14 : (bt a0 x5_1) > (bt a1 x5_1)
          ·rw [if_pos c14] at H
           have c14b0 : decide ((bt a1 x5_1) < (bt a0 x5_1)) = true := decide_eq_true c14
           clear c14
           obtain rfl := Option.some.inj H
           have p8 : 0 ≤ (x5_1 : Int) := of_decide_eq_true (by first | (with_reducible assumption) | assumption)
           have q8 : x5_1 < (a0.size : Int) := of_decide_eq_true (by first | (with_reducible assumption) | assumption)
           have hx8 := bt_at a0 x5_1
           replace p8 := eq_true p8
           replace q8 := eq_true q8
           have p10 : 0 ≤ (x5_1 : Int) := of_decide_eq_true (by first | (with_reducible assumption) | assumption)
           have q10 : x5_1 < (a1.size : Int) := of_decide_eq_true (by first | (with_reducible assumption) | assumption)
           have hx10 := bt_at a1 x5_1
           replace p10 := eq_true p10
           replace q10 := eq_true q10
           have p12 : 0 ≤ (x5_1 : Int) := of_decide_eq_true (by first | (with_reducible assumption) | assumption)
           have q12 : x5_1 < (a0.size : Int) := of_decide_eq_true (by first | (with_reducible assumption) | assumption)
           have hx12 := bt_at a0 x5_1
           replace p12 := eq_true p12
           replace q12 := eq_true q12
           have p13 : 0 ≤ (x5_1 : Int) := of_decide_eq_true (by first | (with_reducible assumption) | assumption)
           have q13 : x5_1 < (a1.size : Int) := of_decide_eq_true (by first | (with_reducible assumption) | assumption)
           have hx13 := bt_at a1 x5_1
           replace p13 := eq_true p13
           replace q13 := eq_true q13
           go_wp2
           repeat (go_quiet (fail); try go_wp2)
           go_ret
           exact ⟨by first | rfl | (simp; done) | (simp [*]; done), by repeat (first | exact Drawn0.refl _ | apply Drawn0.step)⟩
          ·rw [if_neg c14] at H
           have c14b0 : decide ((bt a1 x5_1) < (bt a0 x5_1)) = false := decide_eq_false c14
           clear c14
           have H' := Aside0.mk H
           clear H
           have p8 : 0 ≤ (x5_1 : Int) := of_decide_eq_true (by first | (with_reducible assumption) | assumption)
           have q8 : x5_1 < (a0.size : Int) := of_decide_eq_true (by first | (with_reducible assumption) | assumption)
           have hx8 := bt_at a0 x5_1
           replace p8 := eq_true p8
           replace q8 := eq_true q8
           have p10 : 0 ≤ (x5_1 : Int) := of_decide_eq_true (by first | (with_reducible assumption) | assumption)
           have q10 : x5_1 < (a1.size : Int) := of_decide_eq_true (by first | (with_reducible assumption) | assumption)
           have hx10 := bt_at a1 x5_1
           replace p10 := eq_true p10
           replace q10 := eq_true q10
           have p12 : 0 ≤ (x5_1 : Int) := of_decide_eq_true (by first | (with_reducible assumption) | assumption)
           have q12 : x5_1 < (a0.size : Int) := of_decide_eq_true (by first | (with_reducible assumption) | assumption)
           have hx12 := bt_at a0 x5_1
           replace p12 := eq_true p12
           replace q12 := eq_true q12
           have p13 : 0 ≤ (x5_1 : Int) := of_decide_eq_true (by first | (with_reducible assumption) | assumption)
           have q13 : x5_1 < (a1.size : Int) := of_decide_eq_true (by first | (with_reducible assumption) | assumption)
           have hx13 := bt_at a1 x5_1
           replace p13 := eq_true p13
           replace q13 := eq_true q13
           go_wp2
           repeat (go_quiet (fail); try go_wp2)
           go_roundg kj2
           case measure => have := HK1.out; have := HJ2.out; omega
           case rel => exact ⟨(wrap64 (x5_1 + 1)), (by first | rfl | (simp; done) | (simp [*]; done)), H', ⟨by have := HK1.out; have := HJ2.out; omega⟩, by repeat (first | exact Drawn0.refl _ | apply Drawn0.step)⟩
        ·rw [if_neg c9] at H
         exact absurd H (by simp)
       ·rw [if_neg c7] at H
        exact absurd H (by simp)
      ·rw [if_neg c6] at H
       exact absurd H (by simp)
     ·replace c5 := Bool.eq_false_iff.mpr c5
      subst c5
      have H1 : (if (a0.size : Int) < (a1.size : Int) then (some (-1)) else (if (a0.size : Int) > (a1.size : Int) then (some 1) else (some 0))) = some r := by rw [if_neg (show ¬ (false = true) by decide)] at H; exact H
      clear H
      have H := H1
      clear H1
      by_cases c15 : (a0.size : Int) < (a1.size : Int)
      ·rw [if_pos c15] at H
       have c15b0 : decide ((a0.size : Int) < (a1.size : Int)) = true := decide_eq_true c15
       have c15b1 : decide (a0.size < a1.size) = true := decide_eq_true (Int.ofNat_lt.mp c15)
       clear c15
       obtain rfl := Option.some.inj H
       go_wp2
       repeat (go_quiet (fail); try go_wp2)
       go_ret
       exact ⟨by first | rfl | (simp; done) | (simp [*]; done), by repeat (first | exact Drawn0.refl _ | apply Drawn0.step)⟩
      ·rw [if_neg c15] at H
       have c15b0 : decide ((a0.size : Int) < (a1.size : Int)) = false := decide_eq_false c15
       have c15b1 : decide (a0.size < a1.size) = false := decide_eq_false (fun h => c15 (Int.ofNat_lt.mpr h))
       clear c15
       by_cases c16 : (a0.size : Int) > (a1.size : Int)
       ·rw [if_pos c16] at H
        have c16b0 : decide ((a1.size : Int) < (a0.size : Int)) = true := decide_eq_true c16
        have c16b1 : decide (a1.size < a0.size) = true := decide_eq_true (Int.ofNat_lt.mp c16)
        clear c16
        obtain rfl := Option.some.inj H
        go_wp2
        repeat (go_quiet (fail); try go_wp2)
        go_ret
        exact ⟨by first | rfl | (simp; done) | (simp [*]; done), by repeat (first | exact Drawn0.refl _ | apply Drawn0.step)⟩
       ·rw [if_neg c16] at H
        have c16b0 : decide ((a1.size : Int) < (a0.size : Int)) = false := decide_eq_false c16
        have c16b1 : decide (a1.size < a0.size) = false := decide_eq_false (fun h => c16 (Int.ofNat_lt.mpr h))
        clear c16
        obtain rfl := Option.some.inj H
        go_wp2
        repeat (go_quiet (fail); try go_wp2)
        go_ret
        exact ⟨by first | rfl | (simp; done) | (simp [*]; done), by repeat (first | exact Drawn0.refl _ | apply Drawn0.step)⟩
def lambrequinref01_Compare.f (k : Nat) (a0_0 : Bool) (a0_1 : ByteArray) (a0_2 : Int) (a1_0 : Bool) (a1_1 : ByteArray) (a1_2 : Int) : Option (Int) := if (a0_0 != a1_0) = true then (if a1_0 = true then (some (-1)) else (some 1)) else (if a0_0 = true then ((lambrequinref01_texts.f k a0_1 a1_1).bind fun t103 => (some t103)) else (if a0_2 < a1_2 then (some (-1)) else (if a0_2 > a1_2 then (some 1) else (some 0))))
theorem lambrequinref01_Compare.mono : ∀ a0 a1 a2 a3 a4 a5 k, LeO (lambrequinref01_Compare.f k a0 a1 a2 a3 a4 a5) (lambrequinref01_Compare.f (k + 1) a0 a1 a2 a3 a4 a5) := by
 intro a0 a1 a2 a3 a4 a5 k
 unfold lambrequinref01_Compare.f
 repeat' first
   | (with_reducible exact lambrequinref01_texts.mono _ _ _)
   | (with_reducible exact LeO.refl _)
   | (with_reducible exact LeO.none _)
   | (with_reducible refine LeO.ite ?_ ?_)
   | (with_reducible refine LeO.bind ?_ (fun _ => ?_))
   | exact lambrequinref01_texts.mono _ _ _
   | exact LeO.none _
   | refine LeO.ite ?_ ?_
   | refine LeO.bind ?_ (fun _ => ?_)
set_option maxHeartbeats 8000000 in
set_option maxRecDepth 100000 in
theorem lambrequinref01_Compare.calls (k : Nat) (a0_0 : Bool) (a0_1 : ByteArray) (a0_2 : Int) (a1_0 : Bool) (a1_1 : ByteArray) (a1_2 : Int) (r : Int) (w : World) (h : lambrequinref01_Compare.f k a0_0 a0_1 a0_2 a1_0 a1_1 a1_2 = some r) :
  Calls Try.prog 29 #[.agg #[.bool a0_0, .string a0_1, .int .i64 a0_2], .agg #[.bool a1_0, .string a1_1, .int .i64 a1_2]] w fun e w' => e = .returned (.int .i64 r) ∧ Below w.heap.size w w' := by
 have hu28 := Try.underlying28
 have HB := am (Below.refl w.heap.size w)
 have H : (if (a0_0 != a1_0) = true then (if a1_0 = true then (some (-1)) else (some 1)) else (if a0_0 = true then ((lambrequinref01_texts.f k a0_1 a1_1).bind fun t103 => (some t103)) else (if a0_2 < a1_2 then (some (-1)) else (if a0_2 > a1_2 then (some 1) else (some 0))))) = some r := h
 clear h
 by_cases c3 : (a0_0 != a1_0) = true
 ·rw [if_pos c3] at H
  have c3b0 : (a0_0 != a1_0) = true := c3
  (try (have c3b1 : decide (a0_0 = a1_0) = false := by simpa using c3))
  (try (have c3b2 : (a0_0 == a1_0) = false := by simpa using c3))
  (try (have c3b3 : ¬ (a0_0 = a1_0) := by simpa using c3))
  clear c3
  by_cases c4 : a1_0 = true
  ·subst c4
   have H1 : (some (-1)) = some r := by rw [if_pos rfl] at H; exact H
   clear H
   have H := H1
   clear H1
   obtain rfl := Option.some.inj H
   go_enter Try.func29, Try.ntmps29
   go_wp2_with (first | ((with_reducible refine gate_dst (N := 2) rfl ?_); refine box_event ?hg (N := 2) ?hd (cs := #[.bool a0_0, .string a0_1, .int .i64 a0_2]) (t := 28) ?hr ?_; (case hd => rfl); (case hg => rfl); (case hr => first | (go_simp; done) | (go_simp; rfl)); intro gb101 hg w5 hbox hb; have BK101 := am (hbox); have GW101 := am (gw_ hg HB.out); have GE101 := GW101; replace HB := am (bs_ HB.out hb); clear hb hbox hg) | ((with_reducible refine gate_dst (N := 3) rfl ?_); refine box_event ?hg (N := 3) ?hd (cs := #[.bool true, .string a1_1, .int .i64 a1_2]) (t := 28) ?hr ?_; (case hd => rfl); (case hg => rfl); (case hr => first | (go_simp; done) | (go_simp; rfl)); intro gb102 hg w6 hbox hb; have BK102 := am (hbox); have GW102 := am (gw_ hg HB.out); have GE102 := GW102; replace HB := am (bs_ HB.out hb); have NB101_102 := am (nb_ hg BK101.out); have NB102_101 := am NB101_102.out.symm; replace BK101 := am (bb_ BK101.out hb); clear hb hbox hg; have hnb7 := NB101_102.out; have hnc7 := NB102_101.out; obtain ⟨hcz8_0, hcz8_1, hcz8_2, hfz8_0, hfz8_1, hfz8_2⟩ := bc3 BK101.out; obtain ⟨hcz9_0, hcz9_1, hcz9_2, hfz9_0, hfz9_1, hfz9_2⟩ := bc3 BK102.out))
   go_ret
   exact ⟨by first | rfl | (simp [errW_none, errW_some] <;> rfl) | (simp [*, errW_none, errW_some] <;> rfl), pL HB.out⟩
  ·replace c4 := Bool.eq_false_iff.mpr c4
   subst c4
   have H1 : (some 1) = some r := by rw [if_neg (show ¬ (false = true) by decide)] at H; exact H
   clear H
   have H := H1
   clear H1
   obtain rfl := Option.some.inj H
   go_enter Try.func29, Try.ntmps29
   go_wp2_with (first | ((with_reducible refine gate_dst (N := 2) rfl ?_); refine box_event ?hg (N := 2) ?hd (cs := #[.bool a0_0, .string a0_1, .int .i64 a0_2]) (t := 28) ?hr ?_; (case hd => rfl); (case hg => rfl); (case hr => first | (go_simp; done) | (go_simp; rfl)); intro gb101 hg w10 hbox hb; have BK101 := am (hbox); have GW101 := am (gw_ hg HB.out); have GE101 := GW101; replace HB := am (bs_ HB.out hb); clear hb hbox hg) | ((with_reducible refine gate_dst (N := 3) rfl ?_); refine box_event ?hg (N := 3) ?hd (cs := #[.bool false, .string a1_1, .int .i64 a1_2]) (t := 28) ?hr ?_; (case hd => rfl); (case hg => rfl); (case hr => first | (go_simp; done) | (go_simp; rfl)); intro gb102 hg w11 hbox hb; have BK102 := am (hbox); have GW102 := am (gw_ hg HB.out); have GE102 := GW102; replace HB := am (bs_ HB.out hb); have NB101_102 := am (nb_ hg BK101.out); have NB102_101 := am NB101_102.out.symm; replace BK101 := am (bb_ BK101.out hb); clear hb hbox hg; have hnb12 := NB101_102.out; have hnc12 := NB102_101.out; obtain ⟨hcz13_0, hcz13_1, hcz13_2, hfz13_0, hfz13_1, hfz13_2⟩ := bc3 BK101.out; obtain ⟨hcz14_0, hcz14_1, hcz14_2, hfz14_0, hfz14_1, hfz14_2⟩ := bc3 BK102.out))
   go_ret
   exact ⟨by first | rfl | (simp [errW_none, errW_some] <;> rfl) | (simp [*, errW_none, errW_some] <;> rfl), pL HB.out⟩
 ·rw [if_neg c3] at H
  have c3b0 : (a0_0 != a1_0) = false := by simpa using c3
  (try (have c3b1 : decide (a0_0 = a1_0) = true := by simpa using c3))
  (try (have c3b2 : (a0_0 == a1_0) = true := by simpa using c3))
  clear c3
  by_cases c15 : a0_0 = true
  ·subst c15
   have H1 : ((lambrequinref01_texts.f k a0_1 a1_1).bind fun t103 => (some t103)) = some r := by rw [if_pos rfl] at H; exact H
   clear H
   have H := H1
   clear H1
   replace H := Option.bind_eq_some_iff.mp H
   obtain ⟨t103, A160, H⟩ := H
   replace H : (some t103) = some r := H
   have A16 := am A160
   clear A160
   obtain rfl := Option.some.inj H
   go_enter Try.func29, Try.ntmps29
   go_wp2_with (first | ((with_reducible refine gate_dst (N := 2) rfl ?_); refine box_event ?hg (N := 2) ?hd (cs := #[.bool true, .string a0_1, .int .i64 a0_2]) (t := 28) ?hr ?_; (case hd => rfl); (case hg => rfl); (case hr => first | (go_simp; done) | (go_simp; rfl)); intro gb101 hg w17 hbox hb; have BK101 := am (hbox); have GW101 := am (gw_ hg HB.out); have GE101 := GW101; replace HB := am (bs_ HB.out hb); clear hb hbox hg) | ((with_reducible refine gate_dst (N := 3) rfl ?_); refine box_event ?hg (N := 3) ?hd (cs := #[.bool a1_0, .string a1_1, .int .i64 a1_2]) (t := 28) ?hr ?_; (case hd => rfl); (case hg => rfl); (case hr => first | (go_simp; done) | (go_simp; rfl)); intro gb102 hg w18 hbox hb; have BK102 := am (hbox); have GW102 := am (gw_ hg HB.out); have GE102 := GW102; replace HB := am (bs_ HB.out hb); have NB101_102 := am (nb_ hg BK101.out); have NB102_101 := am NB101_102.out.symm; replace BK101 := am (bb_ BK101.out hb); clear hb hbox hg; have hnb19 := NB101_102.out; have hnc19 := NB102_101.out; obtain ⟨hcz20_0, hcz20_1, hcz20_2, hfz20_0, hfz20_1, hfz20_2⟩ := bc3 BK101.out; obtain ⟨hcz21_0, hcz21_1, hcz21_2, hfz21_0, hfz21_1, hfz21_2⟩ := bc3 BK102.out) | ((with_reducible refine gate_callee (f := 48) rfl ?_); refine goesL_ (some 18) rfl rfl Try.func48 (by kernel_rfl) rfl #[.string a0_1, .string a1_1] rfl (by (try simp only [List.map_toArray, List.map_cons, List.map_nil]); first | done | rfl | (simp only [List.length_drop, List.length_take]; rfl)) ?_; (with_reducible refine (lambrequinref01_texts.calls k a0_1 a1_1 t103 _ A16.out).mono ?_); rintro e w' ⟨rfl, ⟨nd, rfl⟩⟩; refine ⟨_, rfl, ?_⟩))
   go_ret
   exact ⟨by first | rfl | (simp [errW_none, errW_some] <;> rfl) | (simp [*, errW_none, errW_some] <;> rfl), pL HB.out⟩
  ·replace c15 := Bool.eq_false_iff.mpr c15
   subst c15
   have H1 : (if a0_2 < a1_2 then (some (-1)) else (if a0_2 > a1_2 then (some 1) else (some 0))) = some r := by rw [if_neg (show ¬ (false = true) by decide)] at H; exact H
   clear H
   have H := H1
   clear H1
   by_cases c22 : a0_2 < a1_2
   ·rw [if_pos c22] at H
    have c22b0 : decide (a0_2 < a1_2) = true := decide_eq_true c22
    clear c22
    obtain rfl := Option.some.inj H
    go_enter Try.func29, Try.ntmps29
    go_wp2_with (first | ((with_reducible refine gate_dst (N := 2) rfl ?_); refine box_event ?hg (N := 2) ?hd (cs := #[.bool false, .string a0_1, .int .i64 a0_2]) (t := 28) ?hr ?_; (case hd => rfl); (case hg => rfl); (case hr => first | (go_simp; done) | (go_simp; rfl)); intro gb101 hg w23 hbox hb; have BK101 := am (hbox); have GW101 := am (gw_ hg HB.out); have GE101 := GW101; replace HB := am (bs_ HB.out hb); clear hb hbox hg) | ((with_reducible refine gate_dst (N := 3) rfl ?_); refine box_event ?hg (N := 3) ?hd (cs := #[.bool a1_0, .string a1_1, .int .i64 a1_2]) (t := 28) ?hr ?_; (case hd => rfl); (case hg => rfl); (case hr => first | (go_simp; done) | (go_simp; rfl)); intro gb102 hg w24 hbox hb; have BK102 := am (hbox); have GW102 := am (gw_ hg HB.out); have GE102 := GW102; replace HB := am (bs_ HB.out hb); have NB101_102 := am (nb_ hg BK101.out); have NB102_101 := am NB101_102.out.symm; replace BK101 := am (bb_ BK101.out hb); clear hb hbox hg; have hnb25 := NB101_102.out; have hnc25 := NB102_101.out; obtain ⟨hcz26_0, hcz26_1, hcz26_2, hfz26_0, hfz26_1, hfz26_2⟩ := bc3 BK101.out; obtain ⟨hcz27_0, hcz27_1, hcz27_2, hfz27_0, hfz27_1, hfz27_2⟩ := bc3 BK102.out))
    go_ret
    exact ⟨by first | rfl | (simp [errW_none, errW_some] <;> rfl) | (simp [*, errW_none, errW_some] <;> rfl), pL HB.out⟩
   ·rw [if_neg c22] at H
    have c22b0 : decide (a0_2 < a1_2) = false := decide_eq_false c22
    clear c22
    by_cases c28 : a0_2 > a1_2
    ·rw [if_pos c28] at H
     have c28b0 : decide (a1_2 < a0_2) = true := decide_eq_true c28
     clear c28
     obtain rfl := Option.some.inj H
     go_enter Try.func29, Try.ntmps29
     go_wp2_with (first | ((with_reducible refine gate_dst (N := 2) rfl ?_); refine box_event ?hg (N := 2) ?hd (cs := #[.bool false, .string a0_1, .int .i64 a0_2]) (t := 28) ?hr ?_; (case hd => rfl); (case hg => rfl); (case hr => first | (go_simp; done) | (go_simp; rfl)); intro gb101 hg w29 hbox hb; have BK101 := am (hbox); have GW101 := am (gw_ hg HB.out); have GE101 := GW101; replace HB := am (bs_ HB.out hb); clear hb hbox hg) | ((with_reducible refine gate_dst (N := 3) rfl ?_); refine box_event ?hg (N := 3) ?hd (cs := #[.bool a1_0, .string a1_1, .int .i64 a1_2]) (t := 28) ?hr ?_; (case hd => rfl); (case hg => rfl); (case hr => first | (go_simp; done) | (go_simp; rfl)); intro gb102 hg w30 hbox hb; have BK102 := am (hbox); have GW102 := am (gw_ hg HB.out); have GE102 := GW102; replace HB := am (bs_ HB.out hb); have NB101_102 := am (nb_ hg BK101.out); have NB102_101 := am NB101_102.out.symm; replace BK101 := am (bb_ BK101.out hb); clear hb hbox hg; have hnb31 := NB101_102.out; have hnc31 := NB102_101.out; obtain ⟨hcz32_0, hcz32_1, hcz32_2, hfz32_0, hfz32_1, hfz32_2⟩ := bc3 BK101.out; obtain ⟨hcz33_0, hcz33_1, hcz33_2, hfz33_0, hfz33_1, hfz33_2⟩ := bc3 BK102.out))
     go_ret
     exact ⟨by first | rfl | (simp [errW_none, errW_some] <;> rfl) | (simp [*, errW_none, errW_some] <;> rfl), pL HB.out⟩
    ·rw [if_neg c28] at H
     have c28b0 : decide (a1_2 < a0_2) = false := decide_eq_false c28
     clear c28
     obtain rfl := Option.some.inj H
     go_enter Try.func29, Try.ntmps29
     go_wp2_with (first | ((with_reducible refine gate_dst (N := 2) rfl ?_); refine box_event ?hg (N := 2) ?hd (cs := #[.bool false, .string a0_1, .int .i64 a0_2]) (t := 28) ?hr ?_; (case hd => rfl); (case hg => rfl); (case hr => first | (go_simp; done) | (go_simp; rfl)); intro gb101 hg w34 hbox hb; have BK101 := am (hbox); have GW101 := am (gw_ hg HB.out); have GE101 := GW101; replace HB := am (bs_ HB.out hb); clear hb hbox hg) | ((with_reducible refine gate_dst (N := 3) rfl ?_); refine box_event ?hg (N := 3) ?hd (cs := #[.bool a1_0, .string a1_1, .int .i64 a1_2]) (t := 28) ?hr ?_; (case hd => rfl); (case hg => rfl); (case hr => first | (go_simp; done) | (go_simp; rfl)); intro gb102 hg w35 hbox hb; have BK102 := am (hbox); have GW102 := am (gw_ hg HB.out); have GE102 := GW102; replace HB := am (bs_ HB.out hb); have NB101_102 := am (nb_ hg BK101.out); have NB102_101 := am NB101_102.out.symm; replace BK101 := am (bb_ BK101.out hb); clear hb hbox hg; have hnb36 := NB101_102.out; have hnc36 := NB102_101.out; obtain ⟨hcz37_0, hcz37_1, hcz37_2, hfz37_0, hfz37_1, hfz37_2⟩ := bc3 BK101.out; obtain ⟨hcz38_0, hcz38_1, hcz38_2, hfz38_0, hfz38_1, hfz38_2⟩ := bc3 BK102.out))
     go_ret
     exact ⟨by first | rfl | (simp [errW_none, errW_some] <;> rfl) | (simp [*, errW_none, errW_some] <;> rfl), pL HB.out⟩
def lambrequinref01_Same.f (k : Nat) (a0_0 : Bool) (a0_1 : ByteArray) (a0_2 : Int) (a1_0 : Bool) (a1_1 : ByteArray) (a1_2 : Int) : Option (Bool) := (lambrequinref01_Compare.f k a0_0 a0_1 a0_2 a1_0 a1_1 a1_2).bind fun t103 => (some (t103 == 0))
theorem lambrequinref01_Same.mono : ∀ a0 a1 a2 a3 a4 a5 k, LeO (lambrequinref01_Same.f k a0 a1 a2 a3 a4 a5) (lambrequinref01_Same.f (k + 1) a0 a1 a2 a3 a4 a5) := by
 intro a0 a1 a2 a3 a4 a5 k
 unfold lambrequinref01_Same.f
 repeat' first
   | (with_reducible exact lambrequinref01_Compare.mono _ _ _ _ _ _ _)
   | (with_reducible exact LeO.refl _)
   | (with_reducible exact LeO.none _)
   | (with_reducible refine LeO.ite ?_ ?_)
   | (with_reducible refine LeO.bind ?_ (fun _ => ?_))
   | exact lambrequinref01_Compare.mono _ _ _ _ _ _ _
   | exact LeO.none _
   | refine LeO.ite ?_ ?_
   | refine LeO.bind ?_ (fun _ => ?_)
set_option maxHeartbeats 8000000 in
set_option maxRecDepth 100000 in
theorem lambrequinref01_Same.calls (k : Nat) (a0_0 : Bool) (a0_1 : ByteArray) (a0_2 : Int) (a1_0 : Bool) (a1_1 : ByteArray) (a1_2 : Int) (r : Bool) (w : World) (h : lambrequinref01_Same.f k a0_0 a0_1 a0_2 a1_0 a1_1 a1_2 = some r) :
  Calls Try.prog 49 #[.agg #[.bool a0_0, .string a0_1, .int .i64 a0_2], .agg #[.bool a1_0, .string a1_1, .int .i64 a1_2]] w fun e w' => e = .returned (.bool r) ∧ Below w.heap.size w w' := by
 have hu28 := Try.underlying28
 have HB := Aside0.mk (Below.refl w.heap.size w)
 have H : ((lambrequinref01_Compare.f k a0_0 a0_1 a0_2 a1_0 a1_1 a1_2).bind fun t103 => (some (t103 == 0))) = some r := h
 clear h
 replace H := Option.bind_eq_some_iff.mp H
 obtain ⟨t103, A30, H⟩ := H
 replace H : (some (t103 == 0)) = some r := H
 have A3 := Aside0.mk A30
 clear A30
 obtain rfl := Option.some.inj H
 go_enter Try.func49, Try.ntmps49
 go_wp2_with (first | ((with_reducible refine gate_dst (N := 2) rfl ?_); refine box_event ?hg (N := 2) ?hd (cs := #[.bool a0_0, .string a0_1, .int .i64 a0_2]) (t := 28) ?hr ?_; (case hd => rfl); (case hg => rfl); (case hr => first | (go_simp; done) | (go_simp; rfl)); intro gb101 hg w4 hbox hb; have n0_ := Aside0.mk (below_step (by repeat (first | (with_reducible first | exact HB.out | apply below_alloc | apply pw_below_drewN | apply below_drew1) | exact HB.out)) hb); have n1_ := Aside0.mk (hbox); have n2_ := Aside0.mk ((by rw [hg]; exact (below_size (by repeat (first | (with_reducible first | exact HB.out | apply below_alloc | apply pw_below_drewN | apply below_drew1) | exact HB.out))) : w.heap.size ≤ gb101)); have n3_ := Aside0.mk ((by rw [hg]; exact (below_size (by repeat (first | (with_reducible first | exact HB.out | apply below_alloc | apply pw_below_drewN | apply below_drew1) | exact HB.out))) : w.heap.size ≤ gb101)); clear HB; have HB := n0_; have BK101 := n1_; have GW101 := n2_; have GE101 := n3_; clear n0_ n1_ n2_ n3_; clear hb hbox hg) | ((with_reducible refine gate_dst (N := 3) rfl ?_); refine box_event ?hg (N := 3) ?hd (cs := #[.bool a1_0, .string a1_1, .int .i64 a1_2]) (t := 28) ?hr ?_; (case hd => rfl); (case hg => rfl); (case hr => first | (go_simp; done) | (go_simp; rfl)); intro gb102 hg w5 hbox hb; have n0_ := Aside0.mk (blk_below (g := gb101) (o := .cells #[.bool a0_0, .string a0_1, .int .i64 a0_2] 28 (0, 0)) (by (with_reducible repeat (first | refine blk_drewN ?_ _ | refine blk_drew ?_ | refine blk_alloc ?_ _)); exact BK101.out) hb); have n1_ := Aside0.mk (below_step (by repeat (first | (with_reducible first | exact HB.out | apply below_alloc | apply pw_below_drewN | apply below_drew1 | refine below_set ?_ GE101.out) | exact HB.out)) hb); have n2_ := Aside0.mk (hbox); have n3_ := Aside0.mk ((by rw [hg]; exact (below_size (by repeat (first | (with_reducible first | exact HB.out | apply below_alloc | apply pw_below_drewN | apply below_drew1 | refine below_set ?_ GE101.out) | exact HB.out))) : w.heap.size ≤ gb102)); have n4_ := Aside0.mk ((by rw [hg]; exact (below_size (by repeat (first | (with_reducible first | exact HB.out | apply below_alloc | apply pw_below_drewN | apply below_drew1 | refine below_set ?_ GE101.out) | exact HB.out))) : w.heap.size ≤ gb102)); have n5_ := Aside0.mk ((by rw [hg]; exact Nat.ne_of_lt (blk_lt (g := gb101) (o := .cells #[.bool a0_0, .string a0_1, .int .i64 a0_2] 28 (0, 0)) (by (with_reducible repeat (first | refine blk_drewN ?_ _ | refine blk_drew ?_ | refine blk_alloc ?_ _)); exact BK101.out)) : gb101 ≠ gb102)); have n6_ := Aside0.mk ((by rw [hg]; exact Nat.ne_of_gt (blk_lt (g := gb101) (o := .cells #[.bool a0_0, .string a0_1, .int .i64 a0_2] 28 (0, 0)) (by (with_reducible repeat (first | refine blk_drewN ?_ _ | refine blk_drew ?_ | refine blk_alloc ?_ _)); exact BK101.out)) : gb102 ≠ gb101)); clear BK101; clear HB; have BK101 := n0_; have HB := n1_; have BK102 := n2_; have GW102 := n3_; have GE102 := n4_; have NB101_102 := n5_; have NB102_101 := n6_; clear n0_ n1_ n2_ n3_ n4_ n5_ n6_; clear hb hbox hg; have hnb6 := NB101_102.out; have hnc6 := NB102_101.out; have hcz7_0 : w5.cell? ⟨gb101, 0, none⟩ = some (.bool a0_0) := (blk_cell BK101.out 0).trans rfl; have hcz7_1 : w5.cell? ⟨gb101, 1, none⟩ = some (.string a0_1) := (blk_cell BK101.out 1).trans rfl; have hcz7_2 : w5.cell? ⟨gb101, 2, none⟩ = some (.int .i64 a0_2) := (blk_cell BK101.out 2).trans rfl; have hfz7_0 := blk_frozen BK101.out 0; have hfz7_1 := blk_frozen BK101.out 1; have hfz7_2 := blk_frozen BK101.out 2; have hcz8_0 : w5.cell? ⟨gb102, 0, none⟩ = some (.bool a1_0) := (blk_cell BK102.out 0).trans rfl; have hcz8_1 : w5.cell? ⟨gb102, 1, none⟩ = some (.string a1_1) := (blk_cell BK102.out 1).trans rfl; have hcz8_2 : w5.cell? ⟨gb102, 2, none⟩ = some (.int .i64 a1_2) := (blk_cell BK102.out 2).trans rfl; have hfz8_0 := blk_frozen BK102.out 0; have hfz8_1 := blk_frozen BK102.out 1; have hfz8_2 := blk_frozen BK102.out 2) | ((with_reducible refine gate_callee (f := 29) rfl ?_); refine goesL_ (some 7) rfl rfl Try.func29 (by kernel_rfl) rfl #[.agg #[.bool a0_0, .string a0_1, .int .i64 a0_2], .agg #[.bool a1_0, .string a1_1, .int .i64 a1_2]] rfl (by (try simp only [List.map_toArray, List.map_cons, List.map_nil]); first | done | rfl | (simp only [List.length_drop, List.length_take]; rfl)) ?_; (with_reducible refine (lambrequinref01_Compare.calls k a0_0 a0_1 a0_2 a1_0 a1_1 a1_2 t103 _ A3.out).mono ?_); rintro e w9 ⟨rfl, hb⟩; refine ⟨_, rfl, ?_⟩; have n0_ := Aside0.mk (blk_below (g := gb101) (o := .cells #[.bool a0_0, .string a0_1, .int .i64 a0_2] 28 (0, 0)) (by (with_reducible repeat (first | refine blk_drewN ?_ _ | refine blk_drew ?_ | refine blk_alloc ?_ _)); exact BK101.out) hb); have n1_ := Aside0.mk (blk_below (g := gb102) (o := .cells #[.bool a1_0, .string a1_1, .int .i64 a1_2] 28 (0, 0)) (by (with_reducible repeat (first | refine blk_drewN ?_ _ | refine blk_drew ?_ | refine blk_alloc ?_ _)); exact BK102.out) hb); have n2_ := Aside0.mk (below_step (by repeat (first | (with_reducible first | exact HB.out | apply below_alloc | apply pw_below_drewN | apply below_drew1 | refine below_set ?_ GE101.out | refine below_set ?_ GE102.out) | exact HB.out)) hb); clear BK101; clear BK102; clear HB; have BK101 := n0_; have BK102 := n1_; have HB := n2_; clear n0_ n1_ n2_; (try clear hb); (try clear hb2); (try clear hk); (try clear hi)))
 go_ret
 exact ⟨by first | rfl | (simp [errW_none, errW_some] <;> rfl) | (simp [*, errW_none, errW_some] <;> rfl), by repeat (first | (with_reducible first | exact HB.out | apply below_alloc | apply pw_below_drewN | apply below_drew1 | refine below_set ?_ GE101.out | refine below_set ?_ GE102.out) | exact HB.out)⟩
mutual
def lambrequinref03_Compare.l0 : Nat → List (Val) → List (Val) → Int → Option (Int)
 | 0, _, _, _ => none
 | k + 1, x0, x1, x5 => if x5 < (x0.length : Int) then (lambrequinref03_Compare.j1 k x0 x1 x5 (decide (x5 < (x1.length : Int)))) else (lambrequinref03_Compare.j1 k x0 x1 x5 false)
def lambrequinref03_Compare.j1 : Nat → List (Val) → List (Val) → Int → Bool → Option (Int)
 | 0, _, _, _, _ => none
 | k + 1, x0, x1, x5, x15 => if x15 = true then (if 0 ≤ x5 then (if x5 < (x0.length : Int) then (if x5 < (x1.length : Int) then ((lambrequinref01_Same.f k ((rd_T28 x0 x5).isSym) ((rd_T28 x0 x5).sym) ((rd_T28 x0 x5).n) ((rd_T28 x1 x5).isSym) ((rd_T28 x1 x5).sym) ((rd_T28 x1 x5).n)).bind fun t103 => (if t103 = true then (lambrequinref03_Compare.l0 k x0 x1 (wrap64 (x5 + 1))) else ((lambrequinref01_Compare.f k ((rd_T28 x0 x5).isSym) ((rd_T28 x0 x5).sym) ((rd_T28 x0 x5).n) ((rd_T28 x1 x5).isSym) ((rd_T28 x1 x5).sym) ((rd_T28 x1 x5).n)).bind fun t106 => (some t106)))) else (none)) else (none)) else (none)) else (if (x0.length : Int) < (x1.length : Int) then (some (-1)) else (if (x0.length : Int) > (x1.length : Int) then (some 1) else (some 0)))
end
def lambrequinref03_Compare.f (k : Nat) (l0 : List (Val)) (l1 : List (Val)) : Option (Int) := lambrequinref03_Compare.l0 k l0 l1 0
theorem lambrequinref03_Compare.mono_l : ∀ k, (∀ y0 y1 y2, LeO (lambrequinref03_Compare.l0 k y0 y1 y2) (lambrequinref03_Compare.l0 (k + 1) y0 y1 y2)) ∧ (∀ y0 y1 y2 y3, LeO (lambrequinref03_Compare.j1 k y0 y1 y2 y3) (lambrequinref03_Compare.j1 (k + 1) y0 y1 y2 y3))
 | 0 => ⟨fun _ _ _ r h => by simp [lambrequinref03_Compare.l0] at h, fun _ _ _ _ r h => by simp [lambrequinref03_Compare.j1] at h⟩
 | k + 1 => by
  obtain ⟨ih0, ih1⟩ := lambrequinref03_Compare.mono_l k
  refine ⟨?_, ?_⟩
  ·intro y0 y1 y2
   unfold lambrequinref03_Compare.l0
   repeat' first
   | (with_reducible exact ih0 _ _ _)
   | (with_reducible exact ih1 _ _ _ _)
   | (with_reducible exact lambrequinref01_Compare.mono _ _ _ _ _ _ _)
   | (with_reducible exact lambrequinref01_Same.mono _ _ _ _ _ _ _)
   | (with_reducible exact LeO.refl _)
   | (with_reducible exact LeO.none _)
   | (with_reducible refine LeO.ite ?_ ?_)
   | (with_reducible refine LeO.bind ?_ (fun _ => ?_))
   | exact ih0 _ _ _
   | exact ih1 _ _ _ _
   | exact lambrequinref01_Compare.mono _ _ _ _ _ _ _
   | exact lambrequinref01_Same.mono _ _ _ _ _ _ _
   | exact LeO.none _
   | refine LeO.ite ?_ ?_
   | refine LeO.bind ?_ (fun _ => ?_)
  ·intro y0 y1 y2 y3
   unfold lambrequinref03_Compare.j1
   repeat' first
   | (with_reducible exact ih0 _ _ _)
   | (with_reducible exact ih1 _ _ _ _)
   | (with_reducible exact lambrequinref01_Compare.mono _ _ _ _ _ _ _)
   | (with_reducible exact lambrequinref01_Same.mono _ _ _ _ _ _ _)
   | (with_reducible exact LeO.refl _)
   | (with_reducible exact LeO.none _)
   | (with_reducible refine LeO.ite ?_ ?_)
   | (with_reducible refine LeO.bind ?_ (fun _ => ?_))
   | exact ih0 _ _ _
   | exact ih1 _ _ _ _
   | exact lambrequinref01_Compare.mono _ _ _ _ _ _ _
   | exact lambrequinref01_Same.mono _ _ _ _ _ _ _
   | exact LeO.none _
   | refine LeO.ite ?_ ?_
   | refine LeO.bind ?_ (fun _ => ?_)
theorem lambrequinref03_Compare.mono : ∀ a0 a1 k, LeO (lambrequinref03_Compare.f k a0 a1) (lambrequinref03_Compare.f (k + 1) a0 a1) := by
 intro a0 a1 k
 obtain ⟨ih0, ih1⟩ := lambrequinref03_Compare.mono_l k
 unfold lambrequinref03_Compare.f
 repeat' first
   | (with_reducible exact ih0 _ _ _)
   | (with_reducible exact ih1 _ _ _ _)
   | (with_reducible exact lambrequinref01_Compare.mono _ _ _ _ _ _ _)
   | (with_reducible exact lambrequinref01_Same.mono _ _ _ _ _ _ _)
   | (with_reducible exact LeO.refl _)
   | (with_reducible exact LeO.none _)
   | (with_reducible refine LeO.ite ?_ ?_)
   | (with_reducible refine LeO.bind ?_ (fun _ => ?_))
   | exact ih0 _ _ _
   | exact ih1 _ _ _ _
   | exact lambrequinref01_Compare.mono _ _ _ _ _ _ _
   | exact lambrequinref01_Same.mono _ _ _ _ _ _ _
   | exact LeO.none _
   | refine LeO.ite ?_ ?_
   | refine LeO.bind ?_ (fun _ => ?_)
def lambrequinref03_Compare.T4 : Bool × List (List Nat × List Nat) := (true, [([], []), ([], []), ([0, 1], [0, 1]), ([2], [2]), ([], []), ([], []), ([4, 5], [4, 5]), ([6], [6]), ([3, 7], [3, 7]), ([8], [8])])
def lambrequinref03_Compare.B4 : List Nat := [0, 0, 3, 7, 0, 0, 48, 112, 255, 511]
theorem lambrequinref03_Compare.tab4 : rtab .any (opsOf Try.f30 4) = lambrequinref03_Compare.T4 := by kernel_rfl
theorem lambrequinref03_Compare.bits4 : waitsOk lambrequinref03_Compare.T4.2 lambrequinref03_Compare.B4 = true := by kernel_rfl
def lambrequinref03_Compare.T5 : Bool × List (List Nat × List Nat) := (true, [([], []), ([], []), ([0, 1], [0, 1]), ([2], [2]), ([], []), ([], []), ([4, 5], [4, 5]), ([6], [6]), ([3, 7], [3, 7]), ([8, 8, 0, 1, 2, 3, 4, 5, 6, 7, 8], [8])])
def lambrequinref03_Compare.B5 : List Nat := [0, 0, 3, 7, 0, 0, 48, 112, 255, 511]
theorem lambrequinref03_Compare.tab5 : rtab .any (opsOf Try.f30 5) = lambrequinref03_Compare.T5 := by kernel_rfl
theorem lambrequinref03_Compare.bits5 : waitsOk lambrequinref03_Compare.T5.2 lambrequinref03_Compare.B5 = true := by kernel_rfl
set_option maxHeartbeats 8000000 in
set_option maxRecDepth 100000 in
theorem lambrequinref03_Compare.calls (k : Nat) (A0 : Option Addr) (c0 : Nat) (l0 : List (Val)) (A1 : Option Addr) (c1 : Nat) (l1 : List (Val)) (r : Int) (w : World) (hr0 : Kd.C k28 w A0 l0.length l0) (hc0 : l0.length ≤ c0) (hr1 : Kd.C k28 w A1 l1.length l1) (hc1 : l1.length ≤ c1) (h : lambrequinref03_Compare.f k l0 l1 = some r) :
  Calls Try.prog 30 #[.slice A0 l0.length c0, .slice A1 l1.length c1] w fun e w' => e = .returned (.int .i64 r) ∧ Below w.heap.size w w' := by
 have hu28 := Try.underlying28
 have HR0 := am hr0
 have HC0 := am hc0
 clear hr0 hc0
 have HR1 := am hr1
 have HC1 := am hc1
 clear hr1 hc1
 have HB := am (Below.refl w.heap.size w)
 have H : (lambrequinref03_Compare.l0 k l0 l1 0) = some r := h
 clear h
 have H' := am H
 clear H
 go_enter Try.func30, Try.ntmps30
 go_wp2
 go_loopg [5] k (fun kq v5 w' => ∃ (x5_1 : Int), v5 = .int .i64 x5_1 ∧ Aside0 (lambrequinref03_Compare.l0 kq l0 l1 x5_1 = some r) ∧ Aside0 (kq ≤ k) ∧ Aside0 (Below w.heap.size w w'))
 case atStart => exact ⟨(0), rs_, H', ⟨Nat.le_refl _⟩, ⟨pL HB.out⟩⟩
 case round =>
  clear H'
  try clear c1
  try clear p2
  obtain ⟨x5_1, rfl, HA, HK1, HB⟩ := hrel
  cases gk with
  | zero => exact absurd HA.out (by simp [lambrequinref03_Compare.l0])
  | succ k1 =>
   have H := HA.out
   clear HA
   simp only [lambrequinref03_Compare.l0] at H
   have HC3 := am H
   clear H
   go_upto_region 2 with (fail)
   go_cut [15] (fun v15 wc => ∃ (kq : Nat) (x15_2 : Bool), v15 = .bool x15_2 ∧ Aside0 (lambrequinref03_Compare.j1 kq l0 l1 x5_1 x15_2 = some r) ∧ Aside0 (kq ≤ k1) ∧ Aside0 (Below w.heap.size w wc))
   case first =>
    have H := HC3.out
    clear HC3
    by_cases c4 : x5_1 < (l0.length : Int)
    ·rw [if_pos c4] at H
     have c4b0 : decide (x5_1 < (l0.length : Int)) = true := decide_eq_true c4
     clear c4
     (first | rw [c4b0] | (simp only [i64_w, i32_w]; rw [c4b0]) | skip)
     have H' := am H
     clear H
     go_wp2
     go_meet
     case rel => exact ⟨_, (decide (x5_1 < (l1.length : Int))), rs_, H', ⟨by have := HK1.out; first | omega | exact Nat.le_refl _⟩, ⟨pL HB.out⟩⟩
    ·rw [if_neg c4] at H
     have c4b0 : decide (x5_1 < (l0.length : Int)) = false := decide_eq_false c4
     clear c4
     (first | rw [c4b0] | (simp only [i64_w, i32_w]; rw [c4b0]) | skip)
     have H' := am H
     clear H
     go_wp2
     go_meet
     case rel => exact ⟨_, (false), rs_, H', ⟨by have := HK1.out; first | omega | exact Nat.le_refl _⟩, ⟨pL HB.out⟩⟩
   case rest =>
    clear HC3
    try clear c1
    try clear p2
    try clear c3
    try clear c4
    try clear c4b0
    try clear p2
    obtain ⟨kq, x15_2, rfl, HA, HJ2, HB⟩ := hcut
    cases kq with
    | zero => exact absurd HA.out (by simp [lambrequinref03_Compare.j1])
    | succ kj2 =>
     have H := HA.out
     clear HA
     simp only [lambrequinref03_Compare.j1] at H
     by_cases c5 : x15_2 = true
     ·subst c5
      have H1 : (if 0 ≤ x5_1 then (if x5_1 < (l0.length : Int) then (if x5_1 < (l1.length : Int) then ((lambrequinref01_Same.f kj2 ((rd_T28 l0 x5_1).isSym) ((rd_T28 l0 x5_1).sym) ((rd_T28 l0 x5_1).n) ((rd_T28 l1 x5_1).isSym) ((rd_T28 l1 x5_1).sym) ((rd_T28 l1 x5_1).n)).bind fun t103 => (if t103 = true then (lambrequinref03_Compare.l0 kj2 l0 l1 (wrap64 (x5_1 + 1))) else ((lambrequinref01_Compare.f kj2 ((rd_T28 l0 x5_1).isSym) ((rd_T28 l0 x5_1).sym) ((rd_T28 l0 x5_1).n) ((rd_T28 l1 x5_1).isSym) ((rd_T28 l1 x5_1).sym) ((rd_T28 l1 x5_1).n)).bind fun t106 => (some t106)))) else (none)) else (none)) else (none)) = some r := by rw [if_pos rfl] at H; exact H
      clear H
      have H := H1
      clear H1
      by_cases c6 : 0 ≤ x5_1
      ·rw [if_pos c6] at H
       have c6b0 : decide (0 ≤ x5_1) = true := decide_eq_true c6
       clear c6
       by_cases c7 : x5_1 < (l0.length : Int)
       ·rw [if_pos c7] at H
        have c7b0 : decide (x5_1 < (l0.length : Int)) = true := decide_eq_true c7
        clear c7
        by_cases c8 : x5_1 < (l1.length : Int)
        ·rw [if_pos c8] at H
         have c8b0 : decide (x5_1 < (l1.length : Int)) = true := decide_eq_true c8
         clear c8
         replace H := Option.bind_eq_some_iff.mp H
         obtain ⟨t103, A90, H⟩ := H
         replace H : (if t103 = true then (lambrequinref03_Compare.l0 kj2 l0 l1 (wrap64 (x5_1 + 1))) else ((lambrequinref01_Compare.f kj2 ((rd_T28 l0 x5_1).isSym) ((rd_T28 l0 x5_1).sym) ((rd_T28 l0 x5_1).n) ((rd_T28 l1 x5_1).isSym) ((rd_T28 l1 x5_1).sym) ((rd_T28 l1 x5_1).n)).bind fun t106 => (some t106))) = some r := H
         have A9 := am A90
         clear A90
         by_cases c10 : t103 = true
         ·subst c10
          have H1 : (lambrequinref03_Compare.l0 kj2 l0 l1 (wrap64 (x5_1 + 1))) = some r := by rw [if_pos rfl] at H; exact H
          clear H
          have H := H1
          clear H1
          have H' := am H
          clear H
          try go_wp2
          replace HB := am (below_drew1 HB.out)
          have p101 : 0 ≤ (x5_1 : Int) := dt_
          have q101 : x5_1 < (l0.length : Int) := dt_
          obtain ⟨ad101, e101, hx101_0, hx101_1, hx101_2⟩ := at_T28 HR0.out x5_1 p101 q101
          have hw101_2 := hx101_2
          have hw101_1 := hx101_1
          have hw101_0 := hx101_0
          cases e101
          replace hx101_0 := up_ HB.out hx101_0
          replace hx101_1 := up_ HB.out hx101_1
          replace hx101_2 := up_ HB.out hx101_2
          replace p101 := eq_true p101
          replace q101 := eq_true q101
          have p102 : 0 ≤ (x5_1 : Int) := dt_
          have q102 : x5_1 < (l1.length : Int) := dt_
          obtain ⟨ad102, e102, hx102_0, hx102_1, hx102_2⟩ := at_T28 HR1.out x5_1 p102 q102
          have hw102_2 := hx102_2
          have hw102_1 := hx102_1
          have hw102_0 := hx102_0
          cases e102
          replace hx102_0 := up_ HB.out hx102_0
          replace hx102_1 := up_ HB.out hx102_1
          replace hx102_2 := up_ HB.out hx102_2
          replace p102 := eq_true p102
          replace q102 := eq_true q102
          refine start_ (n := 10) (S := fun w' => w'.cell? (ad101.add ((x5_1).toNat * 3)) = some (.bool ((rd_T28 l0 x5_1).isSym)) ∧ w'.cell? ⟨(ad101.add ((x5_1).toNat * 3)).block, (ad101.add ((x5_1).toNat * 3)).off + 1, none⟩ = some (.string ((rd_T28 l0 x5_1).sym)) ∧ w'.cell? ⟨(ad101.add ((x5_1).toNat * 3)).block, (ad101.add ((x5_1).toNat * 3)).off + 2, none⟩ = some (.int .i64 ((rd_T28 l0 x5_1).n)) ∧ w'.cell? (ad102.add ((x5_1).toNat * 3)) = some (.bool ((rd_T28 l1 x5_1).isSym)) ∧ w'.cell? ⟨(ad102.add ((x5_1).toNat * 3)).block, (ad102.add ((x5_1).toNat * 3)).off + 1, none⟩ = some (.string ((rd_T28 l1 x5_1).sym)) ∧ w'.cell? ⟨(ad102.add ((x5_1).toNat * 3)).block, (ad102.add ((x5_1).toNat * 3)).off + 2, none⟩ = some (.int .i64 ((rd_T28 l1 x5_1).n))) (ds := []) (bl 10 0) (by kernel_rfl) rfl rfl ⟨(up_ HB.out hw101_0), (up_ HB.out hw101_1), (up_ HB.out hw101_2), (up_ HB.out hw102_0), (up_ HB.out hw102_1), (up_ HB.out hw102_2)⟩ (fun hHeld => ?_); refine with_tabW lambrequinref03_Compare.tab4 lambrequinref03_Compare.bits4 (fun HT_ HW_ => ?_)
          generalize wc.drew = w11 at HB hx101_0 hx101_1 hx101_2 hx102_0 hx102_1 hx102_2 hHeld ⊢
          refine pure_ (i := 0) (N := some 18) (v := ?_) (a' := ?_) (bl 10 1) rfl rfl (any_of HT_.out (by kernel_rfl)) (fun _ _ _ h => h) (Or.inl ⟨by rfl, ?_⟩) ?_ ?_
          rotate_left
          ·intro w'
           go_simp
           with_reducible rfl
          rotate_left
          ·simp only [Act.put, sA, sZ, sS, i64_w, i32_w]
           rfl
          refine pure_ (i := 1) (N := some 19) (v := ?_) (a' := ?_) (bl 10 3) rfl rfl (any_of HT_.out (by kernel_rfl)) (fun _ _ _ h => h) (Or.inl ⟨by rfl, ?_⟩) ?_ ?_
          rotate_left
          ·intro w'
           go_simp
           with_reducible rfl
          rotate_left
          ·simp only [Act.put, sA, sZ, sS, i64_w, i32_w]
           rfl
          refine pure_ (i := 2) (N := some 20) (v := ?_) (a' := ?_) (bl 10 7) rfl rfl (any_of HT_.out (by kernel_rfl)) (fun _ _ _ h => h) (Or.inl ⟨by rfl, ?_⟩) ?_ ?_
          rotate_left
          ·intro w'
           go_simp
           with_reducible rfl
          rotate_left
          ·simp only [Act.put, sA, sZ, sS, i64_w, i32_w]
           rfl
          refine pure_ (i := 4) (N := some 22) (v := ?_) (a' := ?_) (bl 10 23) rfl rfl (any_of HT_.out (by kernel_rfl)) (fun _ _ _ h => h) (Or.inl ⟨by rfl, ?_⟩) ?_ ?_
          rotate_left
          ·intro w'
           go_simp
           with_reducible rfl
          rotate_left
          ·simp only [Act.put, sA, sZ, sS, i64_w, i32_w]
           rfl
          refine pure_ (i := 5) (N := some 23) (v := ?_) (a' := ?_) (bl 10 55) rfl rfl (any_of HT_.out (by kernel_rfl)) (fun _ _ _ h => h) (Or.inl ⟨by rfl, ?_⟩) ?_ ?_
          rotate_left
          ·intro w'
           go_simp
           with_reducible rfl
          rotate_left
          ·simp only [Act.put, sA, sZ, sS, i64_w, i32_w]
           rfl
          refine pure_ (i := 6) (N := some 24) (v := ?_) (a' := ?_) (bl 10 119) rfl rfl (any_of HT_.out (by kernel_rfl)) (fun _ _ _ h => h) (Or.inl ⟨by rfl, ?_⟩) ?_ ?_
          rotate_left
          ·intro w'
           go_simp
           with_reducible rfl
          rotate_left
          ·simp only [Act.put, sA, sZ, sS, i64_w, i32_w]
           rfl
          refine take_ (i := 3) (N := some 21) (v := ?_) (a' := ?_) (bl 10 127) rfl rfl (take_ofW HT_.out HW_.out (by kernel_rfl)) (fun _ _ _ h => h) (Or.inl ⟨by rfl, ?_⟩) hHeld ?_ ?_
          rotate_left
          ·rintro w' ⟨s0, s1, s2, s3, s4, s5⟩
           go_simp
           with_reducible rfl
          rotate_left
          ·simp only [Act.put, sA, sZ, sS, i64_w, i32_w]
           rfl
          refine take_ (i := 7) (N := some 25) (v := ?_) (a' := ?_) (bl 10 255) rfl rfl (take_ofW HT_.out HW_.out (by kernel_rfl)) (fun _ _ _ h => h) (Or.inl ⟨by rfl, ?_⟩) hHeld ?_ ?_
          rotate_left
          ·rintro w' ⟨s0, s1, s2, s3, s4, s5⟩
           go_simp
           with_reducible rfl
          rotate_left
          ·simp only [Act.put, sA, sZ, sS, i64_w, i32_w]
           rfl
          refine one_ (i := 8) (N := some 26) (bl 10 511) rfl rfl (one_of HT_.out (by kernel_rfl)) (by decide) (fun K hK => ?_)
          refine goes_ Try.func49 (by kernel_rfl) rfl #[.agg #[.bool ((rd_T28 l0 x5_1).isSym), .string ((rd_T28 l0 x5_1).sym), .int .i64 ((rd_T28 l0 x5_1).n)], .agg #[.bool ((rd_T28 l1 x5_1).isSym), .string ((rd_T28 l1 x5_1).sym), .int .i64 ((rd_T28 l1 x5_1).n)]] (by rfl) rfl rfl (by (try simp only [List.map_toArray, List.map_cons, List.map_nil]); first | done | rfl | (simp only [List.length_drop, List.length_take]; rfl)) ?_
          with_reducible refine (lambrequinref01_Same.calls kj2 ((rd_T28 l0 x5_1).isSym) ((rd_T28 l0 x5_1).sym) ((rd_T28 l0 x5_1).n) ((rd_T28 l1 x5_1).isSym) ((rd_T28 l1 x5_1).sym) ((rd_T28 l1 x5_1).n) true _ A9.out).mono ?_
          rintro e w12 ⟨rfl, hb⟩
          refine ⟨_, rfl, ?_⟩
          replace HB := am (bs_ HB.out hb)
          (try clear hb)
          (try clear hb2)
          (try clear hk)
          (try clear hi)
          refine hK.out _ _ ⟨(up_ HB.out hw101_0), (up_ HB.out hw101_1), (up_ HB.out hw101_2), (up_ HB.out hw102_0), (up_ HB.out hw102_1), (up_ HB.out hw102_2)⟩ (fun hHeld => ?_)
          clear hK K
          refine norm_ (a' := ?_) ?_ ?_
          rotate_left
          ·show Act.put _ (some 26) _ = _
           simp only [Act.put, sA, sZ, sS, i64_w, i32_w]
           rfl
          refine pure_ (i := 9) (N := some 27) (v := ?_) (a' := ?_) (bl 10 1023) rfl rfl (any_of HT_.out (by kernel_rfl)) (fun _ _ _ h => h) (Or.inl ⟨by rfl, ?_⟩) ?_ ?_
          rotate_left
          ·intro w'
           go_simp
           with_reducible rfl
          rotate_left
          ·simp only [Act.put, sA, sZ, sS, i64_w, i32_w]
           rfl
          refine done_ (done_of HT_.out (by kernel_rfl)) ?_
          try go_wp2
          go_roundg kj2
          case measure => have := HK1.out; have := HJ2.out; omega
          case rel => exact ⟨(wrap64 (x5_1 + 1)), rs_, H', ⟨by have := HK1.out; have := HJ2.out; omega⟩, ⟨pL HB.out⟩⟩
         ·replace c10 := Bool.eq_false_iff.mpr c10
          subst c10
          have H1 : ((lambrequinref01_Compare.f kj2 ((rd_T28 l0 x5_1).isSym) ((rd_T28 l0 x5_1).sym) ((rd_T28 l0 x5_1).n) ((rd_T28 l1 x5_1).isSym) ((rd_T28 l1 x5_1).sym) ((rd_T28 l1 x5_1).n)).bind fun t106 => (some t106)) = some r := by rw [if_neg (show ¬ (false = true) by decide)] at H; exact H
          clear H
          have H := H1
          clear H1
          replace H := Option.bind_eq_some_iff.mp H
          obtain ⟨t106, A130, H⟩ := H
          replace H : (some t106) = some r := H
          have A13 := am A130
          clear A130
          obtain rfl := Option.some.inj H
          try go_wp2
          replace HB := am (below_drew1 HB.out)
          have p101 : 0 ≤ (x5_1 : Int) := dt_
          have q101 : x5_1 < (l0.length : Int) := dt_
          obtain ⟨ad101, e101, hx101_0, hx101_1, hx101_2⟩ := at_T28 HR0.out x5_1 p101 q101
          have hw101_2 := hx101_2
          have hw101_1 := hx101_1
          have hw101_0 := hx101_0
          cases e101
          replace hx101_0 := up_ HB.out hx101_0
          replace hx101_1 := up_ HB.out hx101_1
          replace hx101_2 := up_ HB.out hx101_2
          replace p101 := eq_true p101
          replace q101 := eq_true q101
          have p102 : 0 ≤ (x5_1 : Int) := dt_
          have q102 : x5_1 < (l1.length : Int) := dt_
          obtain ⟨ad102, e102, hx102_0, hx102_1, hx102_2⟩ := at_T28 HR1.out x5_1 p102 q102
          have hw102_2 := hx102_2
          have hw102_1 := hx102_1
          have hw102_0 := hx102_0
          cases e102
          replace hx102_0 := up_ HB.out hx102_0
          replace hx102_1 := up_ HB.out hx102_1
          replace hx102_2 := up_ HB.out hx102_2
          replace p102 := eq_true p102
          replace q102 := eq_true q102
          refine start_ (n := 10) (S := fun w' => w'.cell? (ad101.add ((x5_1).toNat * 3)) = some (.bool ((rd_T28 l0 x5_1).isSym)) ∧ w'.cell? ⟨(ad101.add ((x5_1).toNat * 3)).block, (ad101.add ((x5_1).toNat * 3)).off + 1, none⟩ = some (.string ((rd_T28 l0 x5_1).sym)) ∧ w'.cell? ⟨(ad101.add ((x5_1).toNat * 3)).block, (ad101.add ((x5_1).toNat * 3)).off + 2, none⟩ = some (.int .i64 ((rd_T28 l0 x5_1).n)) ∧ w'.cell? (ad102.add ((x5_1).toNat * 3)) = some (.bool ((rd_T28 l1 x5_1).isSym)) ∧ w'.cell? ⟨(ad102.add ((x5_1).toNat * 3)).block, (ad102.add ((x5_1).toNat * 3)).off + 1, none⟩ = some (.string ((rd_T28 l1 x5_1).sym)) ∧ w'.cell? ⟨(ad102.add ((x5_1).toNat * 3)).block, (ad102.add ((x5_1).toNat * 3)).off + 2, none⟩ = some (.int .i64 ((rd_T28 l1 x5_1).n))) (ds := []) (bl 10 0) (by kernel_rfl) rfl rfl ⟨(up_ HB.out hw101_0), (up_ HB.out hw101_1), (up_ HB.out hw101_2), (up_ HB.out hw102_0), (up_ HB.out hw102_1), (up_ HB.out hw102_2)⟩ (fun hHeld => ?_); refine with_tabW lambrequinref03_Compare.tab4 lambrequinref03_Compare.bits4 (fun HT_ HW_ => ?_)
          generalize wc.drew = w14 at HB hx101_0 hx101_1 hx101_2 hx102_0 hx102_1 hx102_2 hHeld ⊢
          refine pure_ (i := 0) (N := some 18) (v := ?_) (a' := ?_) (bl 10 1) rfl rfl (any_of HT_.out (by kernel_rfl)) (fun _ _ _ h => h) (Or.inl ⟨by rfl, ?_⟩) ?_ ?_
          rotate_left
          ·intro w'
           go_simp
           with_reducible rfl
          rotate_left
          ·simp only [Act.put, sA, sZ, sS, i64_w, i32_w]
           rfl
          refine pure_ (i := 1) (N := some 19) (v := ?_) (a' := ?_) (bl 10 3) rfl rfl (any_of HT_.out (by kernel_rfl)) (fun _ _ _ h => h) (Or.inl ⟨by rfl, ?_⟩) ?_ ?_
          rotate_left
          ·intro w'
           go_simp
           with_reducible rfl
          rotate_left
          ·simp only [Act.put, sA, sZ, sS, i64_w, i32_w]
           rfl
          refine pure_ (i := 2) (N := some 20) (v := ?_) (a' := ?_) (bl 10 7) rfl rfl (any_of HT_.out (by kernel_rfl)) (fun _ _ _ h => h) (Or.inl ⟨by rfl, ?_⟩) ?_ ?_
          rotate_left
          ·intro w'
           go_simp
           with_reducible rfl
          rotate_left
          ·simp only [Act.put, sA, sZ, sS, i64_w, i32_w]
           rfl
          refine pure_ (i := 4) (N := some 22) (v := ?_) (a' := ?_) (bl 10 23) rfl rfl (any_of HT_.out (by kernel_rfl)) (fun _ _ _ h => h) (Or.inl ⟨by rfl, ?_⟩) ?_ ?_
          rotate_left
          ·intro w'
           go_simp
           with_reducible rfl
          rotate_left
          ·simp only [Act.put, sA, sZ, sS, i64_w, i32_w]
           rfl
          refine pure_ (i := 5) (N := some 23) (v := ?_) (a' := ?_) (bl 10 55) rfl rfl (any_of HT_.out (by kernel_rfl)) (fun _ _ _ h => h) (Or.inl ⟨by rfl, ?_⟩) ?_ ?_
          rotate_left
          ·intro w'
           go_simp
           with_reducible rfl
          rotate_left
          ·simp only [Act.put, sA, sZ, sS, i64_w, i32_w]
           rfl
          refine pure_ (i := 6) (N := some 24) (v := ?_) (a' := ?_) (bl 10 119) rfl rfl (any_of HT_.out (by kernel_rfl)) (fun _ _ _ h => h) (Or.inl ⟨by rfl, ?_⟩) ?_ ?_
          rotate_left
          ·intro w'
           go_simp
           with_reducible rfl
          rotate_left
          ·simp only [Act.put, sA, sZ, sS, i64_w, i32_w]
           rfl
          refine take_ (i := 3) (N := some 21) (v := ?_) (a' := ?_) (bl 10 127) rfl rfl (take_ofW HT_.out HW_.out (by kernel_rfl)) (fun _ _ _ h => h) (Or.inl ⟨by rfl, ?_⟩) hHeld ?_ ?_
          rotate_left
          ·rintro w' ⟨s0, s1, s2, s3, s4, s5⟩
           go_simp
           with_reducible rfl
          rotate_left
          ·simp only [Act.put, sA, sZ, sS, i64_w, i32_w]
           rfl
          refine take_ (i := 7) (N := some 25) (v := ?_) (a' := ?_) (bl 10 255) rfl rfl (take_ofW HT_.out HW_.out (by kernel_rfl)) (fun _ _ _ h => h) (Or.inl ⟨by rfl, ?_⟩) hHeld ?_ ?_
          rotate_left
          ·rintro w' ⟨s0, s1, s2, s3, s4, s5⟩
           go_simp
           with_reducible rfl
          rotate_left
          ·simp only [Act.put, sA, sZ, sS, i64_w, i32_w]
           rfl
          refine one_ (i := 8) (N := some 26) (bl 10 511) rfl rfl (one_of HT_.out (by kernel_rfl)) (by decide) (fun K hK => ?_)
          refine goes_ Try.func49 (by kernel_rfl) rfl #[.agg #[.bool ((rd_T28 l0 x5_1).isSym), .string ((rd_T28 l0 x5_1).sym), .int .i64 ((rd_T28 l0 x5_1).n)], .agg #[.bool ((rd_T28 l1 x5_1).isSym), .string ((rd_T28 l1 x5_1).sym), .int .i64 ((rd_T28 l1 x5_1).n)]] (by rfl) rfl rfl (by (try simp only [List.map_toArray, List.map_cons, List.map_nil]); first | done | rfl | (simp only [List.length_drop, List.length_take]; rfl)) ?_
          with_reducible refine (lambrequinref01_Same.calls kj2 ((rd_T28 l0 x5_1).isSym) ((rd_T28 l0 x5_1).sym) ((rd_T28 l0 x5_1).n) ((rd_T28 l1 x5_1).isSym) ((rd_T28 l1 x5_1).sym) ((rd_T28 l1 x5_1).n) false _ A9.out).mono ?_
          rintro e w15 ⟨rfl, hb⟩
          refine ⟨_, rfl, ?_⟩
          replace HB := am (bs_ HB.out hb)
          (try clear hb)
          (try clear hb2)
          (try clear hk)
          (try clear hi)
          refine hK.out _ _ ⟨(up_ HB.out hw101_0), (up_ HB.out hw101_1), (up_ HB.out hw101_2), (up_ HB.out hw102_0), (up_ HB.out hw102_1), (up_ HB.out hw102_2)⟩ (fun hHeld => ?_)
          clear hK K
          refine norm_ (a' := ?_) ?_ ?_
          rotate_left
          ·show Act.put _ (some 26) _ = _
           simp only [Act.put, sA, sZ, sS, i64_w, i32_w]
           rfl
          refine pure_ (i := 9) (N := some 27) (v := ?_) (a' := ?_) (bl 10 1023) rfl rfl (any_of HT_.out (by kernel_rfl)) (fun _ _ _ h => h) (Or.inl ⟨by rfl, ?_⟩) ?_ ?_
          rotate_left
          ·intro w'
           go_simp
           with_reducible rfl
          rotate_left
          ·simp only [Act.put, sA, sZ, sS, i64_w, i32_w]
           rfl
          refine done_ (done_of HT_.out (by kernel_rfl)) ?_
          try go_wp2
          replace HB := am (below_drew1 HB.out)
          have p104 : 0 ≤ (x5_1 : Int) := dt_
          have q104 : x5_1 < (l0.length : Int) := dt_
          obtain ⟨ad104, e104, hx104_0, hx104_1, hx104_2⟩ := at_T28 HR0.out x5_1 p104 q104
          have hw104_2 := hx104_2
          have hw104_1 := hx104_1
          have hw104_0 := hx104_0
          obtain rfl : ad101 = ad104 := (by injection e104)
          replace hx104_0 := up_ HB.out hx104_0
          replace hx104_1 := up_ HB.out hx104_1
          replace hx104_2 := up_ HB.out hx104_2
          replace p104 := eq_true p104
          replace q104 := eq_true q104
          have p105 : 0 ≤ (x5_1 : Int) := dt_
          have q105 : x5_1 < (l1.length : Int) := dt_
          obtain ⟨ad105, e105, hx105_0, hx105_1, hx105_2⟩ := at_T28 HR1.out x5_1 p105 q105
          have hw105_2 := hx105_2
          have hw105_1 := hx105_1
          have hw105_0 := hx105_0
          obtain rfl : ad102 = ad105 := (by injection e105)
          replace hx105_0 := up_ HB.out hx105_0
          replace hx105_1 := up_ HB.out hx105_1
          replace hx105_2 := up_ HB.out hx105_2
          replace p105 := eq_true p105
          replace q105 := eq_true q105
          refine start_ (n := 10) (S := fun w' => w'.cell? (ad101.add ((x5_1).toNat * 3)) = some (.bool ((rd_T28 l0 x5_1).isSym)) ∧ w'.cell? ⟨(ad101.add ((x5_1).toNat * 3)).block, (ad101.add ((x5_1).toNat * 3)).off + 1, none⟩ = some (.string ((rd_T28 l0 x5_1).sym)) ∧ w'.cell? ⟨(ad101.add ((x5_1).toNat * 3)).block, (ad101.add ((x5_1).toNat * 3)).off + 2, none⟩ = some (.int .i64 ((rd_T28 l0 x5_1).n)) ∧ w'.cell? (ad102.add ((x5_1).toNat * 3)) = some (.bool ((rd_T28 l1 x5_1).isSym)) ∧ w'.cell? ⟨(ad102.add ((x5_1).toNat * 3)).block, (ad102.add ((x5_1).toNat * 3)).off + 1, none⟩ = some (.string ((rd_T28 l1 x5_1).sym)) ∧ w'.cell? ⟨(ad102.add ((x5_1).toNat * 3)).block, (ad102.add ((x5_1).toNat * 3)).off + 2, none⟩ = some (.int .i64 ((rd_T28 l1 x5_1).n))) (ds := []) (bl 10 0) (by kernel_rfl) rfl rfl ⟨(up_ HB.out hw104_0), (up_ HB.out hw104_1), (up_ HB.out hw104_2), (up_ HB.out hw105_0), (up_ HB.out hw105_1), (up_ HB.out hw105_2)⟩ (fun hHeld => ?_); refine with_tabW lambrequinref03_Compare.tab5 lambrequinref03_Compare.bits5 (fun HT_ HW_ => ?_)
          generalize w15.drew = w16 at HB hx104_0 hx104_1 hx104_2 hx105_0 hx105_1 hx105_2 hHeld ⊢
          refine pure_ (i := 0) (N := some 28) (v := ?_) (a' := ?_) (bl 10 1) rfl rfl (any_of HT_.out (by kernel_rfl)) (fun _ _ _ h => h) (Or.inl ⟨by rfl, ?_⟩) ?_ ?_
          rotate_left
          ·intro w'
           go_simp
           with_reducible rfl
          rotate_left
          ·simp only [Act.put, sA, sZ, sS, i64_w, i32_w]
           rfl
          refine pure_ (i := 1) (N := some 29) (v := ?_) (a' := ?_) (bl 10 3) rfl rfl (any_of HT_.out (by kernel_rfl)) (fun _ _ _ h => h) (Or.inl ⟨by rfl, ?_⟩) ?_ ?_
          rotate_left
          ·intro w'
           go_simp
           with_reducible rfl
          rotate_left
          ·simp only [Act.put, sA, sZ, sS, i64_w, i32_w]
           rfl
          refine pure_ (i := 2) (N := some 30) (v := ?_) (a' := ?_) (bl 10 7) rfl rfl (any_of HT_.out (by kernel_rfl)) (fun _ _ _ h => h) (Or.inl ⟨by rfl, ?_⟩) ?_ ?_
          rotate_left
          ·intro w'
           go_simp
           with_reducible rfl
          rotate_left
          ·simp only [Act.put, sA, sZ, sS, i64_w, i32_w]
           rfl
          refine pure_ (i := 4) (N := some 32) (v := ?_) (a' := ?_) (bl 10 23) rfl rfl (any_of HT_.out (by kernel_rfl)) (fun _ _ _ h => h) (Or.inl ⟨by rfl, ?_⟩) ?_ ?_
          rotate_left
          ·intro w'
           go_simp
           with_reducible rfl
          rotate_left
          ·simp only [Act.put, sA, sZ, sS, i64_w, i32_w]
           rfl
          refine pure_ (i := 5) (N := some 33) (v := ?_) (a' := ?_) (bl 10 55) rfl rfl (any_of HT_.out (by kernel_rfl)) (fun _ _ _ h => h) (Or.inl ⟨by rfl, ?_⟩) ?_ ?_
          rotate_left
          ·intro w'
           go_simp
           with_reducible rfl
          rotate_left
          ·simp only [Act.put, sA, sZ, sS, i64_w, i32_w]
           rfl
          refine pure_ (i := 6) (N := some 34) (v := ?_) (a' := ?_) (bl 10 119) rfl rfl (any_of HT_.out (by kernel_rfl)) (fun _ _ _ h => h) (Or.inl ⟨by rfl, ?_⟩) ?_ ?_
          rotate_left
          ·intro w'
           go_simp
           with_reducible rfl
          rotate_left
          ·simp only [Act.put, sA, sZ, sS, i64_w, i32_w]
           rfl
          refine take_ (i := 3) (N := some 31) (v := ?_) (a' := ?_) (bl 10 127) rfl rfl (take_ofW HT_.out HW_.out (by kernel_rfl)) (fun _ _ _ h => h) (Or.inl ⟨by rfl, ?_⟩) hHeld ?_ ?_
          rotate_left
          ·rintro w' ⟨s0, s1, s2, s3, s4, s5⟩
           go_simp
           with_reducible rfl
          rotate_left
          ·simp only [Act.put, sA, sZ, sS, i64_w, i32_w]
           rfl
          refine take_ (i := 7) (N := some 35) (v := ?_) (a' := ?_) (bl 10 255) rfl rfl (take_ofW HT_.out HW_.out (by kernel_rfl)) (fun _ _ _ h => h) (Or.inl ⟨by rfl, ?_⟩) hHeld ?_ ?_
          rotate_left
          ·rintro w' ⟨s0, s1, s2, s3, s4, s5⟩
           go_simp
           with_reducible rfl
          rotate_left
          ·simp only [Act.put, sA, sZ, sS, i64_w, i32_w]
           rfl
          refine one_ (i := 8) (N := some 36) (bl 10 511) rfl rfl (one_of HT_.out (by kernel_rfl)) (by decide) (fun K hK => ?_)
          refine goes_ Try.func29 (by kernel_rfl) rfl #[.agg #[.bool ((rd_T28 l0 x5_1).isSym), .string ((rd_T28 l0 x5_1).sym), .int .i64 ((rd_T28 l0 x5_1).n)], .agg #[.bool ((rd_T28 l1 x5_1).isSym), .string ((rd_T28 l1 x5_1).sym), .int .i64 ((rd_T28 l1 x5_1).n)]] (by rfl) rfl rfl (by (try simp only [List.map_toArray, List.map_cons, List.map_nil]); first | done | rfl | (simp only [List.length_drop, List.length_take]; rfl)) ?_
          with_reducible refine (lambrequinref01_Compare.calls kj2 ((rd_T28 l0 x5_1).isSym) ((rd_T28 l0 x5_1).sym) ((rd_T28 l0 x5_1).n) ((rd_T28 l1 x5_1).isSym) ((rd_T28 l1 x5_1).sym) ((rd_T28 l1 x5_1).n) t106 _ A13.out).mono ?_
          rintro e w17 ⟨rfl, hb⟩
          refine ⟨_, rfl, ?_⟩
          replace HB := am (bs_ HB.out hb)
          (try clear hb)
          (try clear hb2)
          (try clear hk)
          (try clear hi)
          refine hK.out _ _ ⟨(up_ HB.out hw104_0), (up_ HB.out hw104_1), (up_ HB.out hw104_2), (up_ HB.out hw105_0), (up_ HB.out hw105_1), (up_ HB.out hw105_2)⟩ (fun hHeld => ?_)
          clear hK K
          refine norm_ (a' := ?_) ?_ ?_
          rotate_left
          ·show Act.put _ (some 36) _ = _
           simp only [Act.put, sA, sZ, sS, i64_w, i32_w]
           rfl
          refine pure_ (i := 9) (N := some 4) (v := ?_) (a' := ?_) (bl 10 1023) rfl rfl (any_of HT_.out (by kernel_rfl)) (fun _ _ _ h => h) (Or.inl ⟨by rfl, ?_⟩) ?_ ?_
          rotate_left
          ·intro w'
           go_simp
           with_reducible rfl
          rotate_left
          ·simp only [Act.put, sA, sZ, sS, i64_w, i32_w]
           rfl
          refine done_ (done_of HT_.out (by kernel_rfl)) ?_
          try go_wp2
          go_ret
          exact ⟨by first | rfl | (simp [errW_none, errW_some] <;> rfl) | (simp [*, errW_none, errW_some] <;> rfl), pL HB.out⟩
        ·rw [if_neg c8] at H
         exact absurd H (by simp)
       ·rw [if_neg c7] at H
        exact absurd H (by simp)
      ·rw [if_neg c6] at H
       exact absurd H (by simp)
     ·replace c5 := Bool.eq_false_iff.mpr c5
      subst c5
      have H1 : (if (l0.length : Int) < (l1.length : Int) then (some (-1)) else (if (l0.length : Int) > (l1.length : Int) then (some 1) else (some 0))) = some r := by rw [if_neg (show ¬ (false = true) by decide)] at H; exact H
      clear H
      have H := H1
      clear H1
      by_cases c18 : (l0.length : Int) < (l1.length : Int)
      ·rw [if_pos c18] at H
       have c18b0 : decide ((l0.length : Int) < (l1.length : Int)) = true := decide_eq_true c18
       have c18b1 : decide (l0.length < l1.length) = true := decide_eq_true (Int.ofNat_lt.mp c18)
       clear c18
       obtain rfl := Option.some.inj H
       go_wp2
       go_ret
       exact ⟨by first | rfl | (simp [errW_none, errW_some] <;> rfl) | (simp [*, errW_none, errW_some] <;> rfl), pL HB.out⟩
      ·rw [if_neg c18] at H
       have c18b0 : decide ((l0.length : Int) < (l1.length : Int)) = false := decide_eq_false c18
       have c18b1 : decide (l0.length < l1.length) = false := decide_eq_false (fun h => c18 (Int.ofNat_lt.mpr h))
       clear c18
       by_cases c19 : (l0.length : Int) > (l1.length : Int)
       ·rw [if_pos c19] at H
        have c19b0 : decide ((l1.length : Int) < (l0.length : Int)) = true := decide_eq_true c19
        have c19b1 : decide (l1.length < l0.length) = true := decide_eq_true (Int.ofNat_lt.mp c19)
        clear c19
        obtain rfl := Option.some.inj H
        go_wp2
        go_ret
        exact ⟨by first | rfl | (simp [errW_none, errW_some] <;> rfl) | (simp [*, errW_none, errW_some] <;> rfl), pL HB.out⟩
       ·rw [if_neg c19] at H
        have c19b0 : decide ((l1.length : Int) < (l0.length : Int)) = false := decide_eq_false c19
        have c19b1 : decide (l1.length < l0.length) = false := decide_eq_false (fun h => c19 (Int.ofNat_lt.mpr h))
        clear c19
        obtain rfl := Option.some.inj H
        go_wp2
        go_ret
        exact ⟨by first | rfl | (simp [errW_none, errW_some] <;> rfl) | (simp [*, errW_none, errW_some] <;> rfl), pL HB.out⟩
def lambrequinref14_Has.l0 : Nat → List (Fact) → ByteArray → List (Val) → Int → Option (Bool)
 | 0, _, _, _, _ => none
 | k + 1, x0, x1, x2, x7 => if x7 < (x0.length : Int) then (if 0 ≤ x7 then (if ((rd_T44 x0 x7).pred).toList = x1.toList then ((lambrequinref03_Compare.f k ((rd_T44 x0 x7).args) x2).bind fun t103 => (if t103 = 0 then (some true) else (lambrequinref14_Has.l0 k x0 x1 x2 (wrap64 (x7 + 1))))) else (lambrequinref14_Has.l0 k x0 x1 x2 (wrap64 (x7 + 1)))) else (none)) else (some false)
def lambrequinref14_Has.f (k : Nat) (l0 : List (Fact)) (a1 : ByteArray) (l2 : List (Val)) : Option (Bool) := lambrequinref14_Has.l0 k l0 a1 l2 0
theorem lambrequinref14_Has.mono_l : ∀ k, (∀ y0 y1 y2 y3, LeO (lambrequinref14_Has.l0 k y0 y1 y2 y3) (lambrequinref14_Has.l0 (k + 1) y0 y1 y2 y3))
 | 0 => fun _ _ _ _ r h => by simp [lambrequinref14_Has.l0] at h
 | k + 1 => by
  have ih0 := lambrequinref14_Has.mono_l k
  ·intro y0 y1 y2 y3
   unfold lambrequinref14_Has.l0
   repeat' first
   | (with_reducible exact ih0 _ _ _ _)
   | (with_reducible exact lambrequinref03_Compare.mono _ _ _)
   | (with_reducible exact LeO.refl _)
   | (with_reducible exact LeO.none _)
   | (with_reducible refine LeO.ite ?_ ?_)
   | (with_reducible refine LeO.bind ?_ (fun _ => ?_))
   | exact ih0 _ _ _ _
   | exact lambrequinref03_Compare.mono _ _ _
   | exact LeO.none _
   | refine LeO.ite ?_ ?_
   | refine LeO.bind ?_ (fun _ => ?_)
theorem lambrequinref14_Has.mono : ∀ a0 a1 a2 k, LeO (lambrequinref14_Has.f k a0 a1 a2) (lambrequinref14_Has.f (k + 1) a0 a1 a2) := by
 intro a0 a1 a2 k
 have ih0 := lambrequinref14_Has.mono_l k
 unfold lambrequinref14_Has.f
 repeat' first
   | (with_reducible exact ih0 _ _ _ _)
   | (with_reducible exact lambrequinref03_Compare.mono _ _ _)
   | (with_reducible exact LeO.refl _)
   | (with_reducible exact LeO.none _)
   | (with_reducible refine LeO.ite ?_ ?_)
   | (with_reducible refine LeO.bind ?_ (fun _ => ?_))
   | exact ih0 _ _ _ _
   | exact lambrequinref03_Compare.mono _ _ _
   | exact LeO.none _
   | refine LeO.ite ?_ ?_
   | refine LeO.bind ?_ (fun _ => ?_)
set_option maxHeartbeats 8000000 in
set_option maxRecDepth 100000 in
theorem lambrequinref14_Has.calls (k : Nat) (A0 : Option Addr) (c0 : Nat) (l0 : List (Fact)) (a1 : ByteArray) (A2 : Option Addr) (c2 : Nat) (l2 : List (Val)) (r : Bool) (w : World) (hr0 : Kd.C k44 w A0 l0.length l0) (hc0 : l0.length ≤ c0) (hr2 : Kd.C k28 w A2 l2.length l2) (hc2 : l2.length ≤ c2) (h : lambrequinref14_Has.f k l0 a1 l2 = some r) :
  Calls Try.prog 17 #[.slice A0 l0.length c0, .string a1, .slice A2 l2.length c2] w fun e w' => e = .returned (.bool r) ∧ Below w.heap.size w w' := by
 have HR0 := Aside0.mk hr0
 have HC0 := Aside0.mk hc0
 clear hr0 hc0
 have HR2 := Aside0.mk hr2
 have HC2 := Aside0.mk hc2
 clear hr2 hc2
 have HB := Aside0.mk (Below.refl w.heap.size w)
 have H : (lambrequinref14_Has.l0 k l0 a1 l2 0) = some r := h
 clear h
 have H' := Aside0.mk H
 clear H
 go_enter Try.func17, Try.ntmps17
 go_wp2
 go_loopg [7] k (fun kq v7 w' => ∃ (x7_1 : Int), v7 = .int .i64 x7_1 ∧ Aside0 (lambrequinref14_Has.l0 kq l0 a1 l2 x7_1 = some r) ∧ Aside0 (kq ≤ k) ∧ Aside0 (Below w.heap.size w w'))
 case atStart => exact ⟨(0), (by first | rfl | (simp; done) | (simp [*]; done)), H', ⟨Nat.le_refl _⟩, ⟨by repeat (first | (with_reducible first | exact HB.out | apply below_alloc | apply pw_below_drewN | apply below_drew1) | exact HB.out)⟩⟩
 case round =>
  clear H'
  try clear c1
  try clear c2
  try clear p2
  obtain ⟨x7_1, rfl, HA, HK1, HB⟩ := hrel
  cases gk with
  | zero => exact absurd HA.out (by simp [lambrequinref14_Has.l0])
  | succ k1 =>
   have H := HA.out
   clear HA
   simp only [lambrequinref14_Has.l0] at H
   by_cases c4 : x7_1 < (l0.length : Int)
   ·rw [if_pos c4] at H
    have c4b0 : decide (x7_1 < (l0.length : Int)) = true := decide_eq_true c4
    clear c4
    by_cases c5 : 0 ≤ x7_1
    ·rw [if_pos c5] at H
     have c5b0 : decide (0 ≤ x7_1) = true := decide_eq_true c5
     clear c5
     by_cases c6 : ((rd_T44 l0 x7_1).pred).toList = a1.toList
     ·rw [if_pos c6] at H
      have c6b0 : (((rd_T44 l0 x7_1).pred).toList == a1.toList) = true := beq_iff_eq.mpr c6
      have c6b1 : (((rd_T44 l0 x7_1).pred).toList != a1.toList) = false := bne_eq_false_iff_eq.mpr c6
      clear c6
      replace H := Option.bind_eq_some_iff.mp H
      obtain ⟨t103, A70, H⟩ := H
      replace H : (if t103 = 0 then (some true) else (lambrequinref14_Has.l0 k1 l0 a1 l2 (wrap64 (x7_1 + 1)))) = some r := H
      have A7 := Aside0.mk A70
      clear A70
      by_cases c8 : t103 = 0
      ·rw [if_pos c8] at H
       have c8b0 : (t103 == 0) = true := beq_iff_eq.mpr c8
       have c8b1 : (t103 != 0) = false := bne_eq_false_iff_eq.mpr c8
       clear c8
       obtain rfl := Option.some.inj H
       have p101 : 0 ≤ (x7_1 : Int) := of_decide_eq_true (by first | (with_reducible assumption) | assumption)
       have q101 : x7_1 < (l0.length : Int) := of_decide_eq_true (by first | (with_reducible assumption) | assumption)
       obtain ⟨ad101, A101_1, c101_1, e101, hx101_0, hx101_1, hl101_1, hi101_1⟩ := at_T44 HR0.out x7_1 p101 q101
       cases e101
       replace hx101_0 := (HB.out.cell (blt_ hx101_0)).trans hx101_0
       replace hx101_1 := (HB.out.cell (blt_ hx101_1)).trans hx101_1
       have HR101_1 := Aside0.mk hi101_1
       have HC101_1 := Aside0.mk hl101_1
       clear hi101_1 hl101_1
       replace p101 := eq_true p101
       replace q101 := eq_true q101
       have p102 : 0 ≤ (x7_1 : Int) := of_decide_eq_true (by first | (with_reducible assumption) | assumption)
       have q102 : x7_1 < (l0.length : Int) := of_decide_eq_true (by first | (with_reducible assumption) | assumption)
       obtain ⟨ad102, A102_1, c102_1, e102, hx102_0, hx102_1, hl102_1, hi102_1⟩ := at_T44 HR0.out x7_1 p102 q102
       obtain rfl : ad101 = ad102 := (by injection e102)
       replace hx102_0 := (HB.out.cell (blt_ hx102_0)).trans hx102_0
       replace hx102_1 := (HB.out.cell (blt_ hx102_1)).trans hx102_1
       have HR102_1 := Aside0.mk hi102_1
       have HC102_1 := Aside0.mk hl102_1
       clear hi102_1 hl102_1
       replace p102 := eq_true p102
       replace q102 := eq_true q102
       have ea_ := Option.some.inj (hx101_1.symm.trans hx102_1)
       injection ea_ with ea_ en_ ec_
       subst ea_
       subst ec_
       clear en_
       go_wp2_with (first | (go_at_call 30; (with_reducible refine (lambrequinref03_Compare.calls k1 _ _ ((rd_T44 l0 x7_1).args) _ _ l2 t103 _ ?side1 ?side2 ?side3 ?side4 A7.out).mono ?_); (case side1 => repeat (first | exact (Kd.C_below HR102_1.out HB.out) | (with_reducible refine Kd.C_alloc ?_ _) | (with_reducible refine Kd.C_drewN ?_ _) | (with_reducible refine Kd.C_drew ?_))); (case side2 => exact HC102_1.out); (case side3 => repeat (first | exact (Kd.C_below HR2.out HB.out) | (with_reducible refine Kd.C_alloc ?_ _) | (with_reducible refine Kd.C_drewN ?_ _) | (with_reducible refine Kd.C_drew ?_))); (case side4 => exact HC2.out); rintro e w9 ⟨rfl, hb⟩; have n0_ := Aside0.mk (below_step (by repeat (first | (with_reducible first | exact HB.out | apply below_alloc | apply pw_below_drewN | apply below_drew1) | exact HB.out)) hb); clear HB; have HB := n0_; clear n0_; (try clear hb); (try clear hb2); (try clear hk); (try clear hi)))
       go_ret
       exact ⟨by first | rfl | (simp [errW_none, errW_some] <;> rfl) | (simp [*, errW_none, errW_some] <;> rfl), by repeat (first | (with_reducible first | exact HB.out | apply below_alloc | apply pw_below_drewN | apply below_drew1) | exact HB.out)⟩
      ·rw [if_neg c8] at H
       have c8b0 : (t103 == 0) = false := beq_eq_false_iff_ne.mpr c8
       have c8b1 : (t103 != 0) = true := bne_iff_ne.mpr c8
       have H' := Aside0.mk H
       clear H
       have p101 : 0 ≤ (x7_1 : Int) := of_decide_eq_true (by first | (with_reducible assumption) | assumption)
       have q101 : x7_1 < (l0.length : Int) := of_decide_eq_true (by first | (with_reducible assumption) | assumption)
       obtain ⟨ad101, A101_1, c101_1, e101, hx101_0, hx101_1, hl101_1, hi101_1⟩ := at_T44 HR0.out x7_1 p101 q101
       cases e101
       replace hx101_0 := (HB.out.cell (blt_ hx101_0)).trans hx101_0
       replace hx101_1 := (HB.out.cell (blt_ hx101_1)).trans hx101_1
       have HR101_1 := Aside0.mk hi101_1
       have HC101_1 := Aside0.mk hl101_1
       clear hi101_1 hl101_1
       replace p101 := eq_true p101
       replace q101 := eq_true q101
       have p102 : 0 ≤ (x7_1 : Int) := of_decide_eq_true (by first | (with_reducible assumption) | assumption)
       have q102 : x7_1 < (l0.length : Int) := of_decide_eq_true (by first | (with_reducible assumption) | assumption)
       obtain ⟨ad102, A102_1, c102_1, e102, hx102_0, hx102_1, hl102_1, hi102_1⟩ := at_T44 HR0.out x7_1 p102 q102
       obtain rfl : ad101 = ad102 := (by injection e102)
       replace hx102_0 := (HB.out.cell (blt_ hx102_0)).trans hx102_0
       replace hx102_1 := (HB.out.cell (blt_ hx102_1)).trans hx102_1
       have HR102_1 := Aside0.mk hi102_1
       have HC102_1 := Aside0.mk hl102_1
       clear hi102_1 hl102_1
       replace p102 := eq_true p102
       replace q102 := eq_true q102
       have ea_ := Option.some.inj (hx101_1.symm.trans hx102_1)
       injection ea_ with ea_ en_ ec_
       subst ea_
       subst ec_
       clear en_
       go_wp2_with (first | (go_at_call 30; (with_reducible refine (lambrequinref03_Compare.calls k1 _ _ ((rd_T44 l0 x7_1).args) _ _ l2 t103 _ ?side1 ?side2 ?side3 ?side4 A7.out).mono ?_); (case side1 => repeat (first | exact (Kd.C_below HR102_1.out HB.out) | (with_reducible refine Kd.C_alloc ?_ _) | (with_reducible refine Kd.C_drewN ?_ _) | (with_reducible refine Kd.C_drew ?_))); (case side2 => exact HC102_1.out); (case side3 => repeat (first | exact (Kd.C_below HR2.out HB.out) | (with_reducible refine Kd.C_alloc ?_ _) | (with_reducible refine Kd.C_drewN ?_ _) | (with_reducible refine Kd.C_drew ?_))); (case side4 => exact HC2.out); rintro e w10 ⟨rfl, hb⟩; have n0_ := Aside0.mk (below_step (by repeat (first | (with_reducible first | exact HB.out | apply below_alloc | apply pw_below_drewN | apply below_drew1) | exact HB.out)) hb); clear HB; have HB := n0_; clear n0_; (try clear hb); (try clear hb2); (try clear hk); (try clear hi)))
       go_roundg k1
       case measure => have := HK1.out; omega
       case rel => exact ⟨(wrap64 (x7_1 + 1)), (by first | rfl | (simp; done) | (simp [*]; done)), H', ⟨by have := HK1.out; omega⟩, ⟨by repeat (first | (with_reducible first | exact HB.out | apply below_alloc | apply pw_below_drewN | apply below_drew1) | exact HB.out)⟩⟩
     ·rw [if_neg c6] at H
      have c6b0 : (((rd_T44 l0 x7_1).pred).toList == a1.toList) = false := beq_eq_false_iff_ne.mpr c6
      have c6b1 : (((rd_T44 l0 x7_1).pred).toList != a1.toList) = true := bne_iff_ne.mpr c6
      have H' := Aside0.mk H
      clear H
      have p101 : 0 ≤ (x7_1 : Int) := of_decide_eq_true (by first | (with_reducible assumption) | assumption)
      have q101 : x7_1 < (l0.length : Int) := of_decide_eq_true (by first | (with_reducible assumption) | assumption)
      obtain ⟨ad101, A101_1, c101_1, e101, hx101_0, hx101_1, hl101_1, hi101_1⟩ := at_T44 HR0.out x7_1 p101 q101
      cases e101
      replace hx101_0 := (HB.out.cell (blt_ hx101_0)).trans hx101_0
      replace hx101_1 := (HB.out.cell (blt_ hx101_1)).trans hx101_1
      have HR101_1 := Aside0.mk hi101_1
      have HC101_1 := Aside0.mk hl101_1
      clear hi101_1 hl101_1
      replace p101 := eq_true p101
      replace q101 := eq_true q101
      go_wp2
      go_roundg k1
      case measure => have := HK1.out; omega
      case rel => exact ⟨(wrap64 (x7_1 + 1)), (by first | rfl | (simp; done) | (simp [*]; done)), H', ⟨by have := HK1.out; omega⟩, ⟨by repeat (first | (with_reducible first | exact HB.out | apply below_alloc | apply pw_below_drewN | apply below_drew1) | exact HB.out)⟩⟩
    ·rw [if_neg c5] at H
     exact absurd H (by simp)
   ·rw [if_neg c4] at H
    have c4b0 : decide (x7_1 < (l0.length : Int)) = false := decide_eq_false c4
    clear c4
    obtain rfl := Option.some.inj H
    go_wp2
    go_ret
    exact ⟨by first | rfl | (simp [errW_none, errW_some] <;> rfl) | (simp [*, errW_none, errW_some] <;> rfl), by repeat (first | (with_reducible first | exact HB.out | apply below_alloc | apply pw_below_drewN | apply below_drew1) | exact HB.out)⟩
def lambrequinref14_Compare.f (k : Nat) (a0_0 : ByteArray) (l0_1 : List (Val)) (a1_0 : ByteArray) (l1_1 : List (Val)) : Option (Int) := (lambrequinref01_Compare.f k true a0_0 0 true a1_0 0).bind fun t103 => (if t103 = 0 then ((lambrequinref03_Compare.f k l0_1 l1_1).bind fun t104 => (some t104)) else (some t103))
theorem lambrequinref14_Compare.mono : ∀ a0 a1 a2 a3 k, LeO (lambrequinref14_Compare.f k a0 a1 a2 a3) (lambrequinref14_Compare.f (k + 1) a0 a1 a2 a3) := by
 intro a0 a1 a2 a3 k
 unfold lambrequinref14_Compare.f
 repeat' first
   | (with_reducible exact lambrequinref01_Compare.mono _ _ _ _ _ _ _)
   | (with_reducible exact lambrequinref03_Compare.mono _ _ _)
   | (with_reducible exact LeO.refl _)
   | (with_reducible exact LeO.none _)
   | (with_reducible refine LeO.ite ?_ ?_)
   | (with_reducible refine LeO.bind ?_ (fun _ => ?_))
   | exact lambrequinref01_Compare.mono _ _ _ _ _ _ _
   | exact lambrequinref03_Compare.mono _ _ _
   | exact LeO.none _
   | refine LeO.ite ?_ ?_
   | refine LeO.bind ?_ (fun _ => ?_)
set_option maxHeartbeats 8000000 in
set_option maxRecDepth 100000 in
theorem lambrequinref14_Compare.calls (k : Nat) (a0_0 : ByteArray) (A0_1 : Option Addr) (c0_1 : Nat) (l0_1 : List (Val)) (a1_0 : ByteArray) (A1_1 : Option Addr) (c1_1 : Nat) (l1_1 : List (Val)) (r : Int) (w : World) (hr0_1 : Kd.C k28 w A0_1 l0_1.length l0_1) (hc0_1 : l0_1.length ≤ c0_1) (hr1_1 : Kd.C k28 w A1_1 l1_1.length l1_1) (hc1_1 : l1_1.length ≤ c1_1) (h : lambrequinref14_Compare.f k a0_0 l0_1 a1_0 l1_1 = some r) :
  Calls Try.prog 16 #[.agg #[.string a0_0, .slice A0_1 l0_1.length c0_1], .agg #[.string a1_0, .slice A1_1 l1_1.length c1_1]] w fun e w' => e = .returned (.int .i64 r) ∧ Below w.heap.size w w' := by
 have hu44 := Try.underlying44
 have hu28 := Try.underlying28
 have HR0_1 := Aside0.mk hr0_1
 have HC0_1 := Aside0.mk hc0_1
 clear hr0_1 hc0_1
 have HR1_1 := Aside0.mk hr1_1
 have HC1_1 := Aside0.mk hc1_1
 clear hr1_1 hc1_1
 have HB := Aside0.mk (Below.refl w.heap.size w)
 have H : ((lambrequinref01_Compare.f k true a0_0 0 true a1_0 0).bind fun t103 => (if t103 = 0 then ((lambrequinref03_Compare.f k l0_1 l1_1).bind fun t104 => (some t104)) else (some t103))) = some r := h
 clear h
 replace H := Option.bind_eq_some_iff.mp H
 obtain ⟨t103, A30, H⟩ := H
 replace H : (if t103 = 0 then ((lambrequinref03_Compare.f k l0_1 l1_1).bind fun t104 => (some t104)) else (some t103)) = some r := H
 have A3 := Aside0.mk A30
 clear A30
 by_cases c4 : t103 = 0
 ·rw [if_pos c4] at H
  have c4b0 : (t103 == 0) = true := beq_iff_eq.mpr c4
  have c4b1 : (t103 != 0) = false := bne_eq_false_iff_eq.mpr c4
  clear c4
  replace H := Option.bind_eq_some_iff.mp H
  obtain ⟨t104, A50, H⟩ := H
  replace H : (some t104) = some r := H
  have A5 := Aside0.mk A50
  clear A50
  obtain rfl := Option.some.inj H
  go_enter Try.func16, Try.ntmps16
  go_wp2_with (first | ((with_reducible refine gate_dst (N := 2) rfl ?_); refine box_event ?hg (N := 2) ?hd (cs := #[.string a0_0, .slice A0_1 l0_1.length c0_1]) (t := 44) ?hr ?_; (case hd => rfl); (case hg => rfl); (case hr => first | (go_simp; done) | (go_simp; rfl)); intro gb101 hg w6 hbox hb; have n0_ := Aside0.mk (below_step (by repeat (first | (with_reducible first | exact HB.out | apply below_alloc | apply pw_below_drewN | apply below_drew1) | exact HB.out)) hb); have n1_ := Aside0.mk (hbox); have n2_ := Aside0.mk ((by rw [hg]; exact (below_size (by repeat (first | (with_reducible first | exact HB.out | apply below_alloc | apply pw_below_drewN | apply below_drew1) | exact HB.out))) : w.heap.size ≤ gb101)); have n3_ := Aside0.mk ((by rw [hg]; exact (below_size (by repeat (first | (with_reducible first | exact HB.out | apply below_alloc | apply pw_below_drewN | apply below_drew1) | exact HB.out))) : w.heap.size ≤ gb101)); clear HB; have HB := n0_; have BK101 := n1_; have GW101 := n2_; have GE101 := n3_; clear n0_ n1_ n2_ n3_; clear hb hbox hg) | ((with_reducible refine gate_dst (N := 3) rfl ?_); refine box_event ?hg (N := 3) ?hd (cs := #[.string a1_0, .slice A1_1 l1_1.length c1_1]) (t := 44) ?hr ?_; (case hd => rfl); (case hg => rfl); (case hr => first | (go_simp; done) | (go_simp; rfl)); intro gb102 hg w7 hbox hb; have n0_ := Aside0.mk (blk_below (g := gb101) (o := .cells #[.string a0_0, .slice A0_1 l0_1.length c0_1] 44 (0, 0)) (by (with_reducible repeat (first | refine blk_drewN ?_ _ | refine blk_drew ?_ | refine blk_alloc ?_ _)); exact BK101.out) hb); have n1_ := Aside0.mk (below_step (by repeat (first | (with_reducible first | exact HB.out | apply below_alloc | apply pw_below_drewN | apply below_drew1 | refine below_set ?_ GE101.out) | exact HB.out)) hb); have n2_ := Aside0.mk (hbox); have n3_ := Aside0.mk ((by rw [hg]; exact (below_size (by repeat (first | (with_reducible first | exact HB.out | apply below_alloc | apply pw_below_drewN | apply below_drew1 | refine below_set ?_ GE101.out) | exact HB.out))) : w.heap.size ≤ gb102)); have n4_ := Aside0.mk ((by rw [hg]; exact (below_size (by repeat (first | (with_reducible first | exact HB.out | apply below_alloc | apply pw_below_drewN | apply below_drew1 | refine below_set ?_ GE101.out) | exact HB.out))) : w.heap.size ≤ gb102)); have n5_ := Aside0.mk ((by rw [hg]; exact Nat.ne_of_lt (blk_lt (g := gb101) (o := .cells #[.string a0_0, .slice A0_1 l0_1.length c0_1] 44 (0, 0)) (by (with_reducible repeat (first | refine blk_drewN ?_ _ | refine blk_drew ?_ | refine blk_alloc ?_ _)); exact BK101.out)) : gb101 ≠ gb102)); have n6_ := Aside0.mk ((by rw [hg]; exact Nat.ne_of_gt (blk_lt (g := gb101) (o := .cells #[.string a0_0, .slice A0_1 l0_1.length c0_1] 44 (0, 0)) (by (with_reducible repeat (first | refine blk_drewN ?_ _ | refine blk_drew ?_ | refine blk_alloc ?_ _)); exact BK101.out)) : gb102 ≠ gb101)); clear BK101; clear HB; have BK101 := n0_; have HB := n1_; have BK102 := n2_; have GW102 := n3_; have GE102 := n4_; have NB101_102 := n5_; have NB102_101 := n6_; clear n0_ n1_ n2_ n3_ n4_ n5_ n6_; clear hb hbox hg; have hnb8 := NB101_102.out; have hnc8 := NB102_101.out; have hcz9_0 : w7.cell? ⟨gb101, 0, none⟩ = some (.string a0_0) := (blk_cell BK101.out 0).trans rfl; have hcz9_1 : w7.cell? ⟨gb101, 1, none⟩ = some (.slice A0_1 l0_1.length c0_1) := (blk_cell BK101.out 1).trans rfl; have hfz9_0 := blk_frozen BK101.out 0; have hfz9_1 := blk_frozen BK101.out 1; have hcz10_0 : w7.cell? ⟨gb102, 0, none⟩ = some (.string a1_0) := (blk_cell BK102.out 0).trans rfl; have hcz10_1 : w7.cell? ⟨gb102, 1, none⟩ = some (.slice A1_1 l1_1.length c1_1) := (blk_cell BK102.out 1).trans rfl; have hfz10_0 := blk_frozen BK102.out 0; have hfz10_1 := blk_frozen BK102.out 1) | ((with_reducible refine gate_callee (f := 29) rfl ?_); refine goesL_ (some 12) rfl rfl Try.func29 (by kernel_rfl) rfl #[.agg #[.bool true, .string a0_0, .int .i64 0], .agg #[.bool true, .string a1_0, .int .i64 0]] rfl (by (try simp only [List.map_toArray, List.map_cons, List.map_nil]); first | done | rfl | (simp only [List.length_drop, List.length_take]; rfl)) ?_; (with_reducible refine (lambrequinref01_Compare.calls k true a0_0 0 true a1_0 0 t103 _ A3.out).mono ?_); rintro e w11 ⟨rfl, hb⟩; refine ⟨_, rfl, ?_⟩; have n0_ := Aside0.mk (blk_below (g := gb101) (o := .cells #[.string a0_0, .slice A0_1 l0_1.length c0_1] 44 (0, 0)) (by (with_reducible repeat (first | refine blk_drewN ?_ _ | refine blk_drew ?_ | refine blk_alloc ?_ _)); exact BK101.out) hb); have n1_ := Aside0.mk (blk_below (g := gb102) (o := .cells #[.string a1_0, .slice A1_1 l1_1.length c1_1] 44 (0, 0)) (by (with_reducible repeat (first | refine blk_drewN ?_ _ | refine blk_drew ?_ | refine blk_alloc ?_ _)); exact BK102.out) hb); have n2_ := Aside0.mk (below_step (by repeat (first | (with_reducible first | exact HB.out | apply below_alloc | apply pw_below_drewN | apply below_drew1 | refine below_set ?_ GE101.out | refine below_set ?_ GE102.out) | exact HB.out)) hb); clear BK101; clear BK102; clear HB; have BK101 := n0_; have BK102 := n1_; have HB := n2_; clear n0_ n1_ n2_; (try clear hb); (try clear hb2); (try clear hk); (try clear hi); have hcz12_0 : w11.cell? ⟨gb101, 0, none⟩ = some (.string a0_0) := (blk_cell BK101.out 0).trans rfl; have hcz12_1 : w11.cell? ⟨gb101, 1, none⟩ = some (.slice A0_1 l0_1.length c0_1) := (blk_cell BK101.out 1).trans rfl; have hfz12_0 := blk_frozen BK101.out 0; have hfz12_1 := blk_frozen BK101.out 1; have hcz13_0 : w11.cell? ⟨gb102, 0, none⟩ = some (.string a1_0) := (blk_cell BK102.out 0).trans rfl; have hcz13_1 : w11.cell? ⟨gb102, 1, none⟩ = some (.slice A1_1 l1_1.length c1_1) := (blk_cell BK102.out 1).trans rfl; have hfz13_0 := blk_frozen BK102.out 0; have hfz13_1 := blk_frozen BK102.out 1) | ((with_reducible refine gate_callee (f := 30) rfl ?_); refine goesL_ (some 20) rfl rfl Try.func30 (by kernel_rfl) rfl #[.slice A0_1 l0_1.length c0_1, .slice A1_1 l1_1.length c1_1] rfl (by (try simp only [List.map_toArray, List.map_cons, List.map_nil]); first | done | rfl | (simp only [List.length_drop, List.length_take]; rfl)) ?_; (with_reducible refine (lambrequinref03_Compare.calls k _ _ l0_1 _ _ l1_1 t104 _ ?side1 ?side2 ?side3 ?side4 A5.out).mono ?_); (case side1 => repeat (first | exact (Kd.C_below HR0_1.out HB.out) | (with_reducible refine Kd.C_alloc ?_ _) | (with_reducible refine Kd.C_drewN ?_ _) | (with_reducible refine Kd.C_drew ?_))); (case side2 => exact HC0_1.out); (case side3 => repeat (first | exact (Kd.C_below HR1_1.out HB.out) | (with_reducible refine Kd.C_alloc ?_ _) | (with_reducible refine Kd.C_drewN ?_ _) | (with_reducible refine Kd.C_drew ?_))); (case side4 => exact HC1_1.out); rintro e w14 ⟨rfl, hb⟩; refine ⟨_, rfl, ?_⟩; have n0_ := Aside0.mk (blk_below (g := gb101) (o := .cells #[.string a0_0, .slice A0_1 l0_1.length c0_1] 44 (0, 0)) (by (with_reducible repeat (first | refine blk_drewN ?_ _ | refine blk_drew ?_ | refine blk_alloc ?_ _)); exact BK101.out) hb); have n1_ := Aside0.mk (blk_below (g := gb102) (o := .cells #[.string a1_0, .slice A1_1 l1_1.length c1_1] 44 (0, 0)) (by (with_reducible repeat (first | refine blk_drewN ?_ _ | refine blk_drew ?_ | refine blk_alloc ?_ _)); exact BK102.out) hb); have n2_ := Aside0.mk (below_step (by repeat (first | (with_reducible first | exact HB.out | apply below_alloc | apply pw_below_drewN | apply below_drew1 | refine below_set ?_ GE101.out | refine below_set ?_ GE102.out) | exact HB.out)) hb); clear BK101; clear BK102; clear HB; have BK101 := n0_; have BK102 := n1_; have HB := n2_; clear n0_ n1_ n2_; (try clear hb); (try clear hb2); (try clear hk); (try clear hi)))
  go_ret
  exact ⟨by first | rfl | (simp [errW_none, errW_some] <;> rfl) | (simp [*, errW_none, errW_some] <;> rfl), by repeat (first | (with_reducible first | exact HB.out | apply below_alloc | apply pw_below_drewN | apply below_drew1 | refine below_set ?_ GE101.out | refine below_set ?_ GE102.out) | exact HB.out)⟩
 ·rw [if_neg c4] at H
  have c4b0 : (t103 == 0) = false := beq_eq_false_iff_ne.mpr c4
  have c4b1 : (t103 != 0) = true := bne_iff_ne.mpr c4
  obtain rfl := Option.some.inj H
  go_enter Try.func16, Try.ntmps16
  go_wp2_with (first | ((with_reducible refine gate_dst (N := 2) rfl ?_); refine box_event ?hg (N := 2) ?hd (cs := #[.string a0_0, .slice A0_1 l0_1.length c0_1]) (t := 44) ?hr ?_; (case hd => rfl); (case hg => rfl); (case hr => first | (go_simp; done) | (go_simp; rfl)); intro gb101 hg w15 hbox hb; have n0_ := Aside0.mk (below_step (by repeat (first | (with_reducible first | exact HB.out | apply below_alloc | apply pw_below_drewN | apply below_drew1) | exact HB.out)) hb); have n1_ := Aside0.mk (hbox); have n2_ := Aside0.mk ((by rw [hg]; exact (below_size (by repeat (first | (with_reducible first | exact HB.out | apply below_alloc | apply pw_below_drewN | apply below_drew1) | exact HB.out))) : w.heap.size ≤ gb101)); have n3_ := Aside0.mk ((by rw [hg]; exact (below_size (by repeat (first | (with_reducible first | exact HB.out | apply below_alloc | apply pw_below_drewN | apply below_drew1) | exact HB.out))) : w.heap.size ≤ gb101)); clear HB; have HB := n0_; have BK101 := n1_; have GW101 := n2_; have GE101 := n3_; clear n0_ n1_ n2_ n3_; clear hb hbox hg) | ((with_reducible refine gate_dst (N := 3) rfl ?_); refine box_event ?hg (N := 3) ?hd (cs := #[.string a1_0, .slice A1_1 l1_1.length c1_1]) (t := 44) ?hr ?_; (case hd => rfl); (case hg => rfl); (case hr => first | (go_simp; done) | (go_simp; rfl)); intro gb102 hg w16 hbox hb; have n0_ := Aside0.mk (blk_below (g := gb101) (o := .cells #[.string a0_0, .slice A0_1 l0_1.length c0_1] 44 (0, 0)) (by (with_reducible repeat (first | refine blk_drewN ?_ _ | refine blk_drew ?_ | refine blk_alloc ?_ _)); exact BK101.out) hb); have n1_ := Aside0.mk (below_step (by repeat (first | (with_reducible first | exact HB.out | apply below_alloc | apply pw_below_drewN | apply below_drew1 | refine below_set ?_ GE101.out) | exact HB.out)) hb); have n2_ := Aside0.mk (hbox); have n3_ := Aside0.mk ((by rw [hg]; exact (below_size (by repeat (first | (with_reducible first | exact HB.out | apply below_alloc | apply pw_below_drewN | apply below_drew1 | refine below_set ?_ GE101.out) | exact HB.out))) : w.heap.size ≤ gb102)); have n4_ := Aside0.mk ((by rw [hg]; exact (below_size (by repeat (first | (with_reducible first | exact HB.out | apply below_alloc | apply pw_below_drewN | apply below_drew1 | refine below_set ?_ GE101.out) | exact HB.out))) : w.heap.size ≤ gb102)); have n5_ := Aside0.mk ((by rw [hg]; exact Nat.ne_of_lt (blk_lt (g := gb101) (o := .cells #[.string a0_0, .slice A0_1 l0_1.length c0_1] 44 (0, 0)) (by (with_reducible repeat (first | refine blk_drewN ?_ _ | refine blk_drew ?_ | refine blk_alloc ?_ _)); exact BK101.out)) : gb101 ≠ gb102)); have n6_ := Aside0.mk ((by rw [hg]; exact Nat.ne_of_gt (blk_lt (g := gb101) (o := .cells #[.string a0_0, .slice A0_1 l0_1.length c0_1] 44 (0, 0)) (by (with_reducible repeat (first | refine blk_drewN ?_ _ | refine blk_drew ?_ | refine blk_alloc ?_ _)); exact BK101.out)) : gb102 ≠ gb101)); clear BK101; clear HB; have BK101 := n0_; have HB := n1_; have BK102 := n2_; have GW102 := n3_; have GE102 := n4_; have NB101_102 := n5_; have NB102_101 := n6_; clear n0_ n1_ n2_ n3_ n4_ n5_ n6_; clear hb hbox hg; have hnb17 := NB101_102.out; have hnc17 := NB102_101.out; have hcz18_0 : w16.cell? ⟨gb101, 0, none⟩ = some (.string a0_0) := (blk_cell BK101.out 0).trans rfl; have hcz18_1 : w16.cell? ⟨gb101, 1, none⟩ = some (.slice A0_1 l0_1.length c0_1) := (blk_cell BK101.out 1).trans rfl; have hfz18_0 := blk_frozen BK101.out 0; have hfz18_1 := blk_frozen BK101.out 1; have hcz19_0 : w16.cell? ⟨gb102, 0, none⟩ = some (.string a1_0) := (blk_cell BK102.out 0).trans rfl; have hcz19_1 : w16.cell? ⟨gb102, 1, none⟩ = some (.slice A1_1 l1_1.length c1_1) := (blk_cell BK102.out 1).trans rfl; have hfz19_0 := blk_frozen BK102.out 0; have hfz19_1 := blk_frozen BK102.out 1) | ((with_reducible refine gate_callee (f := 29) rfl ?_); refine goesL_ (some 12) rfl rfl Try.func29 (by kernel_rfl) rfl #[.agg #[.bool true, .string a0_0, .int .i64 0], .agg #[.bool true, .string a1_0, .int .i64 0]] rfl (by (try simp only [List.map_toArray, List.map_cons, List.map_nil]); first | done | rfl | (simp only [List.length_drop, List.length_take]; rfl)) ?_; (with_reducible refine (lambrequinref01_Compare.calls k true a0_0 0 true a1_0 0 t103 _ A3.out).mono ?_); rintro e w20 ⟨rfl, hb⟩; refine ⟨_, rfl, ?_⟩; have n0_ := Aside0.mk (blk_below (g := gb101) (o := .cells #[.string a0_0, .slice A0_1 l0_1.length c0_1] 44 (0, 0)) (by (with_reducible repeat (first | refine blk_drewN ?_ _ | refine blk_drew ?_ | refine blk_alloc ?_ _)); exact BK101.out) hb); have n1_ := Aside0.mk (blk_below (g := gb102) (o := .cells #[.string a1_0, .slice A1_1 l1_1.length c1_1] 44 (0, 0)) (by (with_reducible repeat (first | refine blk_drewN ?_ _ | refine blk_drew ?_ | refine blk_alloc ?_ _)); exact BK102.out) hb); have n2_ := Aside0.mk (below_step (by repeat (first | (with_reducible first | exact HB.out | apply below_alloc | apply pw_below_drewN | apply below_drew1 | refine below_set ?_ GE101.out | refine below_set ?_ GE102.out) | exact HB.out)) hb); clear BK101; clear BK102; clear HB; have BK101 := n0_; have BK102 := n1_; have HB := n2_; clear n0_ n1_ n2_; (try clear hb); (try clear hb2); (try clear hk); (try clear hi)))
  go_ret
  exact ⟨by first | rfl | (simp [errW_none, errW_some] <;> rfl) | (simp [*, errW_none, errW_some] <;> rfl), by repeat (first | (with_reducible first | exact HB.out | apply below_alloc | apply pw_below_drewN | apply below_drew1 | refine below_set ?_ GE101.out | refine below_set ?_ GE102.out) | exact HB.out)⟩
end Go.Proofs.Ytoekfmdcplphmaa.H
/- the document's order of facts is the program's -/
namespace Go.Proofs.Ytoekfmdcplphmaa.H
open Go.RowKit Go.Proofs.YtoekfmdcplphmaaW.PrintWords
def cmpL : List UInt8 → List UInt8 → Int
  | [], [] => 0
  | [], _ :: _ => -1
  | _ :: _, [] => 1
  | x :: l, y :: m => if x < y then -1 else if y < x then 1 else cmpL l m
theorem cmpL_eq : ∀ l m : List UInt8, cmpL l m = if l < m then -1 else if m < l then 1 else 0
  | [], [] => by simp [cmpL]
  | [], y :: m => by simp [cmpL]
  | x :: l, [] => by simp [cmpL]
  | x :: l, y :: m => by
    rw [cmpL, cmpL_eq l m]
    by_cases h : x < y
    · rw [if_pos h, if_pos (List.cons_lt_cons_iff.2 (.inl h))]
    · rw [if_neg h]
      by_cases h2 : y < x
      · rw [if_pos h2, if_neg, if_pos (List.cons_lt_cons_iff.2 (.inl h2))]
        intro q
        rcases List.cons_lt_cons_iff.1 q with q | ⟨rfl, q⟩
        · exact h q
        · exact h h2
      · have e : x = y := UInt8.le_antisymm (UInt8.not_lt.1 h2) (UInt8.not_lt.1 h)
        subst e
        rw [if_neg h2]
        have e1 : ∀ a b : List UInt8, (x :: a < x :: b) ↔ a < b := fun a b => by
          rw [List.cons_lt_cons_iff]
          constructor
          · rintro (q | ⟨_, q⟩)
            · exact absurd q h
            · exact q
          · exact fun q => .inr ⟨rfl, q⟩
        simp only [e1]
theorem cmpS_L (a b : ByteArray) : cmpS a b = cmpL (toL a) (toL b) := by rw [cmpL_eq]; rfl
theorem toL_len (a : ByteArray) : (toL a).length = a.size := by
  show a.data.toList.length = a.data.size
  exact Array.length_toList
theorem bt_toL {a : ByteArray} {i : Nat} {x : UInt8} {r : List UInt8} (h : (toL a).drop i = x :: r) : bt a i = (x.toNat : Int) ∧ i < a.size := by
  have hl : i < (toL a).length := by
    have := congrArg List.length h
    simp at this
    omega
  have hx : (toL a)[i]? = some x := by
    have := congrArg (fun z => z[0]?) h
    simpa using this
  have hs : i < a.size := by rw [← toL_len]; exact hl
  refine ⟨?_, hs⟩
  unfold bt
  rw [dif_pos (by simpa using hs)]
  have : a[i]'hs = x := by
    have := (List.getElem?_eq_some_iff.1 hx).2
    show a.data[i] = x
    simpa [toL] using this
  simp [this]
theorem drop_eq {α : Type} {l : List α} {n : Nat} {y : α} {r : List α} (h : l.drop n = y :: r) : l.drop (n + 1) = r := by
  have := congrArg (List.drop 1) h
  simpa [List.drop_drop, Nat.add_comm] using this
theorem drop_len {α : Type} {l : List α} {n : Nat} (h : l.drop n = []) : l.length ≤ n := by
  have := congrArg List.length h
  simp at this
  omega
theorem texts_l0 (a b : ByteArray) (ha : a.size ≤ 9223372036854775806) (hb : b.size ≤ 9223372036854775806) : ∀ (l : List UInt8) (i : Nat), (toL a).drop i = l → i ≤ a.size → i ≤ b.size →
    Ev (fun k => lambrequinref01_texts.l0 k a b i) (cmpL l ((toL b).drop i))
  | [], i, h, hia, hib => by
    have e := drop_len h
    rw [toL_len] at e
    refine Ev.step (fun k => by rw [lambrequinref01_texts.l0]) ?_
    refine Ev.neg (by omega) ?_
    refine Ev.step (fun k => by rw [lambrequinref01_texts.j1]) ?_
    refine Ev.neg (by decide) ?_
    cases hd : (toL b).drop i with
    | nil =>
      have e2 := drop_len hd
      rw [toL_len] at e2
      refine Ev.neg (by omega) ?_
      refine Ev.neg (by omega) ?_
      exact Ev.now _
    | cons y m =>
      have := (bt_toL hd).2
      refine Ev.pos (by omega) ?_
      exact Ev.now _
  | x :: l, i, h, hia, hib => by
    obtain ⟨hx, hi⟩ := bt_toL h
    refine Ev.step (fun k => by rw [lambrequinref01_texts.l0]) ?_
    refine Ev.pos (by omega) ?_
    refine Ev.step (fun k => by rw [lambrequinref01_texts.j1]) ?_
    cases hd : (toL b).drop i with
    | nil =>
      have e2 := drop_len hd
      rw [toL_len] at e2
      refine Ev.neg (by simp; omega) ?_
      refine Ev.neg (by omega) ?_
      refine Ev.pos (by omega) ?_
      exact Ev.now _
    | cons y m =>
      obtain ⟨hy, hj⟩ := bt_toL hd
      refine Ev.pos (by simp; omega) ?_
      refine Ev.pos (by omega) ?_
      refine Ev.pos (by omega) ?_
      refine Ev.pos (by omega) ?_
      rw [hx, hy, wrap_up (by omega), cmpL]
      by_cases h1 : x < y
      · rw [if_pos h1]
        refine Ev.pos (by have := UInt8.lt_iff_toNat_lt.1 h1; omega) (Ev.now _)
      · rw [if_neg h1]
        have q1 : ¬ (x.toNat : Int) < (y.toNat : Int) := fun q => h1 (UInt8.lt_iff_toNat_lt.2 (by omega))
        refine Ev.neg q1 ?_
        by_cases h2 : y < x
        · rw [if_pos h2]
          refine Ev.pos (by have := UInt8.lt_iff_toNat_lt.1 h2; omega) (Ev.now _)
        · rw [if_neg h2]
          have q2 : ¬ (x.toNat : Int) > (y.toNat : Int) := fun q => h2 (UInt8.lt_iff_toNat_lt.2 (by omega))
          refine Ev.neg q2 ?_
          rw [← drop_eq hd]
          exact texts_l0 a b ha hb l (i + 1) (drop_eq h) (by omega) (by omega)
theorem texts_ev (a b : ByteArray) (ha : a.size ≤ 9223372036854775806) (hb : b.size ≤ 9223372036854775806) : Ev (fun k => lambrequinref01_texts.f k a b) (cmpS a b) := by
  unfold lambrequinref01_texts.f
  rw [cmpS_L]
  exact texts_l0 a b ha hb (toL a) 0 rfl (by omega) (by omega)
/-- texts of a size that is read -/
def okV (v : Val) : Prop := v.sym.size ≤ 9223372036854775806
theorem ref01_ev (a b : Val) (ha : okV a) (hb : okV b) : Ev (fun k => lambrequinref01_Compare.f k a.isSym a.sym a.n b.isSym b.sym b.n) (cmpV a b) := by
  obtain ⟨s, t, n⟩ := a
  obtain ⟨s', t', n'⟩ := b
  unfold lambrequinref01_Compare.f cmpV
  cases s <;> cases s'
  · refine Ev.neg (by simp) ?_
    refine Ev.neg (by simp) ?_
    simp only [Bool.false_eq_true, if_false]
    unfold cmpI
    by_cases h : n < n'
    · refine Ev.iff (Ev.pos h (Ev.now _)) ?_
      rw [if_pos h]
    · refine Ev.neg h ?_
      by_cases h2 : n > n'
      · refine Ev.iff (Ev.pos h2 (Ev.now _)) ?_
        rw [if_neg h, if_pos h2]
      · refine Ev.iff (Ev.neg h2 (Ev.now _)) ?_
        rw [if_neg h, if_neg h2]
  · refine Ev.pos (by simp) ?_
    refine Ev.pos rfl ?_
    exact Ev.now _
  · refine Ev.pos (by simp) ?_
    refine Ev.neg (by simp) ?_
    exact Ev.now _
  · refine Ev.neg (by simp) ?_
    refine Ev.pos rfl ?_
    exact Ev.bind (texts_ev t t' ha hb) (Ev.now _)
theorem same01_ev (a b : Val) (ha : okV a) (hb : okV b) : Ev (fun k => lambrequinref01_Same.f k a.isSym a.sym a.n b.isSym b.sym b.n) (cmpV a b == 0) := by
  unfold lambrequinref01_Same.f
  exact Ev.bind (ref01_ev a b ha hb) (Ev.now _)
theorem ref03_l0 (a b : List Val) (ha : a.length ≤ 9223372036854775806) (hb : b.length ≤ 9223372036854775806) (hva : ∀ v ∈ a, okV v) (hvb : ∀ v ∈ b, okV v) : ∀ (l : List Val) (i : Nat), a.drop i = l → i ≤ a.length → i ≤ b.length →
    Ev (fun k => lambrequinref03_Compare.l0 k a b i) (cmpR l (b.drop i))
  | [], i, h, hia, hib => by
    have e := drop_len h
    refine Ev.step (fun k => by rw [lambrequinref03_Compare.l0]) ?_
    refine Ev.neg (by omega) ?_
    refine Ev.step (fun k => by rw [lambrequinref03_Compare.j1]) ?_
    refine Ev.neg (by decide) ?_
    cases hd : b.drop i with
    | nil =>
      have e2 := drop_len hd
      refine Ev.neg (by omega) ?_
      refine Ev.neg (by omega) ?_
      exact Ev.now _
    | cons y m =>
      have := (drop_more hd (by omega)).1
      refine Ev.pos (by omega) ?_
      exact Ev.now _
  | x :: l, i, h, hia, hib => by
    obtain ⟨g1, g2, g3, g4, g5⟩ := drop_more h (by omega)
    have hx : x ∈ a := List.mem_of_mem_drop (i := i) (by rw [h]; simp)
    refine Ev.step (fun k => by rw [lambrequinref03_Compare.l0]) ?_
    refine Ev.pos g1 ?_
    refine Ev.step (fun k => by rw [lambrequinref03_Compare.j1]) ?_
    cases hd : b.drop i with
    | nil =>
      have e2 := drop_len hd
      refine Ev.neg (by simp; omega) ?_
      refine Ev.neg (by omega) ?_
      refine Ev.pos (by omega) ?_
      exact Ev.now _
    | cons y m =>
      obtain ⟨f1, f2, f3, f4, f5⟩ := drop_more hd (by omega)
      have hy : y ∈ b := List.mem_of_mem_drop (i := i) (by rw [hd]; simp)
      refine Ev.pos (by simp; omega) ?_
      refine Ev.pos g2 ?_
      refine Ev.pos g1 ?_
      refine Ev.pos f1 ?_
      rw [show rd_T28 a i = x from g3 _, show rd_T28 b i = y from f3 _, g5, cmpR]
      refine Ev.bind (same01_ev x y (hva x hx) (hvb y hy)) ?_
      unfold lex2
      by_cases c : cmpV x y = 0
      · rw [if_pos c]
        refine Ev.pos (by simp [c]) ?_
        rw [← f4]
        exact ref03_l0 a b ha hb hva hvb l (i + 1) g4 (by omega) (by omega)
      · rw [if_neg c]
        refine Ev.neg (by simp [c]) ?_
        exact Ev.bind (ref01_ev x y (hva x hx) (hvb y hy)) (Ev.now _)
theorem ref03_ev (a b : List Val) (ha : a.length ≤ 9223372036854775806) (hb : b.length ≤ 9223372036854775806) (hva : ∀ v ∈ a, okV v) (hvb : ∀ v ∈ b, okV v) : Ev (fun k => lambrequinref03_Compare.f k a b) (cmpR a b) := by
  unfold lambrequinref03_Compare.f
  exact ref03_l0 a b ha hb hva hvb a 0 rfl (by omega) (by omega)
/-- facts of a size that is read -/
def okF (f : Fact) : Prop := f.pred.size ≤ 9223372036854775806 ∧ f.args.length ≤ 9223372036854775806 ∧ ∀ v ∈ f.args, okV v
theorem ref14_ev (a b : Fact) (ha : okF a) (hb : okF b) : Ev (fun k => lambrequinref14_Compare.f k a.pred a.args b.pred b.args) (cmpF a b) := by
  unfold lambrequinref14_Compare.f cmpF lex2
  refine Ev.bind (ref01_ev ⟨true, a.pred, 0⟩ ⟨true, b.pred, 0⟩ ha.1 hb.1) ?_
  have e : cmpV ⟨true, a.pred, 0⟩ ⟨true, b.pred, 0⟩ = cmpS a.pred b.pred := rfl
  rw [e]
  by_cases c : cmpS a.pred b.pred = 0
  · rw [if_pos c]
    refine Ev.pos c ?_
    exact Ev.bind (ref03_ev _ _ ha.2.1 hb.2.1 ha.2.2 hb.2.2) (Ev.now _)
  · rw [if_neg c]
    exact Ev.neg c (Ev.now _)
theorem rHas_l0 (l : List Fact) (x : Fact) (hl : l.length ≤ 9223372036854775806) (hok : ∀ f ∈ l, okF f) (hx : okF x) : ∀ (r : List Fact) (i : Nat), l.drop i = r → Ev (fun k => lambrequinref14_Has.l0 k l x.pred x.args i) (hasF r x)
  | [], i, h => by
    have e := drop_len h
    refine Ev.step (fun k => by rw [lambrequinref14_Has.l0]) ?_
    refine Ev.neg (by omega) ?_
    exact Ev.now _
  | y :: r, i, h => by
    obtain ⟨g1, g2, g3, g4, g5⟩ := drop_more h (by omega)
    have hy : y ∈ l := List.mem_of_mem_drop (i := i) (by rw [h]; simp)
    have ih := rHas_l0 l x hl hok hx r (i + 1) g4
    refine Ev.step (fun k => by rw [lambrequinref14_Has.l0]) ?_
    refine Ev.pos g1 ?_
    refine Ev.pos g2 ?_
    rw [show rd_T44 l i = y from g3 _, g5]
    have e : hasF (y :: r) x = (decide (cmpF y x = 0) || hasF r x) := rfl
    rw [e]
    by_cases hp : y.pred = x.pred
    · refine Ev.pos (lib_ba_eq.2 hp) ?_
      refine Ev.bind (ref03_ev _ _ (hok y hy).2.1 hx.2.1 (hok y hy).2.2 hx.2.2) ?_
      have e2 : cmpF y x = cmpR y.args x.args := by unfold cmpF lex2; rw [if_pos (cmpS_zero.2 hp)]
      rw [e2]
      by_cases c : cmpR y.args x.args = 0
      · refine Ev.pos c (Ev.some (by simp [c]))
      · refine Ev.neg c (Ev.iff ih (by simp [c]))
    · refine Ev.neg (fun q => hp (lib_ba_eq.1 q)) ?_
      have e2 : cmpF y x ≠ 0 := fun q => hp (cmpS_zero.1 (lex2_zero.1 q).1)
      exact Ev.iff ih (by simp [e2])
theorem rHas_ev (l : List Fact) (x : Fact) (hl : l.length ≤ 9223372036854775806) (hok : ∀ f ∈ l, okF f) (hx : okF x) : Ev (fun k => lambrequinref14_Has.f k l x.pred x.args) (hasF l x) := by
  unfold lambrequinref14_Has.f
  exact rHas_l0 l x hl hok hx l 0 rfl
section
variable {α : Type} [Inhabited α] [DecidableEq α]
theorem cut_mem (d : Array α) : ∀ (m : Nat), ∀ x, x ∈ Go.Lib.compactUpTo d m ↔ ∃ j, j < m ∧ d[j]! = x
  | 0, x => by simp [Go.Lib.compactUpTo]
  | m + 1, x => by
    rw [Go.Lib.compactUpTo_succ, List.mem_append, cut_mem d m x]
    constructor
    · rintro (⟨j, h1, h2⟩ | h)
      · exact ⟨j, by omega, h2⟩
      · split at h
        · exact ⟨m, by omega, by simpa using (List.mem_singleton.1 h).symm⟩
        · simp at h
    · rintro ⟨j, h1, h2⟩
      rcases Nat.lt_or_ge j m with h | h
      · exact .inl ⟨j, h, h2⟩
      · obtain rfl : j = m := by omega
        by_cases hk : Go.Lib.keeps d j = true
        · exact .inr (by rw [if_pos hk]; simp [h2])
        · left
          have : 0 < j ∧ d[j]! = d[j - 1]! := by
            unfold Go.Lib.keeps at hk
            simp at hk
            refine ⟨by omega, ?_⟩
            simpa using hk.2
          exact ⟨j - 1, by omega, by rw [← this.2]; exact h2⟩
theorem cut_sorted (lt : α → α → Prop) (le : α → α → Prop) (hle : ∀ a b c, le a b → le b c → le a c) (hlt : ∀ a b, le a b → a ≠ b → lt a b) (hll : ∀ a b c, le a b → lt b c → lt a c) (d : Array α) (hd : ∀ i j, i ≤ j → j < d.size → le d[i]! d[j]!) : ∀ (m : Nat), m ≤ d.size → (Go.Lib.compactUpTo d m).Pairwise lt
  | 0, _ => by simp [Go.Lib.compactUpTo]
  | m + 1, hm => by
    rw [Go.Lib.compactUpTo_succ, List.pairwise_append]
    refine ⟨cut_sorted lt le hle hlt hll d hd m (by omega), by split <;> simp, fun x hx y hy => ?_⟩
    split at hy
    case isFalse => simp at hy
    rename_i hk
    obtain ⟨j, hj, rfl⟩ := (cut_mem d m x).1 hx
    rw [List.mem_singleton.1 hy]
    unfold Go.Lib.keeps at hk
    simp at hk
    have hne : d[m - 1]! ≠ d[m]! := by
      intro e
      rcases hk with h | h
      · omega
      · exact h (by simpa using e.symm)
    exact hll _ _ _ (hd j (m - 1) (by omega) (by omega)) (hlt _ _ (hd (m - 1) m (by omega) (by omega)) hne)
end
def setS (l : List ByteArray) : List ByteArray := compactS (sortS l)
theorem toL_inj {a b : ByteArray} (h : toL a = toL b) : a = b := by rw [← ofL_toL a, ← ofL_toL b, h]
theorem map_toL_setS (l : List ByteArray) : (setS l).map toL = Go.Lib.compact ((l.map toL).mergeSort fun x y => decide (x ≤ y)) := by
  unfold setS compactS sortS
  rw [List.map_map, List.map_map]
  have e1 : ((toL ∘ ofL) : List UInt8 → List UInt8) = id := by funext x; simp [toL_ofL]
  rw [e1, List.map_id, List.map_id]
theorem mem_setS {l : List ByteArray} {x : ByteArray} : x ∈ setS l ↔ x ∈ l := by
  have h1 : x ∈ setS l ↔ toL x ∈ (setS l).map toL := by
    rw [List.mem_map]
    exact ⟨fun h => ⟨x, h, rfl⟩, fun ⟨y, h, e⟩ => toL_inj e ▸ h⟩
  have h2 : x ∈ l ↔ toL x ∈ (l.map toL).mergeSort fun x y => decide (x ≤ y) := by
    rw [List.mem_mergeSort, List.mem_map]
    exact ⟨fun h => ⟨x, h, rfl⟩, fun ⟨y, h, e⟩ => toL_inj e ▸ h⟩
  rw [h1, h2, map_toL_setS]
  unfold Go.Lib.compact
  generalize ((l.map toL).mergeSort fun x y => decide (x ≤ y)) = s
  rw [cut_mem, List.mem_iff_getElem]
  constructor
  · rintro ⟨j, hj, e⟩
    exact ⟨j, hj, by simpa [hj] using e⟩
  · rintro ⟨j, hj, e⟩
    exact ⟨j, hj, by simpa [hj] using e⟩
theorem setS_sorted (l : List ByteArray) : ((setS l).map toL).Pairwise (· < ·) := by
  rw [map_toL_setS]
  have hs := List.pairwise_mergeSort (le := fun x y : List UInt8 => decide (x ≤ y)) (by intro a b c; simp; exact fun h1 h2 => List.le_trans h1 h2) (by intro a b; simp; exact List.le_total a b) (l.map toL)
  unfold Go.Lib.compact
  revert hs
  generalize ((l.map toL).mergeSort fun x y => decide (x ≤ y)) = s
  intro hs
  refine cut_sorted (· < ·) (· ≤ ·) (fun a b c => List.le_trans) (fun a b h hne => ?_) (fun a b c => List.lt_of_le_of_lt) s.toArray (fun i j hij hj => ?_) s.length (by simp)
  · rcases List.le_iff_lt_or_eq.1 h with h | h
    · exact h
    · exact absurd h hne
  · simp at hj
    rcases Nat.lt_or_ge i j with h | h
    · have := List.pairwise_iff_getElem.1 hs i j (by omega) hj h
      simpa [hj, show i < s.length by omega] using this
    · obtain rfl : i = j := by omega
      exact List.le_refl _
theorem setS_ext {l l' : List ByteArray} (h : ∀ x, x ∈ l ↔ x ∈ l') : setS l = setS l' := by
  have e : (setS l).map toL = (setS l').map toL := by
    have n1 : ((setS l).map toL).Nodup := List.Pairwise.imp (R := (· < ·)) (fun {a b} h => by rintro rfl; exact List.lt_irrefl a h) (setS_sorted l)
    have n2 : ((setS l').map toL).Nodup := List.Pairwise.imp (R := (· < ·)) (fun {a b} h => by rintro rfl; exact List.lt_irrefl a h) (setS_sorted l')
    refine List.Perm.eq_of_pairwise (le := (· < ·)) ?_ (setS_sorted l) (setS_sorted l') ((List.perm_ext_iff_of_nodup n1 n2).2 fun x => ?_)
    · intro a b _ _ h1 h2
      exact absurd (List.lt_trans h1 h2) (List.lt_irrefl a)
    · rw [List.mem_map, List.mem_map]
      constructor
      · rintro ⟨y, hy, rfl⟩; exact ⟨y, mem_setS.2 ((h y).1 (mem_setS.1 hy)), rfl⟩
      · rintro ⟨y, hy, rfl⟩; exact ⟨y, mem_setS.2 ((h y).2 (mem_setS.1 hy)), rfl⟩
  have := congrArg (List.map ofL) e
  rw [List.map_map, List.map_map] at this
  have e2 : (ofL ∘ toL) = (id : ByteArray → ByteArray) := by funext x; simp [ofL_toL]
  simpa [e2] using this
theorem setS_len (l : List ByteArray) : (setS l).length ≤ l.length := by
  have := compactS_len (sortS l)
  rw [sortS_len] at this
  exact this
end Go.Proofs.Ytoekfmdcplphmaa.H
namespace Go.Proofs.Ytoekfmdcplphmaa.H
open Go.RowKit Go.Proofs.YtoekfmdcplphmaaW.PrintWords
/-- no longer than the model's longest text -/
def bStr (s : ByteArray) : Prop := s.size ≤ 9223372036854775807
/-- What an argument of a type holds, read as the kind kd; B: how long its texts are. -/
structure Opens {α : Type} (P : Program) (t : TypeId) (kd : Kd α) (B : α → Prop) : Prop where
  size : P.cellsOf t = kd.sz
  opened : ∀ {H : Type} {enc : TypeId × Value → H} {w : World} {base : Nat} {sp : Nat → Bool} {held : Bool} {fuel : Nat} {cs : List Value} {x : DataW H × List MemPlace},
    DataW.trod enc P w base sp held fuel t cs = some x → ∃ a, kd.K w a cs ∧ B a
theorem Opens.as {α : Type} {P : Program} {t : TypeId} {kd : Kd α} {B B' : α → Prop} (h : Opens P t kd B) (hB : ∀ a, B a → B' a) : Opens P t kd B' :=
  ⟨h.size, fun hx => by obtain ⟨a, ha, hb⟩ := h.opened hx; exact ⟨a, ha, hB a hb⟩⟩
theorem opens_bool {P : Program} {t : TypeId} (ht : P.underlying t = some .bool) (hs : P.cellsOf t = 1) : Opens P t Kd.bool (fun _ => True) :=
  ⟨hs, fun h => by obtain ⟨b, rfl, _⟩ := DataW.trod_bool ht h; exact ⟨b, rfl, trivial⟩⟩
theorem opens_int {P : Program} {t : TypeId} {k : IntKind} (ht : P.underlying t = some (.int k)) (hs : P.cellsOf t = 1) : Opens P t (Kd.int k) (fun _ => True) :=
  ⟨hs, fun h => by obtain ⟨b, rfl, _⟩ := DataW.trod_int ht h; exact ⟨b, rfl, trivial⟩⟩
theorem opens_string {P : Program} {t : TypeId} (ht : P.underlying t = some .string) (hs : P.cellsOf t = 1) : Opens P t Kd.string bStr :=
  ⟨hs, fun h => by obtain ⟨b, rfl, _, hb⟩ := DataW.trod_string ht h; exact ⟨b, rfl, hb⟩⟩
theorem list_of {α : Type} (p : Nat → α → Prop) : ∀ n : Nat, (∀ i, i < n → ∃ y, p i y) → ∃ l : List α, l.length = n ∧ ∀ i y, l[i]? = some y → p i y
  | 0, _ => ⟨[], rfl, fun i y h => by simp at h⟩
  | n + 1, h => by
    obtain ⟨l, hl, hp⟩ := list_of p n (fun i hi => h i (by omega))
    obtain ⟨y, hy⟩ := h n (by omega)
    refine ⟨l ++ [y], by simp [hl], fun i z hz => ?_⟩
    rcases Nat.lt_trichotomy i n with hi | rfl | hi
    · rw [List.getElem?_append_left (by omega)] at hz
      exact hp i z hz
    · rw [List.getElem?_append_right (by omega), hl, Nat.sub_self] at hz
      simp at hz
      subst hz
      exact hy
    · rw [List.getElem?_eq_none (by simp [hl]; omega)] at hz
      simp at hz
theorem addr_add_add (a : Addr) (i j : Nat) : (a.add i).add j = a.add (i + j) := by
  unfold Addr.add
  by_cases hi : i = 0 <;> by_cases hj : j = 0 <;> simp [hi, hj, Nat.add_assoc]
theorem opens_slice {α : Type} {P : Program} {t e : TypeId} {kd : Kd α} {B : α → Prop} (ht : P.underlying t = some (.slice e)) (hs : P.cellsOf t = 1) (he : Opens P e kd B) (q : Nat) : Opens P t (Kd.slice q kd) (fun l => l.length ≤ 9223372036854775807 ∧ ∀ y ∈ l, B y) := by
  refine ⟨hs, fun {H enc w base sp held fuel cs x} h => ?_⟩
  rcases DataW.trod_slice ht h with ⟨rfl, _⟩ | ⟨a, len, cap, elems, rest, n, _, rfl, _, _, hl, hm, hlen, hel, _⟩
  · exact ⟨[], ⟨none, 0, rfl, Nat.le_refl _, rfl, by simp, fun h => absurd h (by simp)⟩, by simp, by simp⟩
  · obtain ⟨l, hll, hp⟩ := list_of (fun i y => B y ∧ ∃ c, c.length = kd.sz ∧ kd.K w y c ∧ ∀ j u, c[j]? = some u → w.cell? (a.add (i * kd.sz + j)) = some u) len (fun i hi => by
      have h1 := hel i hi
      rw [List.getElem?_eq_getElem (by omega)] at h1
      obtain ⟨cs', h2, h3⟩ := Option.bind_eq_some_iff.1 h1
      obtain ⟨y, hy, hby⟩ := he.opened h3
      obtain ⟨_, h4, h5⟩ := World.cells?_some h2
      refine ⟨y, hby, cs', by rw [h4, he.size], hy, fun j u hu => ?_⟩
      have hj : j < P.cellsOf e := by rw [← h4]; exact (List.getElem?_eq_some_iff.1 hu).1
      rw [← addr_add_add, ← he.size, h5 j hj, hu])
    subst hll
    refine ⟨l, ⟨some a, cap, rfl, hl, rfl, Nat.le_trans hl (Nat.le_trans hm (by decide)), fun _ => ⟨a, rfl, fun j p hj => (hp j p hj).2⟩⟩, Nat.le_trans hl (Nat.le_trans hm (by decide)), fun y hy => ?_⟩
    obtain ⟨i, hi, rfl⟩ := List.mem_iff_getElem.1 hy
    exact (hp i _ (List.getElem?_eq_getElem hi)).1
theorem opens_iso {α β : Type} {P : Program} {t : TypeId} {kd : Kd α} {B : α → Prop} (h : Opens P t kd B) (f : β → α) (hf : ∀ b, ∃ a, f a = b) : Opens P t (Kd.iso kd f) (fun b => B (f b)) :=
  ⟨h.size, fun hx => by obtain ⟨a, ha⟩ := h.opened hx; obtain ⟨b, rfl⟩ := hf a; exact ⟨b, ha⟩⟩
/-- The fields of a struct from the offset o on. -/
structure OpensL {α : Type} (P : Program) (fs : List Field) (o : Nat) (kd : Kd α) (B : α → Prop) : Prop where
  opened : ∀ {H : Type} {enc : TypeId × Value → H} {w : World} {base : Nat} {sp : Nat → Bool} {held : Bool} {fuel : Nat} (cs : List Value), cs.length = o + kd.sz →
    (∀ f ∈ fs, ∃ x, DataW.trod enc P w base sp held fuel f.type ((cs.drop f.offset).take (P.cellsOf f.type)) = some x) → ∃ a, kd.K w a (cs.drop o) ∧ B a
theorem opensL_one {α : Type} {P : Program} {f : Field} {o : Nat} {kd : Kd α} {B : α → Prop} (ho : f.offset = o) (h : Opens P f.type kd B) : OpensL P [f] o kd B := by
  refine ⟨fun {H enc w base sp held fuel} cs hcs hf => ?_⟩
  obtain ⟨x, hx⟩ := hf f (by simp)
  obtain ⟨a, ha, hb⟩ := h.opened hx
  rw [ho, h.size, List.take_of_length_le (by simp [hcs])] at ha
  exact ⟨a, ha, hb⟩
theorem opensL_cons {α β : Type} {P : Program} {f : Field} {fs : List Field} {o : Nat} {kd : Kd α} {kd' : Kd β} {B : α → Prop} {B' : β → Prop} (ho : f.offset = o) (h : Opens P f.type kd B) (hr : OpensL P fs (o + kd.sz) kd' B') : OpensL P (f :: fs) o (Kd.pair kd kd') (fun p => B p.1 ∧ B' p.2) := by
  refine ⟨fun {H enc w base sp held fuel} cs hcs hf => ?_⟩
  obtain ⟨x, hx⟩ := hf f (by simp)
  obtain ⟨a, ha, hba⟩ := h.opened hx
  have hcs' : cs.length = o + kd.sz + kd'.sz := by rw [hcs]; show o + (kd.sz + kd'.sz) = _; omega
  obtain ⟨b, hb, hbb⟩ := hr.opened cs hcs' (fun g hg => hf g (by simp [hg]))
  rw [ho, h.size] at ha
  refine ⟨(a, b), ⟨(cs.drop o).take kd.sz, (cs.drop (o + kd.sz)), ?_, ha, hb⟩, hba, hbb⟩
  rw [← List.drop_drop, List.take_append_drop]
theorem opens_struct {α : Type} {P : Program} {t : TypeId} {fs : List Field} {kd : Kd α} {B : α → Prop} (ht : P.underlying t = some (.struct ⟨fs⟩)) (hs : P.cellsOf t = kd.sz) (h : OpensL P fs 0 kd B) : Opens P t kd B := by
  refine ⟨hs, fun {H enc w base sp held fuel cs x} hx => ?_⟩
  obtain ⟨xs, n, _, _, hl, hlen, hf⟩ := DataW.trod_struct ht hx
  obtain ⟨a, ha, hb⟩ := h.opened (enc := enc) (w := w) (base := base) (sp := sp) (held := held) (fuel := n) cs (by rw [hl, hs]; omega) (fun f hfm => by
    obtain ⟨i, hi, rfl⟩ := List.mem_iff_getElem.1 hfm
    have h1 := hf i fs[i] (by simp [hi])
    exact ⟨xs[i]'(by rw [hlen]; simpa using hi), by rw [h1, List.getElem?_eq_getElem]⟩)
  exact ⟨a, by simpa using ha, hb⟩
/-- an array of two numbers -/
theorem opens_arr2 {P : Program} {t e : TypeId} {k : IntKind} (ht : P.underlying t = some (.array 2 e)) (hu : P.underlying e = some (.int k)) (hs : P.cellsOf t = 2) (he : P.cellsOf e = 1) :
    Opens P t (Kd.pair (Kd.int k) (Kd.int k)) (fun p => (Lit.int k p.1).wf = true ∧ (Lit.int k p.2).wf = true) := by
  refine ⟨hs, fun {H enc w base sp held fuel cs x} hx => ?_⟩
  obtain ⟨xs, m, _, _, hl, hlen, hel⟩ := DataW.trod_array ht hx
  rw [hs] at hl
  match cs, hl with
  | [c0, c1], _ =>
    match xs, hlen with
    | [x0, x1], _ =>
      have h0 := hel 0 (by decide)
      have h1 := hel 1 (by decide)
      rw [he] at h0 h1
      obtain ⟨a, ea, _, wa⟩ := DataW.trod_int hu (show DataW.trod enc P w base sp held m e [c0] = some x0 from h0)
      obtain ⟨b, eb, _, wb⟩ := DataW.trod_int hu (show DataW.trod enc P w base sp held m e [c1] = some x1 from h1)
      cases ea; cases eb
      exact ⟨(a, b), ⟨[.int k a], [.int k b], rfl, rfl, rfl⟩, wa, wb⟩
theorem okWide_array {P : Program} {w : World} {r : Reach} {base : Nat} {t e : TypeId} {n : Nat} {v : Value} (ht : P.underlying t = some (.array n e)) (h : Value.okWide P w r base t v) : ∃ cs, v = .agg cs ∧ cs.size = P.cellsOf t := by
  simp only [Value.okWide, ht] at h
  obtain ⟨cs, h1, h2, _⟩ := h
  exact ⟨cs, h1, h2⟩
theorem opens_isoL {α β : Type} {P : Program} {fs : List Field} {o : Nat} {kd : Kd α} {B : α → Prop} (h : OpensL P fs o kd B) (f : β → α) (hf : ∀ b, ∃ a, f a = b) : OpensL P fs o (Kd.iso kd f) (fun b => B (f b)) := by
  refine ⟨fun {H enc w base sp held fuel} cs hcs hx => ?_⟩
  obtain ⟨a, ha⟩ := h.opened cs hcs hx
  obtain ⟨b, rfl⟩ := hf a
  exact ⟨b, ha⟩
/-- an argument's value, opened -/
theorem Opens.argB {α : Type} {P : Program} {t : TypeId} {kd : Kd α} {B : α → Prop} (h : Opens P t kd B) {H : Type} {enc : TypeId × Value → H} {w : World} {base : Nat} {sp : Nat → Bool} {held : Bool} {v : Value} {d : DataW H} {ps : List MemPlace}
    (hv : DataW.Trod enc P w base sp held t v d ps) : ∃ a, kd.K w a v.cells.toList ∧ B a := by
  obtain ⟨fuel, hf⟩ := hv
  exact h.opened hf
theorem Opens.arg {α : Type} {P : Program} {t : TypeId} {kd : Kd α} {B : α → Prop} (h : Opens P t kd B) {H : Type} {enc : TypeId × Value → H} {w : World} {base : Nat} {sp : Nat → Bool} {held : Bool} {v : Value} {d : DataW H} {ps : List MemPlace}
    (hv : DataW.Trod enc P w base sp held t v d ps) : ∃ a, kd.K w a v.cells.toList := by
  obtain ⟨a, ha, _⟩ := h.argB hv
  exact ⟨a, ha⟩
/-- An argument's row is no longer than its weight allows. -/
theorem sized_row {H : Type} {enc : TypeId × Value → H} {P : Program} {W : World} {base : Nat} {spare : Nat → Bool} {held : Bool} {t e : TypeId} {a : Option Addr} {len cap : Nat} {d : DataW H} {ps : List MemPlace} {ts : List TypeId} {ds : List (DataW H)} {j : Nat}
    (hsz : (DataW.weightsEach P ts ds).all (· ≤ reachBytes) = true) (ht : ts[j]? = some t) (hd : ds[j]? = some d) (hu : P.underlying t = some (.slice e)) {B : Nat} (hB : P.bytesOf e = B)
    (h : DataW.Trod enc P W base spare held t (.slice a len cap) d ps) : len * B ≤ 140737488351232 := by
  obtain ⟨fuel, hf⟩ := h
  rcases DataW.trod_slice hu hf with ⟨hcs, _⟩ | ⟨x, l, c, elems, rest, n, _, hcs, hx, _, hl, _, hlen, _⟩
  · simp [Value.cells] at hcs
    obtain ⟨rfl, rfl, rfl⟩ := hcs
    simp
  · simp [Value.cells] at hcs
    obtain ⟨rfl, rfl, rfl⟩ := hcs
    obtain ⟨rfl, _⟩ := Prod.mk.inj hx
    have z := sized_slice hsz ht hd hu
    rw [hB, List.length_map, List.length_map, hlen] at z
    exact Nat.le_trans (Nat.mul_le_mul_right _ (Nat.le_add_right _ _)) z
def bVal (x : Val) : Prop := True ∧ bStr (x.sym) ∧ True
theorem opens_Val : Opens Try.prog 28 k28 bVal :=
  Opens.as (opens_struct Try.underlying28 (by kernel_rfl) (opens_isoL (opensL_cons rfl (opens_bool (by kernel_rfl) (by kernel_rfl)) (opensL_cons rfl (opens_string (by kernel_rfl) (by kernel_rfl)) (opensL_one rfl (opens_int (by kernel_rfl) (by kernel_rfl))))) _ (fun b => ⟨⟨b.1, b.2.1, b.2.2⟩, rfl⟩))) (fun _ h => h)
def bFact (x : Fact) : Prop := bStr (x.pred) ∧ (x.args.length ≤ 9223372036854775807 ∧ ∀ y ∈ x.args, bVal (y))
theorem opens_Fact : Opens Try.prog 44 k44 bFact :=
  Opens.as (opens_struct Try.underlying44 (by kernel_rfl) (opens_isoL (opensL_cons rfl (opens_string (by kernel_rfl) (by kernel_rfl)) (opensL_one rfl (opens_slice (by kernel_rfl) (by kernel_rfl) opens_Val 28))) _ (fun b => ⟨⟨b.1, b.2⟩, rfl⟩))) (fun _ h => h)
def bStmt (x : Stmt) : Prop := True ∧ bStr (x.x) ∧ bStr (x.y) ∧ bStr (x.z) ∧ bStr (x.op) ∧ True ∧ True ∧ True
theorem opens_Stmt : Opens Try.prog 33 k33 bStmt :=
  Opens.as (opens_struct Try.underlying33 (by kernel_rfl) (opens_isoL (opensL_cons rfl (opens_int (by kernel_rfl) (by kernel_rfl)) (opensL_cons rfl (opens_string (by kernel_rfl) (by kernel_rfl)) (opensL_cons rfl (opens_string (by kernel_rfl) (by kernel_rfl)) (opensL_cons rfl (opens_string (by kernel_rfl) (by kernel_rfl)) (opensL_cons rfl (opens_string (by kernel_rfl) (by kernel_rfl)) (opensL_cons rfl (opens_int (by kernel_rfl) (by kernel_rfl)) (opensL_cons rfl (opens_int (by kernel_rfl) (by kernel_rfl)) (opensL_one rfl (opens_int (by kernel_rfl) (by kernel_rfl)))))))))) _ (fun b => ⟨⟨b.1, b.2.1, b.2.2.1, b.2.2.2.1, b.2.2.2.2.1, b.2.2.2.2.2.1, b.2.2.2.2.2.2.1, b.2.2.2.2.2.2.2⟩, rfl⟩))) (fun _ h => h)
end Go.Proofs.Ytoekfmdcplphmaa.H
/- an argument opened, and how long its rows and texts are -/
namespace Go.Proofs.Ytoekfmdcplphmaa.H
open Go.RowKit Go.Proofs.YtoekfmdcplphmaaW.PrintWords
def bWStr (s : ByteArray) : Prop := s.size ≤ 140737488351232
def fits {H : Type} (P : Program) (t : TypeId) (d : DataW H) : Prop := ∀ n ∈ d.weights P t, n ≤ reachBytes
structure OpensW {α : Type} (P : Program) (t : TypeId) (kd : Kd α) (B : α → Prop) : Prop where
  size : P.cellsOf t = kd.sz
  opened : ∀ {H : Type} {enc : TypeId × Value → H} {w : World} {base : Nat} {sp : Nat → Bool} {held : Bool} {fuel : Nat} {cs : List Value} {x : DataW H × List MemPlace},
    DataW.trod enc P w base sp held fuel t cs = some x → ∃ a, kd.K w a cs ∧ (fits P t x.1 → B a)
theorem OpensW.as {α : Type} {P : Program} {t : TypeId} {kd : Kd α} {B B' : α → Prop} (h : OpensW P t kd B) (hB : ∀ a, B a → B' a) : OpensW P t kd B' :=
  ⟨h.size, fun hx => by obtain ⟨a, ha, hb⟩ := h.opened hx; exact ⟨a, ha, fun hw => hB a (hb hw)⟩⟩
theorem opensW_bool {P : Program} {t : TypeId} (ht : P.underlying t = some .bool) (hs : P.cellsOf t = 1) : OpensW P t Kd.bool (fun _ => True) :=
  ⟨hs, fun h => by obtain ⟨b, rfl, _⟩ := DataW.trod_bool ht h; exact ⟨b, rfl, fun _ => trivial⟩⟩
theorem opensW_int {P : Program} {t : TypeId} {k : IntKind} (ht : P.underlying t = some (.int k)) (hs : P.cellsOf t = 1) : OpensW P t (Kd.int k) (fun _ => True) :=
  ⟨hs, fun h => by obtain ⟨b, rfl, _⟩ := DataW.trod_int ht h; exact ⟨b, rfl, fun _ => trivial⟩⟩
theorem opensW_string {P : Program} {t : TypeId} (ht : P.underlying t = some .string) (hs : P.cellsOf t = 1) : OpensW P t Kd.string bWStr :=
  ⟨hs, fun h => by
    obtain ⟨b, rfl, rfl, hb⟩ := DataW.trod_string ht h
    refine ⟨b, rfl, fun hw => ?_⟩
    have := hw b.data.toList.length (by simp [DataW.weights])
    rw [Array.length_toList] at this
    exact this⟩
theorem weightsAll_mem {H : Type} {P : Program} {e : TypeId} {n : Nat} : ∀ {ds : List (DataW H)} {d : DataW H}, d ∈ ds → n ∈ d.weights P e → n ∈ DataW.weightsAll P e ds
  | [], d, h, _ => by simp at h
  | x :: r, d, h, hn => by
    rw [DataW.weightsAll, List.mem_append]
    rcases List.mem_cons.1 h with rfl | h
    · exact .inl hn
    · exact .inr (weightsAll_mem h hn)
theorem opensW_slice {α : Type} {P : Program} {t e : TypeId} {kd : Kd α} {B : α → Prop} (ht : P.underlying t = some (.slice e)) (hs : P.cellsOf t = 1) (he : OpensW P e kd B) (q : Nat) {N : Nat} (hN : P.bytesOf e = N) : OpensW P t (Kd.slice q kd) (fun l => l.length * N ≤ 140737488351232 ∧ ∀ y ∈ l, B y) := by
  refine ⟨hs, fun {H enc w base sp held fuel cs x} h => ?_⟩
  rcases DataW.trod_slice ht h with ⟨rfl, rfl⟩ | ⟨a, len, cap, elems, rest, n, _, rfl, rfl, _, hl, hm, hlen, hel, _⟩
  · exact ⟨[], ⟨none, 0, rfl, Nat.le_refl _, rfl, by simp, fun h => absurd h (by simp)⟩, fun _ => ⟨by simp, by simp⟩⟩
  · obtain ⟨l, hll, hp⟩ := list_of (fun i y => (∀ d, elems[i]? = some d → fits P e d.1 → B y) ∧ ∃ c, c.length = kd.sz ∧ kd.K w y c ∧ ∀ j u, c[j]? = some u → w.cell? (a.add (i * kd.sz + j)) = some u) len (fun i hi => by
      have h1 := hel i hi
      rw [List.getElem?_eq_getElem (by omega)] at h1
      obtain ⟨cs', h2, h3⟩ := Option.bind_eq_some_iff.1 h1
      obtain ⟨y, hy, hby⟩ := he.opened h3
      obtain ⟨_, h4, h5⟩ := World.cells?_some h2
      refine ⟨y, fun d hd hw => hby ?_, cs', by rw [h4, he.size], hy, fun j u hu => ?_⟩
      · rw [List.getElem?_eq_getElem (by omega)] at hd
        rw [Option.some.inj hd]; exact hw
      · have hj : j < P.cellsOf e := by rw [← h4]; exact (List.getElem?_eq_some_iff.1 hu).1
        rw [← addr_add_add, ← he.size, h5 j hj, hu])
    subst hll
    refine ⟨l, ⟨some a, cap, rfl, hl, rfl, Nat.le_trans hl (Nat.le_trans hm (by decide)), fun _ => ⟨a, rfl, fun j p hj => (hp j p hj).2⟩⟩, fun hw => ⟨?_, fun y hy => ?_⟩⟩
    · have := hw _ (by simp only [DataW.weights, ht]; exact List.mem_cons_self)
      rw [List.length_map, List.length_map, hlen, hN] at this
      exact Nat.le_trans (Nat.mul_le_mul_right _ (Nat.le_add_right _ _)) this
    · obtain ⟨i, hi, rfl⟩ := List.mem_iff_getElem.1 hy
      have hie : i < elems.length := by omega
      refine (hp i _ (List.getElem?_eq_getElem hi)).1 elems[i] (List.getElem?_eq_getElem hie) (fun n hn => hw n ?_)
      simp only [DataW.weights, ht]
      exact List.mem_cons_of_mem _ (List.mem_append_left _ (weightsAll_mem (List.mem_map.2 ⟨elems[i], List.getElem_mem hie, rfl⟩) hn))
structure OpensLW {α : Type} (P : Program) (fs : List Field) (o : Nat) (kd : Kd α) (B : α → Prop) : Prop where
  opened : ∀ {H : Type} {enc : TypeId × Value → H} {w : World} {base : Nat} {sp : Nat → Bool} {held : Bool} {fuel : Nat} (F : Prop) (cs : List Value), cs.length = o + kd.sz →
    (∀ f ∈ fs, ∃ x, DataW.trod enc P w base sp held fuel f.type ((cs.drop f.offset).take (P.cellsOf f.type)) = some x ∧ (F → fits P f.type x.1)) → ∃ a, kd.K w a (cs.drop o) ∧ (F → B a)
theorem opensLW_one {α : Type} {P : Program} {f : Field} {o : Nat} {kd : Kd α} {B : α → Prop} (ho : f.offset = o) (h : OpensW P f.type kd B) : OpensLW P [f] o kd B := by
  refine ⟨fun {H enc w base sp held fuel} F cs hcs hf => ?_⟩
  obtain ⟨x, hx, hF⟩ := hf f (by simp)
  obtain ⟨a, ha, hb⟩ := h.opened hx
  rw [ho, h.size, List.take_of_length_le (by simp [hcs])] at ha
  exact ⟨a, ha, fun q => hb (hF q)⟩
theorem opensLW_cons {α β : Type} {P : Program} {f : Field} {fs : List Field} {o : Nat} {kd : Kd α} {kd' : Kd β} {B : α → Prop} {B' : β → Prop} (ho : f.offset = o) (h : OpensW P f.type kd B) (hr : OpensLW P fs (o + kd.sz) kd' B') : OpensLW P (f :: fs) o (Kd.pair kd kd') (fun p => B p.1 ∧ B' p.2) := by
  refine ⟨fun {H enc w base sp held fuel} F cs hcs hf => ?_⟩
  obtain ⟨x, hx, hF⟩ := hf f (by simp)
  obtain ⟨a, ha, hba⟩ := h.opened hx
  have hcs' : cs.length = o + kd.sz + kd'.sz := by rw [hcs]; show o + (kd.sz + kd'.sz) = _; omega
  obtain ⟨b, hb, hbb⟩ := hr.opened F cs hcs' (fun g hg => hf g (by simp [hg]))
  rw [ho, h.size] at ha
  refine ⟨(a, b), ⟨(cs.drop o).take kd.sz, (cs.drop (o + kd.sz)), ?_, ha, hb⟩, fun q => ⟨hba (hF q), hbb q⟩⟩
  rw [← List.drop_drop, List.take_append_drop]
theorem opensW_struct {α : Type} {P : Program} {t : TypeId} {fs : List Field} {kd : Kd α} {B : α → Prop} (ht : P.underlying t = some (.struct ⟨fs⟩)) (hs : P.cellsOf t = kd.sz) (h : OpensLW P fs 0 kd B) : OpensW P t kd B := by
  refine ⟨hs, fun {H enc w base sp held fuel cs x} hx => ?_⟩
  obtain ⟨xs, n, _, rfl, hl, hlen, hf⟩ := DataW.trod_struct ht hx
  obtain ⟨a, ha, hb⟩ := h.opened (enc := enc) (w := w) (base := base) (sp := sp) (held := held) (fuel := n) (fits P t (.agg (xs.map (·.1)))) cs (by rw [hl, hs]; omega) (fun f hfm => by
    obtain ⟨i, hi, rfl⟩ := List.mem_iff_getElem.1 hfm
    have h1 := hf i fs[i] (by simp [hi])
    have hix : i < xs.length := by rw [hlen]; simpa using hi
    refine ⟨xs[i], by rw [h1, List.getElem?_eq_getElem], fun hw n hn => hw n ?_⟩
    simp only [DataW.weights, ht]
    exact DataW.weights_mem_each (j := i) (by simp [hi]) (by rw [List.getElem?_map, List.getElem?_eq_getElem hix]; rfl) n hn)
  exact ⟨a, by simpa using ha, hb⟩
theorem opensW_isoL {α β : Type} {P : Program} {fs : List Field} {o : Nat} {kd : Kd α} {B : α → Prop} (h : OpensLW P fs o kd B) (f : β → α) (hf : ∀ b, ∃ a, f a = b) : OpensLW P fs o (Kd.iso kd f) (fun b => B (f b)) := by
  refine ⟨fun {H enc w base sp held fuel} F cs hcs hx => ?_⟩
  obtain ⟨a, ha⟩ := h.opened F cs hcs hx
  obtain ⟨b, rfl⟩ := hf a
  exact ⟨b, ha⟩
/-- an argument's value, opened -/
theorem OpensW.argB {α : Type} {P : Program} {t : TypeId} {kd : Kd α} {B : α → Prop} (h : OpensW P t kd B) {H : Type} {enc : TypeId × Value → H} {w : World} {base : Nat} {sp : Nat → Bool} {held : Bool} {v : Value} {d : DataW H} {ps : List MemPlace} {ts : List TypeId} {ds : List (DataW H)} {j : Nat}
    (hsz : (DataW.weightsEach P ts ds).all (· ≤ reachBytes) = true) (ht : ts[j]? = some t) (hd : ds[j]? = some d) (hv : DataW.Trod enc P w base sp held t v d ps) : ∃ a, kd.K w a v.cells.toList ∧ B a := by
  obtain ⟨fuel, hf⟩ := hv
  obtain ⟨a, ha, hb⟩ := h.opened hf
  refine ⟨a, ha, hb (fun n hn => ?_)⟩
  have := List.all_eq_true.1 hsz n (DataW.weights_mem_each ht hd n hn)
  simpa using this
def bWVal (x : Val) : Prop := True ∧ bWStr (x.sym) ∧ True
theorem opensW_Val : OpensW Try.prog 28 k28 bWVal :=
  OpensW.as (opensW_struct Try.underlying28 (by kernel_rfl) (opensW_isoL (opensLW_cons rfl (opensW_bool (by kernel_rfl) (by kernel_rfl)) (opensLW_cons rfl (opensW_string (by kernel_rfl) (by kernel_rfl)) (opensLW_one rfl (opensW_int (by kernel_rfl) (by kernel_rfl))))) _ (fun b => ⟨⟨b.1, b.2.1, b.2.2⟩, rfl⟩))) (fun _ h => h)
def bWFact (x : Fact) : Prop := bWStr (x.pred) ∧ (x.args.length * 32 ≤ 140737488351232 ∧ ∀ y ∈ x.args, bWVal (y))
theorem opensW_Fact : OpensW Try.prog 44 k44 bWFact :=
  OpensW.as (opensW_struct Try.underlying44 (by kernel_rfl) (opensW_isoL (opensLW_cons rfl (opensW_string (by kernel_rfl) (by kernel_rfl)) (opensLW_one rfl (opensW_slice (by kernel_rfl) (by kernel_rfl) opensW_Val 28 (by kernel_rfl)))) _ (fun b => ⟨⟨b.1, b.2⟩, rfl⟩))) (fun _ h => h)
def bWStmt (x : Stmt) : Prop := True ∧ bWStr (x.x) ∧ bWStr (x.y) ∧ bWStr (x.z) ∧ bWStr (x.op) ∧ True ∧ True ∧ True
theorem opensW_Stmt : OpensW Try.prog 33 k33 bWStmt :=
  OpensW.as (opensW_struct Try.underlying33 (by kernel_rfl) (opensW_isoL (opensLW_cons rfl (opensW_int (by kernel_rfl) (by kernel_rfl)) (opensLW_cons rfl (opensW_string (by kernel_rfl) (by kernel_rfl)) (opensLW_cons rfl (opensW_string (by kernel_rfl) (by kernel_rfl)) (opensLW_cons rfl (opensW_string (by kernel_rfl) (by kernel_rfl)) (opensLW_cons rfl (opensW_string (by kernel_rfl) (by kernel_rfl)) (opensLW_cons rfl (opensW_int (by kernel_rfl) (by kernel_rfl)) (opensLW_cons rfl (opensW_int (by kernel_rfl) (by kernel_rfl)) (opensLW_one rfl (opensW_int (by kernel_rfl) (by kernel_rfl)))))))))) _ (fun b => ⟨⟨b.1, b.2.1, b.2.2.1, b.2.2.2.1, b.2.2.2.2.1, b.2.2.2.2.2.1, b.2.2.2.2.2.2.1, b.2.2.2.2.2.2.2⟩, rfl⟩))) (fun _ h => h)
end Go.Proofs.Ytoekfmdcplphmaa.H
/- a flow's facts are in order, each once; their sizes -/
namespace Go.Proofs.Ytoekfmdcplphmaa.H
open Go.RowKit Go.Proofs.YtoekfmdcplphmaaW.PrintWords
theorem dd_strict : ∀ {l : List Fact}, bareL l = true → l.Pairwise (fun x y => cmpF x y ≤ 0) → (dd l).Pairwise fun x y => cmpF x y < 0
  | [], _, _ => List.Pairwise.nil
  | [a], _, _ => List.pairwise_singleton _ _
  | a :: b :: l, hb, h => by
    have hbb := hb
    unfold bareL at hbb
    rw [List.all_cons, List.all_cons, Bool.and_eq_true, Bool.and_eq_true] at hbb
    have h2 := List.pairwise_cons.1 h
    have ih := dd_strict (l := b :: l) (by unfold bareL; rw [List.all_cons, hbb.2.1, hbb.2.2]; rfl) h2.2
    rw [dd]
    split
    · exact ih
    · rename_i hne
      refine List.pairwise_cons.2 ⟨fun x hx => ?_, ih⟩
      have hab : cmpF a b < 0 := by
        have q := h2.1 b (by simp)
        have q2 : cmpF a b ≠ 0 := fun e => hne ((cmpF_zero hbb.1 hbb.2.1).1 e)
        omega
      rcases List.mem_cons.1 (mem_dd.1 hx) with rfl | hx
      · exact hab
      · exact ordF.lt' hab ((List.pairwise_cons.1 h2.2).1 x hx)
theorem factsL_bare (s : List Stmt) : bareL (factsL s) = true := by
  unfold bareL
  rw [List.all_eq_true]
  exact fun f hf => (factsL_ok hf).1
theorem ofF_strict (s : List Stmt) : (ofF s).Pairwise fun x y => cmpF x y < 0 := dd_strict (bareL_sort (factsL_bare s)) (sortF_pw _)
theorem ofF_nodup (s : List Stmt) : (ofF s).Nodup := (ofF_strict s).imp fun {a b} h => by rintro rfl; have := ordF.self a; omega
theorem ok_facts {s : List Stmt} (hB : ∀ st ∈ s, bWStmt st) {f : Fact} (h : f ∈ factsL s) : okF f := by
  obtain ⟨n, h0, h1, h⟩ := mem_factsL.1 h
  have hst : at_ s n ∈ s := by
    unfold at_ rd_T33
    rw [List.getD_eq_getElem?_getD, List.getElem?_eq_getElem (by omega)]
    exact List.getElem_mem _
  have hb := hB _ hst
  have hx : (at_ s n).x.size ≤ 140737488351232 ∧ (at_ s n).y.size ≤ 140737488351232 ∧ (at_ s n).z.size ≤ 140737488351232 := ⟨hb.2.1, hb.2.2.1, hb.2.2.2.1⟩
  have hnum : ∀ m : Int, okV (numV m) := fun m => by unfold okV; simp [ByteArray.size]
  have hsym : ∀ t : ByteArray, t.size ≤ 140737488351232 → okV (symV t) := fun t ht => by unfold okV; show t.size ≤ _; omega
  have hu : ∀ y ∈ usesS (at_ s n), y.size ≤ 140737488351232 := fun y hy => by
    unfold usesS at hy
    split at hy
    · have hm : y ∈ [(at_ s n).y, (at_ s n).z] := mem_setS.1 hy
      simp at hm
      rcases hm with rfl | rfl
      · exact hx.2.1
      · exact hx.2.2
    split at hy
    · rw [List.mem_singleton] at hy; subst hy; exact hx.2.1
    · simp at hy
  have hd : (defN (at_ s n)).1.size ≤ 140737488351232 := by
    unfold defN
    split
    · exact hx.1
    · simp [ByteArray.size]
  rcases mem_oneL.1 h with rfl | ⟨m', hm, rfl⟩ | ⟨y, hy, rfl⟩ | ⟨k, y, hy, rfl⟩ | ⟨h1, rfl⟩ | ⟨h1, k, rfl⟩ | ⟨h1, k, y, hy, rfl⟩
  · exact ⟨by simp [ByteArray.size], by simp, fun v hv => by simp at hv; subst hv; exact hnum n⟩
  · exact ⟨by simp [ByteArray.size], by simp, fun v hv => by simp at hv; rcases hv with rfl | rfl <;> exact hnum _⟩
  · exact ⟨by simp [ByteArray.size], by simp, fun v hv => by simp at hv; rcases hv with rfl | rfl; exact hnum n; exact hsym y (hu y hy)⟩
  · exact ⟨by simp [ByteArray.size], by simp, fun v hv => by simp at hv; rcases hv with rfl | rfl; exact hnum n; exact hsym y (hu y hy)⟩
  · exact ⟨by simp [ByteArray.size], by simp, fun v hv => by simp at hv; rcases hv with rfl | rfl; exact hnum n; exact hsym _ hd⟩
  · exact ⟨by simp [ByteArray.size], by simp, fun v hv => by simp at hv; rcases hv with rfl | rfl; exact hnum n; exact hsym _ hd⟩
  · exact ⟨by simp [ByteArray.size], by simp, fun v hv => by simp at hv; rcases hv with rfl | rfl | rfl; exact hnum n; exact hsym _ hd; exact hsym y (hu y hy)⟩
end Go.Proofs.Ytoekfmdcplphmaa.H

/- RowFactsSorted of the seat's law FactsSorted: the law holds, under the statement's own conditions. -/
import Derived.Test.YtoekfmdcplphmaaNXFactsSorted
import Derived.Test.YtoekfmdcplphmaaNXFactsSorted1
import Derived.Shelf.GgSortFunc.InsertionK
import Derived.Shelf.SlSortCmp.NoneTotal
import Derived.Sort.Grow
import Derived.Shelf.SlSortCmp.QuietGrown
import Derived.Test.YtoekfmdcplphmaaNW
import Derived.Deep.DeepMust
import Derived.Deep.RegionHeld3
import Derived.Deep.DrawnRows
import Derived.Deep.QuietTactic
import Derived.BigQuiet
set_option linter.unusedVariables false
set_option linter.unusedSimpArgs false
set_option linter.unusedSectionVars false
/- a statement's facts, in plain words -/
namespace Go.Proofs.Ytoekfmdcplphmaa.H
open Go.RowKit Go.Proofs.YtoekfmdcplphmaaW.PrintWords
abbrev noS : ByteArray := ⟨#[]⟩
abbrev numV (n : Int) : Val := ⟨false, noS, n⟩
abbrev symV (s : ByteArray) : Val := ⟨true, s, 0⟩
abbrev fNode (n : Int) : Fact := ⟨⟨#[110, 111, 100, 101]⟩, [numV n]⟩
abbrev fNext (n m : Int) : Fact := ⟨⟨#[110, 101, 120, 116]⟩, [numV n, numV m]⟩
abbrev fUse (n : Int) (y : ByteArray) : Fact := ⟨⟨#[117, 115, 101]⟩, [numV n, symV y]⟩
abbrev fSink (n : Int) (y : ByteArray) : Fact := ⟨⟨#[115, 105, 110, 107]⟩, [numV n, symV y]⟩
abbrev fDef (n : Int) (x : ByteArray) : Fact := ⟨⟨#[100, 101, 102]⟩, [numV n, symV x]⟩
abbrev fSource (n : Int) (x : ByteArray) : Fact := ⟨⟨#[115, 111, 117, 114, 99, 101]⟩, [numV n, symV x]⟩
abbrev fFlow (n : Int) (x y : ByteArray) : Fact := ⟨⟨#[102, 108, 111, 119]⟩, [numV n, symV x, symV y]⟩
def useF (st : Stmt) (n : Int) (y : ByteArray) : List Fact := fUse n y :: if st.kind = 6 then [fSink n y] else []
def defF (st : Stmt) (n : Int) (us : List ByteArray) : List Fact :=
  if (defN st).2 = true then fDef n (defN st).1 :: (if st.kind = 4 then [fSource n (defN st).1] else if st.kind = 2 ∨ st.kind = 3 then us.map (fFlow n (defN st).1) else []) else []
def oneL (s : List Stmt) (n : Int) : List Fact := fNode n :: (nxt s n).map (fNext n) ++ (usesS (at_ s n)).flatMap (useF (at_ s n) n) ++ defF (at_ s n) n (usesS (at_ s n))
theorem useF_len (st : Stmt) (n : Int) (y : ByteArray) : (useF st n y).length ≤ 2 := by unfold useF; split <;> simp
theorem one_l2 (n : Int) (x : ByteArray) (us : List ByteArray) (hl : us.length ≤ 1000) : ∀ (r : List ByteArray) (i : Nat) (acc : List Fact), us.drop i = r → acc.length + r.length ≤ 10000 →
    Ev (fun k => facts_one.l2 k acc x us (us.length : Int) i false noS n) (acc ++ r.map (fFlow n x))
  | [], i, acc, h, ha => by
    refine Ev.step (fun k => by rw [facts_one.l2]) ?_
    refine Ev.neg (drop_end h) ?_
    exact Ev.some (by simp)
  | y :: r, i, acc, h, ha => by
    obtain ⟨g1, g2, g3, g4, g5⟩ := drop_more h (by omega)
    refine Ev.step (fun k => by rw [facts_one.l2]) ?_
    refine Ev.pos g1 ?_
    refine Ev.pos g2 ?_
    refine Ev.pos g1 ?_
    rw [show rdOf ByteArray.empty us i = y from g3 _, g5]
    refine Ev.pure rfl ?_
    refine Ev.pure rfl ?_
    refine Ev.pure rfl ?_
    refine Ev.pos (by simp at ha ⊢; omega) ?_
    refine Ev.iff (one_l2 n x us hl r (i + 1) (acc ++ [fFlow n x y]) g4 (by simp at ha ⊢; omega)) (by simp)
theorem one_def (st : Stmt) (n : Int) (us : List ByteArray) (hl : us.length ≤ 1000) (acc : List Fact) (ha : acc.length ≤ 5000) {g : Nat → Option (List Fact)}
    (hg : ∀ k, g k = ((cfg_Def.f st.kind st.x st.y st.z st.op st.n st.a st.b).bind fun bt164 => (if bt164.2 = true then ((value_Sym.f bt164.1).bind fun bt166 => ((facts_fact.f (⟨#[100, 101, 102]⟩ : ByteArray) (([(⟨false, noS, n⟩ : Val), (⟨bt166.1, bt166.2.1, bt166.2.2⟩ : Val)] : List (Val)))).bind fun bt172 => (if acc.length < 3518437208883 then ((some (acc ++ [(⟨bt172.1, bt172.2⟩ : Fact)] : List (Fact))).bind fun y176 => (if st.kind = 4 then ((value_Sym.f bt164.1).bind fun bt179 => ((facts_fact.f (⟨#[115, 111, 117, 114, 99, 101]⟩ : ByteArray) (([(⟨false, noS, n⟩ : Val), (⟨bt179.1, bt179.2.1, bt179.2.2⟩ : Val)] : List (Val)))).bind fun bt185 => (if y176.length < 3518437208883 then (some (y176 ++ [(⟨bt185.1, bt185.2⟩ : Fact)])) else (none)))) else (if st.kind = 2 then (facts_one.j2 k y176 us bt164.1 (st.kind == 2) false noS n) else (facts_one.j2 k y176 us bt164.1 (st.kind == 3) false noS n)))) else (none)))) else (some acc)))) :
    Ev g (acc ++ defF st n us) := by
  have e : g = _ := funext hg
  rw [e]
  clear e hg
  refine Ev.pure (Def_eq st) ?_
  unfold defF
  by_cases hd : (defN st).2 = true
  · rw [if_pos hd]
    refine Ev.pos hd ?_
    refine Ev.pure rfl ?_
    refine Ev.pure rfl ?_
    refine Ev.pos (by omega) ?_
    refine Ev.pure rfl ?_
    by_cases k4 : st.kind = 4
    · rw [if_pos k4]
      refine Ev.pos k4 ?_
      refine Ev.pure rfl ?_
      refine Ev.pure rfl ?_
      refine Ev.pos (by simp; omega) ?_
      exact Ev.some (by simp)
    · rw [if_neg k4]
      refine Ev.neg k4 ?_
      by_cases k2 : st.kind = 2
      · rw [if_pos (Or.inl k2)]
        refine Ev.pos k2 ?_
        refine Ev.step (fun k => by rw [facts_one.j2]) ?_
        refine Ev.pos (by simp [k2]) ?_
        exact Ev.iff (one_l2 n (defN st).1 us hl us 0 (acc ++ [fDef n (defN st).1]) rfl (by simp; omega)) (by simp)
      · refine Ev.neg k2 ?_
        by_cases k3 : st.kind = 3
        · rw [if_pos (Or.inr k3)]
          refine Ev.step (fun k => by rw [facts_one.j2]) ?_
          refine Ev.pos (by simp [k3]) ?_
          exact Ev.iff (one_l2 n (defN st).1 us hl us 0 (acc ++ [fDef n (defN st).1]) rfl (by simp; omega)) (by simp)
        · rw [if_neg (by omega)]
          refine Ev.step (fun k => by rw [facts_one.j2]) ?_
          refine Ev.neg (by simp [k3]) ?_
          exact Ev.some (by simp)
  · rw [if_neg hd]
    refine Ev.neg hd ?_
    exact Ev.some (by simp)
theorem one_l1 (st : Stmt) (n : Int) (us : List ByteArray) (hl : us.length ≤ 1000) : ∀ (r : List ByteArray) (i : Nat) (acc : List Fact), us.drop i = r → acc.length + 2 * r.length ≤ 4000 →
    Ev (fun k => facts_one.l1 k acc us us (us.length : Int) i st.kind st.x st.y st.z st.op st.n st.a st.b false noS n) (acc ++ r.flatMap (useF st n) ++ defF st n us)
  | [], i, acc, h, ha => by
    refine Ev.step (fun k => by rw [facts_one.l1]) ?_
    refine Ev.neg (drop_end h) ?_
    refine Ev.iff (one_def st n us hl acc (by omega) (fun k => rfl)) (by simp)
  | y :: r, i, acc, h, ha => by
    obtain ⟨g1, g2, g3, g4, g5⟩ := drop_more h (by omega)
    refine Ev.step (fun k => by rw [facts_one.l1]) ?_
    refine Ev.pos g1 ?_
    refine Ev.pos g2 ?_
    refine Ev.pos g1 ?_
    rw [show rdOf ByteArray.empty us i = y from g3 _, g5]
    refine Ev.pure rfl ?_
    refine Ev.pure rfl ?_
    refine Ev.pos (by simp at ha ⊢; omega) ?_
    refine Ev.pure rfl ?_
    by_cases k6 : st.kind = 6
    · refine Ev.pos k6 ?_
      refine Ev.pure rfl ?_
      refine Ev.pure rfl ?_
      refine Ev.pos (by simp at ha ⊢; omega) ?_
      refine Ev.iff (one_l1 st n us hl r (i + 1) ((acc ++ [fUse n y]) ++ [fSink n y]) g4 (by simp at ha ⊢; omega)) (by simp [useF, k6])
    · refine Ev.neg k6 ?_
      refine Ev.iff (one_l1 st n us hl r (i + 1) (acc ++ [fUse n y]) g4 (by simp at ha ⊢; omega)) (by simp [useF, k6])
theorem one_l0 (st : Stmt) (n : Int) (tos : List Int) (hl : tos.length ≤ 1000) : ∀ (r : List Int) (i : Nat) (acc : List Fact), tos.drop i = r → acc.length + r.length ≤ 2000 →
    Ev (fun k => facts_one.l0 k acc tos (tos.length : Int) i st.kind st.x st.y st.z st.op st.n st.a st.b false noS n) (acc ++ r.map (fNext n) ++ (usesS st).flatMap (useF st n) ++ defF st n (usesS st))
  | [], i, acc, h, ha => by
    refine Ev.step (fun k => by rw [facts_one.l0]) ?_
    refine Ev.neg (drop_end h) ?_
    refine Ev.pure (Uses_eq st) ?_
    have := usesS_len st
    refine Ev.iff (one_l1 st n (usesS st) (by omega) (usesS st) 0 acc rfl (by simp at ha; omega)) (by simp)
  | y :: r, i, acc, h, ha => by
    obtain ⟨g1, g2, g3, g4, g5⟩ := drop_more h (by omega)
    refine Ev.step (fun k => by rw [facts_one.l0]) ?_
    refine Ev.pos g1 ?_
    refine Ev.pos g2 ?_
    refine Ev.pos g1 ?_
    rw [show rd tos i = y from g3 _, g5]
    refine Ev.pure rfl ?_
    refine Ev.pure rfl ?_
    refine Ev.pos (by simp at ha ⊢; omega) ?_
    refine Ev.iff (one_l0 st n tos hl r (i + 1) (acc ++ [fNext n y]) g4 (by simp at ha ⊢; omega)) (by simp)
theorem one_ev (s : List Stmt) (n : Int) (h0 : 0 ≤ n) (h1 : n < (s.length : Int)) : Ev (fun k => facts_one.f k s n) (oneL s n) := by
  unfold facts_one.f oneL
  refine Ev.pos h0 ?_
  refine Ev.pos h1 ?_
  refine Ev.pure rfl ?_
  refine Ev.pure rfl ?_
  refine Ev.pure (Next_eq s n) ?_
  have := nxt_len s n
  exact Ev.iff (one_l0 (at_ s n) n (nxt s n) (by omega) (nxt s n) 0 [fNode n] rfl (by simp; omega)) (by simp)
theorem oneL_len (s : List Stmt) (n : Int) : (oneL s n).length ≤ 20 := by
  have h1 := nxt_len s n
  have h2 := usesS_len (at_ s n)
  have h3 : ((usesS (at_ s n)).flatMap (useF (at_ s n) n)).length ≤ 4 := by
    have : ∀ l : List ByteArray, (l.flatMap (useF (at_ s n) n)).length ≤ 2 * l.length := by
      intro l
      induction l with
      | nil => simp
      | cons a l ih => rw [List.flatMap_cons, List.length_append, List.length_cons]; have := useF_len (at_ s n) n a; omega
    have := this (usesS (at_ s n))
    omega
  have h4 : (defF (at_ s n) n (usesS (at_ s n))).length ≤ 3 := by
    unfold defF
    repeat' split
    all_goals simp
    omega
  unfold oneL
  simp only [List.length_append, List.length_cons, List.length_map]
  omega
end Go.Proofs.Ytoekfmdcplphmaa.H
namespace Go.Proofs.Ytoekfmdcplphmaa.H
open Go.RowKit Go.Proofs.YtoekfmdcplphmaaW.PrintWords Go.Proofs.YtoekfmdcplphmaaW.PrintLast Go.Proofs.YtoekfmdcplphmaaW.PrintMore
attribute [local go_sem] max2_int min2_int max_two min_two max_three min_three max_four min_four
def tuple_bare.f (a0_0 : Bool) (a0_1 : ByteArray) (a0_2 : Int) : Option (Bool × ByteArray × Int) := if a0_0 = true then ((value_Sym.f a0_1).bind fun bt103 => (some (bt103.1, bt103.2.1, bt103.2.2))) else ((value_Int.f a0_2).bind fun bt106 => (some (bt106.1, bt106.2.1, bt106.2.2)))
set_option maxHeartbeats 8000000 in
set_option maxRecDepth 100000 in
theorem tuple_bare.calls (a0_0 : Bool) (a0_1 : ByteArray) (a0_2 : Int) (r1 : Bool) (r2 : ByteArray) (r3 : Int) (w : World) (h : tuple_bare.f a0_0 a0_1 a0_2 = some (r1, r2, r3)) :
  Calls Try.prog 50 #[.agg #[.bool a0_0, .string a0_1, .int .i64 a0_2]] w fun e w' => e = .returned (.agg #[.bool r1, .string r2, .int .i64 r3]) ∧ Below w.heap.size w w' := by
 have hu28 := Try.underlying28
 have HB := Aside0.mk (Below.refl w.heap.size w)
 have H : (if a0_0 = true then ((value_Sym.f a0_1).bind fun bt103 => (some (bt103.1, bt103.2.1, bt103.2.2))) else ((value_Int.f a0_2).bind fun bt106 => (some (bt106.1, bt106.2.1, bt106.2.2)))) = some (r1, r2, r3) := h
 clear h
 by_cases c2 : a0_0 = true
 ·subst c2
  have H1 : ((value_Sym.f a0_1).bind fun bt103 => (some (bt103.1, bt103.2.1, bt103.2.2))) = some (r1, r2, r3) := by rw [if_pos rfl] at H; exact H
  clear H
  have H := H1
  clear H1
  replace H := Option.bind_eq_some_iff.mp H
  obtain ⟨⟨t103, t104, t105⟩, A30, H⟩ := H
  replace H : (some (t103, t104, t105)) = some (r1, r2, r3) := H
  have A3 := Aside0.mk A30
  clear A30
  simp only [Option.some.injEq, Prod.mk.injEq] at H
  obtain ⟨rfl, rfl, rfl⟩ := H
  go_enter Try.func50, Try.ntmps50
  go_wp2_with (first | ((with_reducible refine gate_dst (N := 1) rfl ?_); refine box_event ?hg (N := 1) ?hd (cs := #[.bool true, .string a0_1, .int .i64 a0_2]) (t := 28) ?hr ?_; (case hd => rfl); (case hg => rfl); (case hr => first | (go_simp; done) | (go_simp; rfl)); intro gb101 hg w4 hbox hb; have n0_ := Aside0.mk (below_step (by repeat (first | (with_reducible first | exact HB.out | apply below_alloc | apply pw_below_drewN | apply below_drew1) | exact HB.out)) hb); have n1_ := Aside0.mk (hbox); have n2_ := Aside0.mk ((by rw [hg]; exact (below_size (by repeat (first | (with_reducible first | exact HB.out | apply below_alloc | apply pw_below_drewN | apply below_drew1) | exact HB.out))) : w.heap.size ≤ gb101)); have n3_ := Aside0.mk ((by rw [hg]; exact (below_size (by repeat (first | (with_reducible first | exact HB.out | apply below_alloc | apply pw_below_drewN | apply below_drew1) | exact HB.out))) : w.heap.size ≤ gb101)); clear HB; have HB := n0_; have BK101 := n1_; have GW101 := n2_; have GE101 := n3_; clear n0_ n1_ n2_ n3_; clear hb hbox hg) | ((with_reducible refine gate_dst (N := 2) rfl ?_); refine box_event ?hg (N := 2) ?hd (cs := #[.bool false, .string (⟨#[]⟩ : ByteArray), .int .i64 0]) (t := 28) ?hr ?_; (case hd => rfl); (case hg => rfl); (case hr => first | (go_simp; done) | (go_simp; rfl)); intro gb102 hg w5 hbox hb; have n0_ := Aside0.mk (blk_below (g := gb101) (o := .cells #[.bool true, .string a0_1, .int .i64 a0_2] 28 (0, 0)) (by (with_reducible repeat (first | refine blk_drewN ?_ _ | refine blk_drew ?_ | refine blk_alloc ?_ _)); exact BK101.out) hb); have n1_ := Aside0.mk (below_step (by repeat (first | (with_reducible first | exact HB.out | apply below_alloc | apply pw_below_drewN | apply below_drew1 | refine below_set ?_ GE101.out) | exact HB.out)) hb); have n2_ := Aside0.mk (hbox); have n3_ := Aside0.mk ((by rw [hg]; exact (below_size (by repeat (first | (with_reducible first | exact HB.out | apply below_alloc | apply pw_below_drewN | apply below_drew1 | refine below_set ?_ GE101.out) | exact HB.out))) : w.heap.size ≤ gb102)); have n4_ := Aside0.mk ((by rw [hg]; exact (below_size (by repeat (first | (with_reducible first | exact HB.out | apply below_alloc | apply pw_below_drewN | apply below_drew1 | refine below_set ?_ GE101.out) | exact HB.out))) : w.heap.size ≤ gb102)); have n5_ := Aside0.mk ((by rw [hg]; exact Nat.ne_of_lt (blk_lt (g := gb101) (o := .cells #[.bool true, .string a0_1, .int .i64 a0_2] 28 (0, 0)) (by (with_reducible repeat (first | refine blk_drewN ?_ _ | refine blk_drew ?_ | refine blk_alloc ?_ _)); exact BK101.out)) : gb101 ≠ gb102)); have n6_ := Aside0.mk ((by rw [hg]; exact Nat.ne_of_gt (blk_lt (g := gb101) (o := .cells #[.bool true, .string a0_1, .int .i64 a0_2] 28 (0, 0)) (by (with_reducible repeat (first | refine blk_drewN ?_ _ | refine blk_drew ?_ | refine blk_alloc ?_ _)); exact BK101.out)) : gb102 ≠ gb101)); clear BK101; clear HB; have BK101 := n0_; have HB := n1_; have BK102 := n2_; have GW102 := n3_; have GE102 := n4_; have NB101_102 := n5_; have NB102_101 := n6_; clear n0_ n1_ n2_ n3_ n4_ n5_ n6_; clear hb hbox hg; have hnb6 := NB101_102.out; have hnc6 := NB102_101.out; have hcz7_0 : w5.cell? ⟨gb101, 0, none⟩ = some (.bool true) := (blk_cell BK101.out 0).trans rfl; have hcz7_1 : w5.cell? ⟨gb101, 1, none⟩ = some (.string a0_1) := (blk_cell BK101.out 1).trans rfl; have hcz7_2 : w5.cell? ⟨gb101, 2, none⟩ = some (.int .i64 a0_2) := (blk_cell BK101.out 2).trans rfl; have hfz7_0 := blk_frozen BK101.out 0; have hfz7_1 := blk_frozen BK101.out 1; have hfz7_2 := blk_frozen BK101.out 2) | ((with_reducible refine gate_callee (f := 32) rfl ?_); refine goesL_ (some 7) rfl rfl Try.func32 (by kernel_rfl) rfl #[.string a0_1] rfl (by (try simp only [List.map_toArray, List.map_cons, List.map_nil]); first | done | rfl | (simp only [List.length_drop, List.length_take]; rfl)) ?_; (with_reducible refine (value_Sym.calls a0_1 t103 t104 t105 _ A3.out).mono ?_); rintro e w8 ⟨rfl, hb⟩; refine ⟨_, rfl, ?_⟩; have n0_ := Aside0.mk (blk_below (g := gb101) (o := .cells #[.bool true, .string a0_1, .int .i64 a0_2] 28 (0, 0)) (by (with_reducible repeat (first | refine blk_drewN ?_ _ | refine blk_drew ?_ | refine blk_alloc ?_ _)); exact BK101.out) hb); have n1_ := Aside0.mk (blk_below (g := gb102) (o := .cells #[.bool false, .string (⟨#[]⟩ : ByteArray), .int .i64 0] 28 (0, 0)) (by (with_reducible repeat (first | refine blk_drewN ?_ _ | refine blk_drew ?_ | refine blk_alloc ?_ _)); exact BK102.out) hb); have n2_ := Aside0.mk (below_step (by repeat (first | (with_reducible first | exact HB.out | apply below_alloc | apply pw_below_drewN | apply below_drew1 | refine below_set ?_ GE101.out | refine below_set ?_ GE102.out) | exact HB.out)) hb); clear BK101; clear BK102; clear HB; have BK101 := n0_; have BK102 := n1_; have HB := n2_; clear n0_ n1_ n2_; (try clear hb); (try clear hb2); (try clear hk); (try clear hi); have hcz9_0 : w8.cell? ⟨gb102, 0, none⟩ = some (.bool false) := (blk_cell BK102.out 0).trans rfl; have hcz9_1 : w8.cell? ⟨gb102, 1, none⟩ = some (.string (⟨#[]⟩ : ByteArray)) := (blk_cell BK102.out 1).trans rfl; have hcz9_2 : w8.cell? ⟨gb102, 2, none⟩ = some (.int .i64 0) := (blk_cell BK102.out 2).trans rfl; have hfz9_0 := blk_frozen BK102.out 0; have hfz9_1 := blk_frozen BK102.out 1; have hfz9_2 := blk_frozen BK102.out 2))
  refine bodyPost_ret (results_cell_row rfl _ _ gb102 28 #[.bool t103, .string t104, .int .i64 t105] (0, 0) _ rfl (by (with_reducible repeat (first | refine blk_drewN ?_ _ | refine blk_drew ?_ | refine blk_alloc ?_ _)); refine blk_put (cs := #[.bool t103, .string t104, .int .i64 0]) ?_ 2 _ rfl; (with_reducible repeat (first | refine blk_drewN ?_ _ | refine blk_drew ?_ | refine blk_alloc ?_ _)); refine blk_put (cs := #[.bool t103, .string (⟨#[]⟩ : ByteArray), .int .i64 0]) ?_ 1 _ rfl; (with_reducible repeat (first | refine blk_drewN ?_ _ | refine blk_drew ?_ | refine blk_alloc ?_ _)); refine blk_put (cs := #[.bool false, .string (⟨#[]⟩ : ByteArray), .int .i64 0]) ?_ 0 _ rfl; (with_reducible repeat (first | refine blk_drewN ?_ _ | refine blk_drew ?_ | refine blk_alloc ?_ _)); exact BK102.out) Try.underlying28 rfl (by kernel_rfl)) rfl ?_
  exact ⟨by first | rfl | (simp [errW_none, errW_some] <;> rfl) | (simp [*, errW_none, errW_some] <;> rfl), by repeat (first | (with_reducible first | exact HB.out | apply below_alloc | apply pw_below_drewN | apply below_drew1 | refine below_set ?_ GE101.out | refine below_set ?_ GE102.out) | exact HB.out)⟩
 ·replace c2 := Bool.eq_false_iff.mpr c2
  subst c2
  have H1 : ((value_Int.f a0_2).bind fun bt106 => (some (bt106.1, bt106.2.1, bt106.2.2))) = some (r1, r2, r3) := by rw [if_neg (show ¬ (false = true) by decide)] at H; exact H
  clear H
  have H := H1
  clear H1
  replace H := Option.bind_eq_some_iff.mp H
  obtain ⟨⟨t106, t107, t108⟩, A100, H⟩ := H
  replace H : (some (t106, t107, t108)) = some (r1, r2, r3) := H
  have A10 := Aside0.mk A100
  clear A100
  simp only [Option.some.injEq, Prod.mk.injEq] at H
  obtain ⟨rfl, rfl, rfl⟩ := H
  go_enter Try.func50, Try.ntmps50
  go_wp2_with (first | ((with_reducible refine gate_dst (N := 1) rfl ?_); refine box_event ?hg (N := 1) ?hd (cs := #[.bool false, .string a0_1, .int .i64 a0_2]) (t := 28) ?hr ?_; (case hd => rfl); (case hg => rfl); (case hr => first | (go_simp; done) | (go_simp; rfl)); intro gb101 hg w11 hbox hb; have n0_ := Aside0.mk (below_step (by repeat (first | (with_reducible first | exact HB.out | apply below_alloc | apply pw_below_drewN | apply below_drew1) | exact HB.out)) hb); have n1_ := Aside0.mk (hbox); have n2_ := Aside0.mk ((by rw [hg]; exact (below_size (by repeat (first | (with_reducible first | exact HB.out | apply below_alloc | apply pw_below_drewN | apply below_drew1) | exact HB.out))) : w.heap.size ≤ gb101)); have n3_ := Aside0.mk ((by rw [hg]; exact (below_size (by repeat (first | (with_reducible first | exact HB.out | apply below_alloc | apply pw_below_drewN | apply below_drew1) | exact HB.out))) : w.heap.size ≤ gb101)); clear HB; have HB := n0_; have BK101 := n1_; have GW101 := n2_; have GE101 := n3_; clear n0_ n1_ n2_ n3_; clear hb hbox hg) | ((with_reducible refine gate_dst (N := 2) rfl ?_); refine box_event ?hg (N := 2) ?hd (cs := #[.bool false, .string (⟨#[]⟩ : ByteArray), .int .i64 0]) (t := 28) ?hr ?_; (case hd => rfl); (case hg => rfl); (case hr => first | (go_simp; done) | (go_simp; rfl)); intro gb102 hg w12 hbox hb; have n0_ := Aside0.mk (blk_below (g := gb101) (o := .cells #[.bool false, .string a0_1, .int .i64 a0_2] 28 (0, 0)) (by (with_reducible repeat (first | refine blk_drewN ?_ _ | refine blk_drew ?_ | refine blk_alloc ?_ _)); exact BK101.out) hb); have n1_ := Aside0.mk (below_step (by repeat (first | (with_reducible first | exact HB.out | apply below_alloc | apply pw_below_drewN | apply below_drew1 | refine below_set ?_ GE101.out) | exact HB.out)) hb); have n2_ := Aside0.mk (hbox); have n3_ := Aside0.mk ((by rw [hg]; exact (below_size (by repeat (first | (with_reducible first | exact HB.out | apply below_alloc | apply pw_below_drewN | apply below_drew1 | refine below_set ?_ GE101.out) | exact HB.out))) : w.heap.size ≤ gb102)); have n4_ := Aside0.mk ((by rw [hg]; exact (below_size (by repeat (first | (with_reducible first | exact HB.out | apply below_alloc | apply pw_below_drewN | apply below_drew1 | refine below_set ?_ GE101.out) | exact HB.out))) : w.heap.size ≤ gb102)); have n5_ := Aside0.mk ((by rw [hg]; exact Nat.ne_of_lt (blk_lt (g := gb101) (o := .cells #[.bool false, .string a0_1, .int .i64 a0_2] 28 (0, 0)) (by (with_reducible repeat (first | refine blk_drewN ?_ _ | refine blk_drew ?_ | refine blk_alloc ?_ _)); exact BK101.out)) : gb101 ≠ gb102)); have n6_ := Aside0.mk ((by rw [hg]; exact Nat.ne_of_gt (blk_lt (g := gb101) (o := .cells #[.bool false, .string a0_1, .int .i64 a0_2] 28 (0, 0)) (by (with_reducible repeat (first | refine blk_drewN ?_ _ | refine blk_drew ?_ | refine blk_alloc ?_ _)); exact BK101.out)) : gb102 ≠ gb101)); clear BK101; clear HB; have BK101 := n0_; have HB := n1_; have BK102 := n2_; have GW102 := n3_; have GE102 := n4_; have NB101_102 := n5_; have NB102_101 := n6_; clear n0_ n1_ n2_ n3_ n4_ n5_ n6_; clear hb hbox hg; have hnb13 := NB101_102.out; have hnc13 := NB102_101.out; have hcz14_0 : w12.cell? ⟨gb101, 0, none⟩ = some (.bool false) := (blk_cell BK101.out 0).trans rfl; have hcz14_1 : w12.cell? ⟨gb101, 1, none⟩ = some (.string a0_1) := (blk_cell BK101.out 1).trans rfl; have hcz14_2 : w12.cell? ⟨gb101, 2, none⟩ = some (.int .i64 a0_2) := (blk_cell BK101.out 2).trans rfl; have hfz14_0 := blk_frozen BK101.out 0; have hfz14_1 := blk_frozen BK101.out 1; have hfz14_2 := blk_frozen BK101.out 2) | ((with_reducible refine gate_callee (f := 31) rfl ?_); refine goesL_ (some 10) rfl rfl Try.func31 (by kernel_rfl) rfl #[.int .i64 a0_2] rfl (by (try simp only [List.map_toArray, List.map_cons, List.map_nil]); first | done | rfl | (simp only [List.length_drop, List.length_take]; rfl)) ?_; (with_reducible refine (value_Int.calls a0_2 t106 t107 t108 _ A10.out).mono ?_); rintro e w15 ⟨rfl, hb⟩; refine ⟨_, rfl, ?_⟩; have n0_ := Aside0.mk (blk_below (g := gb101) (o := .cells #[.bool false, .string a0_1, .int .i64 a0_2] 28 (0, 0)) (by (with_reducible repeat (first | refine blk_drewN ?_ _ | refine blk_drew ?_ | refine blk_alloc ?_ _)); exact BK101.out) hb); have n1_ := Aside0.mk (blk_below (g := gb102) (o := .cells #[.bool false, .string (⟨#[]⟩ : ByteArray), .int .i64 0] 28 (0, 0)) (by (with_reducible repeat (first | refine blk_drewN ?_ _ | refine blk_drew ?_ | refine blk_alloc ?_ _)); exact BK102.out) hb); have n2_ := Aside0.mk (below_step (by repeat (first | (with_reducible first | exact HB.out | apply below_alloc | apply pw_below_drewN | apply below_drew1 | refine below_set ?_ GE101.out | refine below_set ?_ GE102.out) | exact HB.out)) hb); clear BK101; clear BK102; clear HB; have BK101 := n0_; have BK102 := n1_; have HB := n2_; clear n0_ n1_ n2_; (try clear hb); (try clear hb2); (try clear hk); (try clear hi); have hcz16_0 : w15.cell? ⟨gb102, 0, none⟩ = some (.bool false) := (blk_cell BK102.out 0).trans rfl; have hcz16_1 : w15.cell? ⟨gb102, 1, none⟩ = some (.string (⟨#[]⟩ : ByteArray)) := (blk_cell BK102.out 1).trans rfl; have hcz16_2 : w15.cell? ⟨gb102, 2, none⟩ = some (.int .i64 0) := (blk_cell BK102.out 2).trans rfl; have hfz16_0 := blk_frozen BK102.out 0; have hfz16_1 := blk_frozen BK102.out 1; have hfz16_2 := blk_frozen BK102.out 2))
  refine bodyPost_ret (results_cell_row rfl _ _ gb102 28 #[.bool t106, .string t107, .int .i64 t108] (0, 0) _ rfl (by (with_reducible repeat (first | refine blk_drewN ?_ _ | refine blk_drew ?_ | refine blk_alloc ?_ _)); refine blk_put (cs := #[.bool t106, .string t107, .int .i64 0]) ?_ 2 _ rfl; (with_reducible repeat (first | refine blk_drewN ?_ _ | refine blk_drew ?_ | refine blk_alloc ?_ _)); refine blk_put (cs := #[.bool t106, .string (⟨#[]⟩ : ByteArray), .int .i64 0]) ?_ 1 _ rfl; (with_reducible repeat (first | refine blk_drewN ?_ _ | refine blk_drew ?_ | refine blk_alloc ?_ _)); refine blk_put (cs := #[.bool false, .string (⟨#[]⟩ : ByteArray), .int .i64 0]) ?_ 0 _ rfl; (with_reducible repeat (first | refine blk_drewN ?_ _ | refine blk_drew ?_ | refine blk_alloc ?_ _)); exact BK102.out) Try.underlying28 rfl (by kernel_rfl)) rfl ?_
  exact ⟨by first | rfl | (simp [errW_none, errW_some] <;> rfl) | (simp [*, errW_none, errW_some] <;> rfl), by repeat (first | (with_reducible first | exact HB.out | apply below_alloc | apply pw_below_drewN | apply below_drew1 | refine below_set ?_ GE101.out | refine below_set ?_ GE102.out) | exact HB.out)⟩
def tuple_Of.l0 : Nat → List (Val) → List (Val) → Int → Int → Option ((List (Val)))
 | 0, _, _, _, _ => none
 | k + 1, x3, x6, x7, x8 => if x8 < x7 then (if 0 ≤ x8 then (if x8 < (x6.length : Int) then ((tuple_bare.f ((rd_T28 x6 x8).isSym) ((rd_T28 x6 x8).sym) ((rd_T28 x6 x8).n)).bind fun bt103 => (if x3.length < 4398046511104 then (tuple_Of.l0 k (x3 ++ [(⟨bt103.1, bt103.2.1, bt103.2.2⟩ : Val)]) x6 x7 (wrap64 (x8 + 1))) else (none))) else (none)) else (none)) else (some x3)
def tuple_Of.f (k : Nat) (l0 : List (Val)) : Option ((List (Val))) := tuple_Of.l0 k ([] : List (Val)) l0 (l0.length : Int) 0
theorem tuple_Of.mono_l : ∀ k, (∀ y0 y1 y2 y3, LeO (tuple_Of.l0 k y0 y1 y2 y3) (tuple_Of.l0 (k + 1) y0 y1 y2 y3))
 | 0 => fun _ _ _ _ r h => by simp [tuple_Of.l0] at h
 | k + 1 => by
  have ih0 := tuple_Of.mono_l k
  ·intro y0 y1 y2 y3
   unfold tuple_Of.l0
   repeat' first
   | (with_reducible exact ih0 _ _ _ _)
   | (with_reducible exact LeO.refl _)
   | (with_reducible exact LeO.none _)
   | (with_reducible refine LeO.ite ?_ ?_)
   | (with_reducible refine LeO.bind ?_ (fun _ => ?_))
   | exact ih0 _ _ _ _
   | exact LeO.none _
   | refine LeO.ite ?_ ?_
   | refine LeO.bind ?_ (fun _ => ?_)
theorem tuple_Of.mono : ∀ a0 k, LeO (tuple_Of.f k a0) (tuple_Of.f (k + 1) a0) := by
 intro a0 k
 have ih0 := tuple_Of.mono_l k
 unfold tuple_Of.f
 repeat' first
   | (with_reducible exact ih0 _ _ _ _)
   | (with_reducible exact LeO.refl _)
   | (with_reducible exact LeO.none _)
   | (with_reducible refine LeO.ite ?_ ?_)
   | (with_reducible refine LeO.bind ?_ (fun _ => ?_))
   | exact ih0 _ _ _ _
   | exact LeO.none _
   | refine LeO.ite ?_ ?_
   | refine LeO.bind ?_ (fun _ => ?_)
set_option maxHeartbeats 8000000 in
set_option maxRecDepth 100000 in
theorem tuple_Of.calls (k : Nat) (A0 : Option Addr) (c0 : Nat) (l0 : List (Val)) (r : List (Val)) (w : World) (hr0 : Kd.C k28 w A0 l0.length l0) (hc0 : l0.length ≤ c0) (h : tuple_Of.f k l0 = some r) :
  Calls Try.prog 33 #[.slice A0 l0.length c0] w fun e w' => ∃ v0_ : Value, e = .returned (v0_) ∧ Kd.R k28 28 w' w.heap.size (fun _ => True) v0_ r ∧ Below w.heap.size w w' := by
 have hu28 := Try.underlying28
 have HR0 := Aside0.mk hr0
 have HC0 := Aside0.mk hc0
 clear hr0 hc0
 have HB := Aside0.mk (Below.refl w.heap.size w)
 have H : (tuple_Of.l0 k ([] : List (Val)) l0 (l0.length : Int) 0) = some r := h
 clear h
 have H' := Aside0.mk H
 clear H
 go_enter Try.func33, Try.ntmps33
 go_wp2
 go_loopg [3, 8] k (fun kq v3 v8 w' => ∃ (x3_1 : List (Val)) (x8_1 : Int), v8 = .int .i64 x8_1 ∧ Aside0 (tuple_Of.l0 kq x3_1 l0 (l0.length : Int) x8_1 = some r) ∧ Aside0 (kq ≤ k) ∧ Aside0 (Kd.R k28 28 w' w.heap.size (fun _ => True) v3 x3_1) ∧ Aside0 (Below w.heap.size w w'))
 case atStart => exact ⟨(([] : List (Val))), (0), (by first | rfl | (simp; done) | (simp [*]; done)), H', ⟨Nat.le_refl _⟩, ⟨by first | exact Kd.R_nil _ _ _ _ _ | exact Kd.N_nil _ _ _ _ _ | exact Kd.V_nil _ _ _ _ _ | exact Kd.Q_nil _ _ _ _ _ | exact Kd.S_nil _ _ _ _ _⟩, ⟨by repeat (first | (with_reducible first | exact HB.out | apply below_alloc | apply pw_below_drewN | apply below_drew1) | exact HB.out)⟩⟩
 case round =>
  clear H'
  obtain ⟨x3_1, x8_1, rfl, HA, HK1, HO_3, HB⟩ := hrel
  cases gk with
  | zero => exact absurd HA.out (by simp [tuple_Of.l0])
  | succ k1 =>
   have H := HA.out
   clear HA
   simp only [tuple_Of.l0] at H
   by_cases c2 : x8_1 < (l0.length : Int)
   ·rw [if_pos c2] at H
    have c2b0 : decide (x8_1 < (l0.length : Int)) = true := decide_eq_true c2
    clear c2
    by_cases c3 : 0 ≤ x8_1
    ·rw [if_pos c3] at H
     have c3b0 : decide (0 ≤ x8_1) = true := decide_eq_true c3
     clear c3
     by_cases c4 : x8_1 < (l0.length : Int)
     ·rw [if_pos c4] at H
      have c4b0 : decide (x8_1 < (l0.length : Int)) = true := decide_eq_true c4
      clear c4
      replace H := Option.bind_eq_some_iff.mp H
      obtain ⟨⟨t103, t104, t105⟩, A50, H⟩ := H
      replace H : (if x3_1.length < 4398046511104 then (tuple_Of.l0 k1 (x3_1 ++ [(⟨t103, t104, t105⟩ : Val)]) l0 (l0.length : Int) (wrap64 (x8_1 + 1))) else (none)) = some r := H
      have A5 := Aside0.mk A50
      clear A50
      by_cases c6 : x3_1.length < 4398046511104
      ·rw [if_pos c6] at H
       have LMc6 := Aside0.mk c6
       clear c6
       obtain ⟨y106, hy106⟩ : ∃ y_ : List (Val), y_ = (x3_1 ++ [(⟨t103, t104, t105⟩ : Val)]) := ⟨_, rfl⟩
       replace H : (tuple_Of.l0 k1 y106 l0 (l0.length : Int) (wrap64 (x8_1 + 1))) = some r := by first | (rw [hy106]; with_reducible exact H) | (have H2_ := (Option.bind_some _ _).symm.trans H; rw [hy106]; with_reducible exact H2_) | (have H2_ := (Option.bind_some _ _).symm.trans H; with_reducible exact H2_) | with_reducible exact H | (rw [hy106]; exact H) | exact H
       have Ny106 := Aside0.mk hy106
       clear hy106
       have H' := Aside0.mk H
       clear H
       have p101 : 0 ≤ (x8_1 : Int) := of_decide_eq_true (by first | (with_reducible assumption) | assumption)
       have q101 : x8_1 < (l0.length : Int) := of_decide_eq_true (by first | (with_reducible assumption) | assumption)
       obtain ⟨ad101, e101, hx101_0, hx101_1, hx101_2⟩ := at_T28 HR0.out x8_1 p101 q101
       cases e101
       replace hx101_0 := (HB.out.cell (blt_ hx101_0)).trans hx101_0
       replace hx101_1 := (HB.out.cell (blt_ hx101_1)).trans hx101_1
       replace hx101_2 := (HB.out.cell (blt_ hx101_2)).trans hx101_2
       replace p101 := eq_true p101
       replace q101 := eq_true q101
       go_wp2_with (first | ((with_reducible refine gate_dst (N := 5) rfl ?_); refine box_event ?hg (N := 5) ?hd (cs := #[.bool false, .string (⟨#[]⟩ : ByteArray), .int .i64 0]) (t := 28) ?hr ?_; (case hd => rfl); (case hg => rfl); (case hr => first | (go_simp; done) | (go_simp; rfl)); intro gb102 hg w7 hbox hb; have n0_ := Aside0.mk (Kd.R_below (Kd.R_elderB (by (with_reducible repeat (first | apply Kd.R_alloc | apply Kd.R_drewN | apply Kd.R_drew)); exact HO_3.out) gb102 (Nat.le_of_eq hg.symm)) hb); have n1_ := Aside0.mk (below_step (by repeat (first | (with_reducible first | exact HB.out | apply below_alloc | apply pw_below_drewN | apply below_drew1) | exact HB.out)) hb); have n2_ := Aside0.mk (hbox); have n3_ := Aside0.mk ((by rw [hg]; exact (below_size (by repeat (first | (with_reducible first | exact HB.out | apply below_alloc | apply pw_below_drewN | apply below_drew1) | exact HB.out))) : w.heap.size ≤ gb102)); have n4_ := Aside0.mk ((by rw [hg]; exact (below_size (by repeat (first | (with_reducible first | exact HB.out | apply below_alloc | apply pw_below_drewN | apply below_drew1) | exact HB.out))) : w.heap.size ≤ gb102)); clear HO_3; clear HB; have HO_3 := n0_; have HB := n1_; have BK102 := n2_; have GW102 := n3_; have GE102 := n4_; clear n0_ n1_ n2_ n3_ n4_; clear hb hbox hg; have hcz8_0 : w7.cell? ⟨gb102, 0, none⟩ = some (.bool false) := (blk_cell BK102.out 0).trans rfl; have hcz8_1 : w7.cell? ⟨gb102, 1, none⟩ = some (.string (⟨#[]⟩ : ByteArray)) := (blk_cell BK102.out 1).trans rfl; have hcz8_2 : w7.cell? ⟨gb102, 2, none⟩ = some (.int .i64 0) := (blk_cell BK102.out 2).trans rfl; have hfz8_0 := blk_frozen BK102.out 0; have hfz8_1 := blk_frozen BK102.out 1; have hfz8_2 := blk_frozen BK102.out 2) | ((with_reducible refine gate_callee (f := 50) rfl ?_); refine goesL_ (some 14) rfl rfl Try.func50 (by kernel_rfl) rfl #[.agg #[.bool ((rd_T28 l0 x8_1).isSym), .string ((rd_T28 l0 x8_1).sym), .int .i64 ((rd_T28 l0 x8_1).n)]] rfl (by (try simp only [List.map_toArray, List.map_cons, List.map_nil]); first | done | rfl | (simp only [List.length_drop, List.length_take]; rfl)) ?_; (with_reducible refine (tuple_bare.calls ((rd_T28 l0 x8_1).isSym) ((rd_T28 l0 x8_1).sym) ((rd_T28 l0 x8_1).n) t103 t104 t105 _ A5.out).mono ?_); rintro e w9 ⟨rfl, hb⟩; refine ⟨_, rfl, ?_⟩; have n0_ := Aside0.mk (Kd.R_below (by (with_reducible repeat (first | apply Kd.R_alloc | apply Kd.R_drewN | apply Kd.R_drew)); exact (Kd.R_mono (Kd.R_far (p := ⟨gb102, 2, none⟩) (Kd.R_far (p := ⟨gb102, 1, none⟩) (Kd.R_far (p := ⟨gb102, 0, none⟩) (Kd.R_mono HO_3.out (fun k_ hk => (⟨hk, hk.2⟩ : _ ∧ k_ ≠ gb102))) (fun _ hk => hk.2) _) (fun _ hk => hk.2) _) (fun _ hk => hk.2) _) (fun _ h_ => h_.1))) hb); have n1_ := Aside0.mk (blk_below (g := gb102) (o := .cells #[.bool ((rd_T28 l0 x8_1).isSym), .string ((rd_T28 l0 x8_1).sym), .int .i64 ((rd_T28 l0 x8_1).n)] 28 (0, 0)) (by (with_reducible repeat (first | refine blk_drewN ?_ _ | refine blk_drew ?_ | refine blk_alloc ?_ _)); refine blk_put (cs := #[.bool ((rd_T28 l0 x8_1).isSym), .string ((rd_T28 l0 x8_1).sym), .int .i64 0]) ?_ 2 _ rfl; (with_reducible repeat (first | refine blk_drewN ?_ _ | refine blk_drew ?_ | refine blk_alloc ?_ _)); refine blk_put (cs := #[.bool ((rd_T28 l0 x8_1).isSym), .string (⟨#[]⟩ : ByteArray), .int .i64 0]) ?_ 1 _ rfl; (with_reducible repeat (first | refine blk_drewN ?_ _ | refine blk_drew ?_ | refine blk_alloc ?_ _)); refine blk_put (cs := #[.bool false, .string (⟨#[]⟩ : ByteArray), .int .i64 0]) ?_ 0 _ rfl; (with_reducible repeat (first | refine blk_drewN ?_ _ | refine blk_drew ?_ | refine blk_alloc ?_ _)); exact BK102.out) hb); have n2_ := Aside0.mk (below_step (by repeat (first | (with_reducible first | exact HB.out | apply below_alloc | apply pw_below_drewN | apply below_drew1 | refine below_set ?_ GE102.out) | exact HB.out)) hb); clear HO_3; clear BK102; clear HB; have HO_3 := n0_; have BK102 := n1_; have HB := n2_; clear n0_ n1_ n2_; (try clear hb); (try clear hb2); (try clear hk); (try clear hi)) | ((with_reducible refine gate_builtin (b := .append) (xs := #[.tmp 12, .tmp 15]) rfl ?_); at_builtin; refine Kd.R_append k28 (w0 := w) w.heap.size rfl (.tmp 12) (.tmp 15) 42 28 (.agg #[(.bool false), (.string ⟨#[]⟩), (.int .i64 0)]) 32 rfl Try.underlying42 info28 rfl (by decide) (by omega) u3 x3_1 (⟨t103, t104, t105⟩ : Val) [.bool t103, .string t104, .int .i64 t105] (fun k_ => k_ ≠ gb102) (fun _ => False) rfl rfl ?aP (fun _ hk => hk.elim) ?aF ?aO ?aB ?aS ?aL ?_; (case aP => exact k28_mkM _ _ _ (⟨t103, t104, t105⟩ : Val)); (case aB => exact (by repeat (first | (with_reducible first | exact HB.out | apply below_alloc | apply pw_below_drewN | apply below_drew1 | refine below_set ?_ GE102.out) | exact HB.out))); (case aF => exact (fun k_ hk => Kd.freshB (g := gb102) (o := .cells #[.bool ((rd_T28 l0 x8_1).isSym), .string ((rd_T28 l0 x8_1).sym), .int .i64 ((rd_T28 l0 x8_1).n)] 28 (0, 0)) (by (with_reducible repeat (first | refine blk_drewN ?_ _ | refine blk_drew ?_ | refine blk_alloc ?_ _)); exact BK102.out) k_ hk)); (case aO => exact (by (with_reducible repeat (first | apply Kd.R_alloc | apply Kd.R_drewN | apply Kd.R_drew)); exact Kd.R_mono HO_3.out (fun _ hk => hk.2))); (case aS => exact (below_size (by repeat (first | (with_reducible first | exact HB.out | apply below_alloc | apply pw_below_drewN | apply below_drew1 | refine below_set ?_ GE102.out) | exact HB.out)))); (case aL => have := LMc6.out; omega); intro v107 w10 ho hb hg hat; rw [← Ny106.out] at ho; have n0_ := Aside0.mk (blk_grown (g := gb102) (o := .cells #[.bool ((rd_T28 l0 x8_1).isSym), .string ((rd_T28 l0 x8_1).sym), .int .i64 ((rd_T28 l0 x8_1).n)] 28 (0, 0)) (by (with_reducible repeat (first | refine blk_drewN ?_ _ | refine blk_drew ?_ | refine blk_alloc ?_ _)); exact BK102.out) hg (Kd.R_away HO_3.out (fun _ hk => hk.2))); have n1_ := Aside0.mk (hb); have n2_ := Aside0.mk (ho); clear BK102; clear HB; clear HO_3; have BK102 := n0_; have HB := n1_; have HO108 := n2_; clear n0_ n1_ n2_; clear ho hb hg hat))
       go_roundg k1
       case measure => have := HK1.out; omega
       case rel => exact ⟨(y106), (wrap64 (x8_1 + 1)), (by first | rfl | (simp; done) | (simp [*]; done)), H', ⟨by have := HK1.out; omega⟩, ⟨by (with_reducible repeat (first | apply Kd.R_alloc | apply Kd.R_drewN | apply Kd.R_drew)); exact Kd.R_mono HO108.out (fun _ hk => trivial)⟩, ⟨by repeat (first | (with_reducible first | exact HB.out | apply below_alloc | apply pw_below_drewN | apply below_drew1 | refine below_set ?_ GE102.out) | exact HB.out)⟩⟩
      ·rw [if_neg c6] at H
       exact absurd H (by simp)
     ·rw [if_neg c4] at H
      exact absurd H (by simp)
    ·rw [if_neg c3] at H
     exact absurd H (by simp)
   ·rw [if_neg c2] at H
    have c2b0 : decide (x8_1 < (l0.length : Int)) = false := decide_eq_false c2
    clear c2
    obtain rfl := Option.some.inj H
    go_wp2
    go_ret
    exact ⟨_, by first | rfl | (simp [errW_none, errW_some] <;> rfl) | (simp [*, errW_none, errW_some] <;> rfl), by (with_reducible repeat (first | apply Kd.R_alloc | apply Kd.R_drewN | apply Kd.R_drew)); exact HO_3.out, by repeat (first | (with_reducible first | exact HB.out | apply below_alloc | apply pw_below_drewN | apply below_drew1) | exact HB.out)⟩
end Go.Proofs.Ytoekfmdcplphmaa.H
namespace Go.Proofs.Ytoekfmdcplphmaa.H
open Go.RowKit Go.Proofs.YtoekfmdcplphmaaW.PrintWords Go.Proofs.YtoekfmdcplphmaaW.PrintLast Go.Proofs.YtoekfmdcplphmaaW.PrintMore
/-- A kind of elements whose cells are told by the element alone (no rows inside). -/
structure Flat {α : Type} (d : Kd α) (c : α → List Value) : Prop where
  M : ∀ {w base ok x cs}, d.M w base ok x cs ↔ cs = c x
  K : ∀ {w x cs}, d.K w x cs ↔ cs = c x
  len : ∀ x, (c x).length = d.sz
  one : ∀ x, ∀ u ∈ c x, u.oneCell' = true
  pos : 0 < d.sz
section
variable {α : Type} {d : Kd α} {c : α → List Value}
theorem Flat.flen (F : Flat d c) : ∀ xs : List α, (xs.flatMap c).length = xs.length * d.sz
  | [] => by simp
  | x :: xs => by rw [List.flatMap_cons, List.length_append, F.len, F.flen xs, List.length_cons, Nat.succ_mul, Nat.add_comm]
theorem Flat.fone (F : Flat d c) (xs : List α) : ∀ u ∈ xs.flatMap c, u.oneCell' = true := fun u hu => by
  obtain ⟨x, _, hx⟩ := List.mem_flatMap.1 hu
  exact F.one x u hx
theorem Flat.fdrop (F : Flat d c) : ∀ (xs : List α) (i : Nat), (xs.flatMap c).drop (i * d.sz) = (xs.drop i).flatMap c
  | xs, 0 => by simp
  | [], i + 1 => by simp
  | x :: xs, i + 1 => by
    rw [List.flatMap_cons, List.drop_append, F.len, List.drop_eq_nil_of_le (by rw [F.len, Nat.succ_mul]; omega), List.nil_append, List.drop_succ_cons, ← F.fdrop xs i]
    congr 1
    rw [Nat.succ_mul]; omega
theorem Flat.ftake (F : Flat d c) : ∀ (xs : List α) (i : Nat), (xs.flatMap c).take (i * d.sz) = (xs.take i).flatMap c
  | xs, 0 => by simp
  | [], i + 1 => by simp
  | x :: xs, i + 1 => by
    rw [List.flatMap_cons, List.take_append, F.len, List.take_of_length_le (by rw [F.len, Nat.succ_mul]; omega), List.take_succ_cons, List.flatMap_cons, ← F.ftake xs i]
    congr 2
    rw [Nat.succ_mul]; omega
theorem Flat.fget (F : Flat d c) {xs : List α} {i : Nat} {x : α} (h : xs[i]? = some x) : ((xs.flatMap c).drop (i * d.sz)).take d.sz = c x := by
  rw [F.fdrop, drop_cons h, List.flatMap_cons, List.take_append_of_le_length (by rw [F.len]; exact Nat.le_refl _), List.take_of_length_le (by rw [F.len]; exact Nat.le_refl _)]
theorem Flat.reps (F : Flat d c) {R : α → List Value → Prop} (hR : ∀ x cs, R x cs ↔ cs = c x) : ∀ {xs : List α} {inner : List Value}, Reps R d.sz xs inner ↔ inner = xs.flatMap c := by
  intro xs inner
  constructor
  · intro h
    apply List.ext_getElem?
    intro q
    by_cases hq : q < xs.length * d.sz
    · have hi : q / d.sz < xs.length := (Nat.div_lt_iff_lt_mul F.pos).2 hq
      have h1 := (hR _ _).1 (h.2 (q / d.sz) _ (List.getElem?_eq_getElem hi))
      have h2 := F.fget (List.getElem?_eq_getElem hi)
      have e : ∀ l : List Value, ((l.drop (q / d.sz * d.sz)).take d.sz)[q % d.sz]? = l[q]? := fun l => by
        rw [List.getElem?_take, if_pos (Nat.mod_lt _ F.pos), List.getElem?_drop, Nat.mul_comm, Nat.div_add_mod]
      rw [← e inner, ← e (xs.flatMap c), h1, h2]
    · rw [List.getElem?_eq_none (by rw [h.1]; omega), List.getElem?_eq_none (by rw [F.flen]; omega)]
  · rintro rfl
    exact ⟨F.flen xs, fun j p hj => (hR _ _).2 (F.fget hj)⟩
/-- what a row of one's own is, told by its block -/
structure Blk (d : Kd α) (c : α → List Value) (e : Nat) (w : World) (base : Nat) (ok : Nat → Prop) (g n cap : Nat) (xs : List α) (cur : Array Value) : Prop where
  len : n = xs.length
  okg : ok g
  bas : base ≤ g
  heap : w.heap[g]? = some (.cells cur e (0, 0))
  le : n ≤ cap
  max : cap ≤ maxLen
  size : cur.size = cap * d.sz
  take : cur.toList.take (n * d.sz) = xs.flatMap c
theorem Flat.blk (F : Flat d c) {e : Nat} {w : World} {base : Nat} {ok : Nat → Prop} {g n cap : Nat} {xs : List α} (h : d.R e w base ok (.slice (some ⟨g, 0, none⟩) n cap) xs) : ∃ cur, Blk d c e w base ok g n cap xs cur := by
  obtain ⟨hn, _, _⟩ := Kd.R_reads' h
  obtain ⟨hok, inner, ⟨hlen, ho⟩, hr⟩ := h
  rcases ho with ⟨he, _⟩ | ⟨g', cap', cur, he, hb, hh, hnc, hcm, hcs, htk⟩
  · cases he
  · cases he
    exact ⟨cur, hn, hok g rfl, hb, hh, by omega, hcm, hcs, by rw [hn, htk]; exact (F.reps (fun _ _ => F.M)).1 hr⟩
theorem Flat.row (F : Flat d c) {e : Nat} {w : World} {base : Nat} {ok : Nat → Prop} {g n cap : Nat} {xs : List α} {cur : Array Value} (h : Blk d c e w base ok g n cap xs cur) : d.R e w base ok (.slice (some ⟨g, 0, none⟩) n cap) xs := by
  have hn := h.len
  subst hn
  refine ⟨fun k hk => ?_, xs.flatMap c, ⟨F.flen xs, .inr ⟨g, cap, cur, rfl, h.bas, h.heap, h.le, h.max, h.size, h.take⟩⟩, (F.reps (fun _ _ => F.M)).2 rfl⟩
  have : g = k := by simpa [Value.ownBlock] using hk
  exact this ▸ h.okg
/-- a row that is read: its cells -/
theorem Flat.cell (F : Flat d c) {w : World} {A : Addr} {n : Nat} {xs : List α} (h : d.C w (some A) n xs) : ∀ j u, (xs.flatMap c)[j]? = some u → w.cell? (A.add j) = some u := by
  intro j u hj
  have hjl : j < xs.length * d.sz := by rw [← F.flen]; exact (List.getElem?_eq_some_iff.1 hj).1
  have hi : j / d.sz < xs.length := (Nat.div_lt_iff_lt_mul F.pos).2 hjl
  obtain ⟨ad, cs, e, hs, hK, hc⟩ := Kd.C_nth h (List.getElem?_eq_getElem hi)
  cases e
  have hk := F.K.1 hK
  have h2 := F.fget (List.getElem?_eq_getElem hi)
  have e : ((xs.flatMap c).drop (j / d.sz * d.sz)).take d.sz = cs := by rw [h2, hk]
  have h3 : cs[j % d.sz]? = some u := by
    rw [← e, List.getElem?_take, if_pos (Nat.mod_lt _ F.pos), List.getElem?_drop, Nat.mul_comm, Nat.div_add_mod]; exact hj
  have := hc _ _ h3
  rwa [Nat.mul_comm, Nat.div_add_mod] at this
end
section
variable {P : Program}
theorem run_copy_sz (w : World) (dT sT ty elem : TypeId) (b o dLen dCap : Nat) (a : Addr) (sLen sCap sz k : Nat) (cs : List Value)
    (hu : P.underlying dT = some (.slice elem)) (hs : (P.info? elem).map (·.size) = some sz) (hk : k = Nat.min sLen dLen) (hn : cs.length = k * sz)
    (hsrc : ∀ j v, cs[j]? = some v → w.cell? (a.add j) = some v) (hc : ∀ j, j < cs.length → (w.cell? ⟨b, o + j, none⟩).isSome = true) (hf : ∀ j, j < cs.length → w.frozen? ⟨b, o + j, none⟩ = false) (h1 : ∀ v ∈ cs, v.oneCell' = true) :
    (Builtin.copy_ #[dT, sT] ty #[.slice (some ⟨b, o, none⟩) dLen dCap, .slice (some a) sLen sCap]).run P w = .ok (goInt k) (w.setCells b o cs) := by
  have hl := run_loadCells_list (P := P) w a cs hsrc
  have hst := run_storeCells_cells (P := P) b o cs 0 w (by simpa using hc) (by simpa using hf) h1
  cases hq : P.info? elem with
  | none => simp [hq] at hs
  | some i =>
    have hi : i.size = sz := by simpa [hq] using hs
    simp [Builtin.copy_, run_underlying hu, Builtin.lenOf, Builtin.firstCells, sizeOf, typeInfo, hq, hi, ← hk, ← hn, hl, hst]
end
/-- the cells of a block behind 'setCells' -/
theorem setCells_heap {g : Nat} {e : TypeId} : ∀ (vs : List Value) (o : Nat) (w : World) (cur : Array Value), w.heap[g]? = some (.cells cur e (0, 0)) → o + vs.length ≤ cur.size →
    ∃ cur' : Array Value, (w.setCells g o vs).heap[g]? = some (.cells cur' e (0, 0)) ∧ cur'.size = cur.size ∧ cur'.toList = cur.toList.take o ++ vs ++ cur.toList.drop (o + vs.length)
  | [], o, w, cur, h, _ => ⟨cur, h, rfl, by simp⟩
  | v :: r, o, w, cur, h, hl => by
    have h1 := blk_set h o v
    obtain ⟨cur', h2, h3, h4⟩ := setCells_heap r (o + 1) _ _ h1 (by simp at hl ⊢; omega)
    refine ⟨cur', h2, by rw [h3]; simp, ?_⟩
    rw [h4]
    have e := list_seg_step cur.toList o v r (by simp at hl ⊢; omega)
    simpa [Array.toList_setIfInBounds, Nat.add_assoc] using e
theorem setCells_grown (g : Nat) : ∀ (vs : List Value) (o : Nat) (w : World), w.grownBy (w.setCells g o vs) (some g)
  | [], o, w => World.grownBy.refl w _
  | v :: r, o, w => grown_trans (grown_set w g o v) (setCells_grown g r (o + 1) _)
theorem seg_take {α : Type} (L C : List α) (a N : Nat) (h : a + C.length ≤ N) (hN : N ≤ L.length) : (L.take a ++ C ++ L.drop (a + C.length)).take N = (L.take N).take a ++ C ++ (L.take N).drop (a + C.length) := by
  have e1 : (L.take a).length = a := by rw [List.length_take]; omega
  have t1 : (L.take a).take N = L.take a := by rw [List.take_take, Nat.min_eq_right (by omega)]
  have t2 : C.take (N - a) = C := List.take_of_length_le (by omega)
  have t3 : (L.take N).take a = L.take a := by rw [List.take_take, Nat.min_eq_left (by omega)]
  rw [t3, List.append_assoc, List.take_append, t1, e1, List.take_append, t2, List.drop_take, List.append_assoc, Nat.sub_sub]
theorem Flat.put {α : Type} {d : Kd α} {c : α → List Value} (F : Flat d c) {e : Nat} {w : World} {base : Nat} {ok : Nat → Prop} {g n cap : Nat} {xs : List α} (h : d.R e w base ok (.slice (some ⟨g, 0, none⟩) n cap) xs) {i : Nat} (hi : i < xs.length) (x : α) :
    d.R e (w.setCells g (i * d.sz) (c x)) base ok (.slice (some ⟨g, 0, none⟩) n cap) (xs.set i x) ∧ w.grownBy (w.setCells g (i * d.sz) (c x)) (some g) := by
  obtain ⟨cur, B⟩ := F.blk h
  have hn := B.len
  subst hn
  have hle : i * d.sz + d.sz ≤ xs.length * d.sz := by rw [← Nat.succ_mul]; exact Nat.mul_le_mul_right _ hi
  have hcs : xs.length * d.sz ≤ cur.size := by rw [B.size]; exact Nat.mul_le_mul_right _ B.le
  obtain ⟨cur', h1, h2, h3⟩ := setCells_heap (c x) (i * d.sz) w cur B.heap (by rw [F.len]; omega)
  refine ⟨F.row ⟨by simp, B.okg, B.bas, h1, B.le, B.max, by rw [h2, B.size], ?_⟩, setCells_grown g _ _ _⟩
  rw [h3, seg_take _ _ _ _ (by rw [F.len]; exact hle) (by simpa using hcs), B.take, F.ftake, F.len, ← Nat.succ_mul, F.fdrop, List.set_eq_take_append_cons_drop, if_pos hi]
  simp
end Go.Proofs.Ytoekfmdcplphmaa.H
/- what slices.SortFunc leaves of a row of elements without rows -/
namespace Go.Proofs.Ytoekfmdcplphmaa.H
open Go.RowKit Go.Sort Go.Proofs.YtoekfmdcplphmaaW.PrintWords Go.Proofs.YtoekfmdcplphmaaW.PrintLast Go.Proofs.YtoekfmdcplphmaaW.PrintMore
section
variable {α : Type} [Inhabited α] {d : Kd α} {c : α → List Value}
theorem Flat.flatK (F : Flat d c) (l : List α) : flatK c d.sz l.toArray = (l.flatMap c).toArray := by
  apply Array.ext'
  apply List.ext_getElem?
  intro t
  have hp := F.pos
  by_cases ht : t < l.length * d.sz
  · have hi : t / d.sz < l.length := (Nat.div_lt_iff_lt_mul hp).2 ht
    have hm : t % d.sz < d.sz := Nat.mod_lt _ hp
    have h2 := F.fget (List.getElem?_eq_getElem hi)
    have h3 : (l.flatMap c)[t]? = (c (l[t / d.sz]'hi))[t % d.sz]? := by
      rw [← h2, List.getElem?_take, if_pos hm, List.getElem?_drop, Nat.mul_comm, Nat.div_add_mod]
    have e1 : l.toArray[t / d.sz]! = l[t / d.sz]'hi := by
      rw [getElem!_pos l.toArray _ (by simpa using hi)]
      simp
    have e2 : (c (l[t / d.sz]'hi))[t % d.sz]? = some (c (l[t / d.sz]'hi))[t % d.sz]! := by
      have hlt : t % d.sz < (c (l[t / d.sz]'hi)).length := by rw [F.len]; exact hm
      rw [getElem!_pos (c (l[t / d.sz]'hi)) (t % d.sz) hlt, List.getElem?_eq_getElem hlt]
    rw [h3]
    simp only [Go.Sort.flatK, Array.toList_map, Array.toList_range, List.getElem?_map, List.size_toArray]
    rw [List.getElem?_range ht, Option.map_some, e1]
    exact e2.symm
  · rw [List.getElem?_eq_none (by simp [Go.Sort.flatK]; omega), List.getElem?_eq_none (by simp [F.flen]; omega)]
theorem Flat.holdsK (F : Flat d c) {e : Nat} {w : World} {base : Nat} {ok : Nat → Prop} {g n cap : Nat} {l : List α} (h : d.R e w base ok (.slice (some ⟨g, 0, none⟩) n cap) l) : HoldsK c d.sz w g 0 l.toArray := by
  obtain ⟨cur, B⟩ := F.blk h
  unfold HoldsK
  rw [F.flatK]
  refine so_holds B.heap ?_
  rw [List.map_id, F.flen, ← B.len]
  exact B.take
theorem Flat.sortRow (F : Flat d c) {e : Nat} {w : World} {base : Nat} {ok : Nat → Prop} {g n cap : Nat} {l : List α} (h : d.R e w base ok (.slice (some ⟨g, 0, none⟩) n cap) l) (l' : List α) (hl : l'.length = l.length) (m : Nat) (os : Array Obj) :
    d.R e (sortWorldK c d.sz w g 0 m l'.toArray os) base ok (.slice (some ⟨g, 0, none⟩) n cap) l' ∧ w.grownBy (sortWorldK c d.sz w g 0 m l'.toArray os) (some g) := by
  obtain ⟨cur, B⟩ := F.blk h
  have hn := B.len
  have hcs : l'.length * d.sz ≤ cur.size := by rw [B.size, hl, ← hn]; exact Nat.mul_le_mul_right _ B.le
  refine ⟨?_, so_grown (enc := id) (Go.Sort.flatK c d.sz l'.toArray)⟩
  refine F.row (cur := putCells id 0 (Go.Sort.flatK c d.sz l'.toArray) cur) ⟨by omega, B.okg, B.bas, so_heap (enc := id) _ B.heap, B.le, B.max, by rw [← B.size]; simp [putCells], ?_⟩
  rw [F.flatK]
  have := so_take (enc := id) cur (l'.flatMap c) (l'.flatMap c).length (Nat.le_refl _) (by rw [F.flen]; exact hcs)
  rw [List.map_id, List.take_length, F.flen] at this
  rw [hn, ← hl]
  exact this
end
end Go.Proofs.Ytoekfmdcplphmaa.H
/- slices.SortFunc of a row of elements of any kind: the elements' cells are sorted, by their places -/
namespace Go.Proofs.Ytoekfmdcplphmaa.H
open Go.RowKit Go.Sort Go.Shelf Go.Proofs.YtoekfmdcplphmaaW.PrintWords Go.Proofs.YtoekfmdcplphmaaW.PrintLast Go.Proofs.YtoekfmdcplphmaaW.PrintMore
/-- an element's cells -/
def chunk (sz : Nat) (inner : List Value) (i : Nat) : List Value := (inner.drop (i * sz)).take sz
theorem chunk_len {sz n : Nat} {inner : List Value} (h : inner.length = n * sz) {i : Nat} (hi : i < n) : (chunk sz inner i).length = sz := by
  have := Nat.mul_le_mul_right sz (show i + 1 ≤ n from hi)
  rw [Nat.add_mul, Nat.one_mul] at this
  simp only [chunk, List.length_take, List.length_drop]
  omega
/-- elements that are told by their cells alone -/
def cellsKd {β : Type} (sz : Nat) (enc : β → List Value) (hl : ∀ x, (enc x).length = sz) (h1 : ∀ x, ∀ u ∈ enc x, u.oneCell' = true) : Kd β where
  sz := sz
  E := []
  K := fun _ x cs => cs = enc x
  M := fun _ _ _ x cs => cs = enc x
  K_len := fun h => by rw [h, hl]
  K_one := fun h u hu => by rw [h] at hu; exact h1 _ u hu
  K_below := fun _ h => h
  K_of_M := fun h => h
  M_mono := fun _ h => h
  M_bound := fun h => h
  M_move := fun _ h => h
  M_lower := fun _ h => h
theorem cellsFlat {β : Type} (sz : Nat) (hp : 0 < sz) (enc : β → List Value) (hl : ∀ x, (enc x).length = sz) (h1 : ∀ x, ∀ u ∈ enc x, u.oneCell' = true) : Flat (cellsKd sz enc hl h1) enc :=
  ⟨Iff.rfl, Iff.rfl, hl, h1, hp⟩
section
variable {α : Type} {d : Kd α} {e : Nat} {w w1 : World} {base : Nat} {ok : Nat → Prop} {v : Value} {xs : List α}
/-- a row, told by its elements' cells -/
theorem R_cells (h : d.R e w base ok v xs) : ∃ (enc : Fin xs.length → List Value) (hl : ∀ x, (enc x).length = d.sz) (h1 : ∀ x, ∀ u ∈ enc x, u.oneCell' = true),
    (cellsKd d.sz enc hl h1).R e w base ok v (List.finRange xs.length) ∧ ∀ i, d.M w base (fun k => ok k ∧ some k ≠ v.ownBlock) xs[i] (enc i) := by
  obtain ⟨h0, inner, ho, hr⟩ := h
  have hlen := hr.1
  have hM : ∀ i : Fin xs.length, d.M w base (fun k => ok k ∧ some k ≠ v.ownBlock) xs[i] (chunk d.sz inner i) := fun i => hr.2 i _ (List.getElem?_eq_getElem i.2)
  refine ⟨fun i => chunk d.sz inner i, fun i => chunk_len hlen i.2, fun i u hu => d.K_one (d.K_of_M (hM i)) u hu, ⟨h0, inner, ?_, ?_, ?_⟩, hM⟩
  · rw [List.length_finRange]; exact ho
  · rw [List.length_finRange]; exact hlen
  · intro j p hj
    obtain ⟨hlt, hp⟩ := List.getElem?_eq_some_iff.1 hj
    subst hp
    show _ = chunk d.sz inner _
    simp [cellsKd, chunk]
/-- .. and back: the same elements in any order -/
theorem R_of_cells {enc : Fin xs.length → List Value} {hl : ∀ x, (enc x).length = d.sz} {h1 : ∀ x, ∀ u ∈ enc x, u.oneCell' = true} {l : List (Fin xs.length)} (h : (cellsKd d.sz enc hl h1).R e w base ok v l)
    (hM : ∀ i, d.M w base (fun k => ok k ∧ some k ≠ v.ownBlock) xs[i] (enc i)) : d.R e w base ok v (l.map fun i => xs[i]) := by
  obtain ⟨h0, inner, ho, hr⟩ := h
  refine ⟨h0, inner, ?_, ?_, ?_⟩
  · rw [List.length_map]; exact ho
  · rw [List.length_map]; exact hr.1
  · intro j p hj
    rw [List.getElem?_map] at hj
    obtain ⟨i, hi, rfl⟩ := Option.map_eq_some_iff.1 hj
    have := hr.2 j i hi
    have e1 : (inner.drop (j * d.sz)).take d.sz = enc i := this
    rw [e1]
    exact hM i
/-- an element, copied to another place of its row -/
theorem R_copy {g n cap : Nat} (h : d.R e w base ok (.slice (some ⟨g, 0, none⟩) n cap) xs) (hp : 0 < d.sz) {i k : Nat} {y : α} (hi : xs[i]? = some y) (hk : k < xs.length) {cs : List Value} (hcs : cs.length = d.sz)
    (hc : ∀ j u, cs[j]? = some u → w.cell? ⟨g, i * d.sz + j, none⟩ = some u) :
    d.R e (w.setCells g (k * d.sz) cs) base ok (.slice (some ⟨g, 0, none⟩) n cap) (xs.set k y) ∧ w.grownBy (w.setCells g (k * d.sz) cs) (some g) := by
  obtain ⟨enc, hl, h1, hR, hM⟩ := R_cells h
  have F := cellsFlat d.sz hp enc hl h1
  obtain ⟨hil, rfl⟩ := List.getElem?_eq_some_iff.1 hi
  have e1 : cs = enc ⟨i, hil⟩ := by
    obtain ⟨-, -, hC⟩ := Kd.R_reads' hR
    obtain ⟨ad, c, ea, hcl, hK, hcell⟩ := Kd.C_nth (i := i) (y := ⟨i, hil⟩) hC (by simp [hil])
    cases ea
    have hK' : c = enc ⟨i, hil⟩ := hK
    subst hK'
    apply List.ext_getElem?
    intro j
    by_cases hj : j < cs.length
    · have q1 := hc j _ (List.getElem?_eq_getElem hj)
      have hj2 : j < (enc ⟨i, hil⟩).length := by rw [hl, ← hcs]; exact hj
      have q2 := hcell j _ (List.getElem?_eq_getElem hj2)
      have e0 : Addr.add ⟨g, 0, none⟩ (i * d.sz + j) = ⟨g, i * d.sz + j, none⟩ := by simp only [add_plain]
      rw [show (cellsKd d.sz enc hl h1).sz = d.sz from rfl, e0, q1] at q2
      rw [List.getElem?_eq_getElem hj, List.getElem?_eq_getElem hj2]
      exact q2
    · rw [List.getElem?_eq_none (by omega), List.getElem?_eq_none (by rw [hl, ← hcs]; omega)]
  subst e1
  have hP := F.put hR (i := k) (by simpa using hk) ⟨i, hil⟩
  refine ⟨?_, hP.2⟩
  have := R_of_cells (d := d) hP.1 (fun q => Kd.M_grown (hM q) hP.2 (fun k' hk' => hk'.2))
  have e2 : ((List.finRange xs.length).set k ⟨i, hil⟩).map (fun q => xs[q]) = xs.set k xs[i] := by
    rw [List.map_set]
    congr 1
    apply List.ext_getElem (by simp)
    intro j h2 h3
    simp
  rw [e2] at this
  exact this
end
theorem ext_all {α : Type} (a : Array α) {n : Nat} (h : n = a.size) : a.extract 0 n = a := by subst h; simp
section
variable {P : Program} {ρ : Ren} {α : Type} {d : Kd α}
/-- slices.SortFunc at any kind: a permutation, in order. cf: what cmp answers; it need be told of the row's elements alone. -/
theorem rowSort (L : SlLaysF0.n6 P ρ) (aE : ∀ w, (isAgg (ρ.t 24)).run P w = .ok true w) (zE : ∀ w, (Go.sizeOf (ρ.t 24)).run P w = .ok d.sz w) (hp : 0 < d.sz) (e base : Nat) (ok : Nat → Prop) (v : Value) (l : List α) (w : World) (ho : d.R e w base ok v l) (hl : l.length < 4611686018427387904)
    (cf : α → α → Int) (hirr : ∀ x ∈ l, ¬ cf x x < 0) (htr : ∀ x ∈ l, ∀ y ∈ l, ∀ z ∈ l, cf x y < 0 → cf y z < 0 → cf x z < 0) (hntr : ∀ x ∈ l, ∀ y ∈ l, ∀ z ∈ l, ¬ cf x y < 0 → ¬ cf y z < 0 → ¬ cf x z < 0) (gf : Nat)
    (eg : ∀ args w, (callFunc gf args).run P w = .ok (.enter gf args) w)
    (hcmp : ∀ (W : World) (x y : α) (cx cy : List Value), w.grownBy W v.ownBlock → x ∈ l → y ∈ l → d.K W x cx → d.K W y cy → Calls P gf #[.agg cx.toArray, .agg cy.toArray] W fun e w' => e = .returned (.int .i64 (cf x y)) ∧ ∃ q os', w' = grow (W.drewN q) os') :
    Calls P (ρ.f 6) #[v, .func (.func gf) #[] #[]] w fun e' w' => e' = .returned (.tuple #[]) ∧ ∃ l', d.R e w' base ok v l' ∧ l'.Perm l ∧ l'.Pairwise (fun x y => ¬ cf y x < 0) ∧ w.grownBy w' v.ownBlock := by
  obtain ⟨A, c, rfl, hlc, hC⟩ := Kd.R_reads ho
  rcases Nat.eq_zero_or_pos l.length with h0 | h0
  · obtain rfl := List.length_eq_zero_iff.1 h0
    refine (AnyF.slices_SortFunc_none L A c _ w).mono ?_
    rintro e' w' ⟨rfl, rfl⟩
    exact ⟨rfl, [], ho, List.Perm.refl _, List.Pairwise.nil, World.grownBy.refl _ _⟩
  · obtain ⟨b, cap, e2, hbb, hbl, cells0, hcells0⟩ := Kd.R_form ho h0
    cases e2
    obtain ⟨enc, hel, h1, hR, hM⟩ := R_cells ho
    have F := cellsFlat d.sz hp enc hel h1
    letI : Inhabited (Fin l.length) := ⟨⟨0, h0⟩⟩
    have hm : ∀ i : Fin l.length, l[i] ∈ l := fun i => List.getElem_mem _
    have hO : SWO (ltOf fun i j : Fin l.length => cf l[i] l[j]) := by
      refine ⟨fun i => ?_, fun i j k h2 h3 => ?_, fun i j k h2 h3 => ?_⟩
      · simpa [ltOf] using hirr _ (hm i)
      · simp only [ltOf, decide_eq_true_eq] at h2 h3 ⊢
        exact htr _ (hm i) _ (hm j) _ (hm k) h2 h3
      · simp only [ltOf, decide_eq_false_iff_not] at h2 h3 ⊢
        exact hntr _ (hm i) _ (hm j) _ (hm k) h2 h3
    have hcon := AnyQ.slices_SortFunc (α := Fin l.length) L d.sz aE zE enc hel h1 (fun i j => cf l[i] l[j]) hO gf #[] b 0 c (List.finRange l.length).toArray w eg
      (fun m os dk _ x y => by
        have hg : w.grownBy (sortWorldK enc d.sz w b 0 m dk os) (some b) := so_grown (enc := id) (Go.Sort.flatK enc d.sz dk)
        exact hcmp _ _ _ _ _ hg (hm x) (hm y) (d.K_of_M (Kd.M_grown (hM x) hg (fun _ hk => hk.2))) (d.K_of_M (Kd.M_grown (hM y) hg (fun _ hk => hk.2))))
      (F.holdsK hR) hbl (by simpa using hl)
    rw [List.size_toArray, List.length_finRange] at hcon
    refine hcon.mono ?_
    rintro e' w' ⟨rfl, d', n, os, hpm, hs, rfl⟩
    obtain ⟨hp1, -, hp3⟩ := hpm
    have hp2 : d'.size = l.length := by simpa using hp1
    have hperm : d'.toList.Perm (List.finRange l.length) := by
      have e1 : d'.extract 0 l.length = d' := ext_all d' hp2.symm
      have e2 : (List.finRange l.length).toArray.extract 0 l.length = (List.finRange l.length).toArray := ext_all _ (by simp)
      rw [e1, e2] at hp3
      simpa using hp3
    have hrow := F.sortRow hR d'.toList (by simpa using hp1) n os
    have e3 : d'.toList.toArray = d' := by simp
    rw [e3] at hrow
    have hfin := R_of_cells (d := d) hrow.1 (fun i => Kd.M_grown (hM i) hrow.2 (fun _ hk => hk.2))
    refine ⟨rfl, _, hfin, ?_, ?_, hrow.2⟩
    · have := hperm.map fun i => l[i]
      have e4 : (List.finRange l.length).map (fun i => l[i]) = l := by
        apply List.ext_getElem (by simp)
        intro j h2 h3
        simp
      rw [e4] at this
      exact this
    · rw [List.pairwise_map, List.pairwise_iff_getElem]
      intro i j hi hj hij
      have h := hs i j (Nat.zero_le _) hij (by have : j < d'.size := by simpa using hj
                                               omega)
      rw [getElem!_pos d' j (by simpa using hj), getElem!_pos d' i (by simpa using hi)] at h
      have h2 := of_decide_eq_false h
      simpa using h2
end
end Go.Proofs.Ytoekfmdcplphmaa.H
/- a world, some draws on, with some blocks behind -/
namespace Go.Proofs.Ytoekfmdcplphmaa.H
open Go.RowKit Go.Sort Go.Proofs.YtoekfmdcplphmaaW.PrintWords Go.Proofs.YtoekfmdcplphmaaW.PrintLast Go.Proofs.YtoekfmdcplphmaaW.PrintMore
def GrW (w w' : World) : Prop := ∃ q os', w' = grow (w.drewN q) os'
theorem GrW.refl (w : World) : GrW w w := ⟨0, #[], by rw [grow_empty]; rfl⟩
theorem GrW.trans {a b c : World} (h : GrW a b) (k : GrW b c) : GrW a c := by
  obtain ⟨q, os, rfl⟩ := h
  obtain ⟨p, os', rfl⟩ := k
  exact ⟨q + p, os ++ os', by show grow (grow ((a.drewN q).drewN p) os) os' = _; rw [grow_grow, World.drewN_drewN]⟩
theorem GrW.alloc {a b : World} (h : GrW a b) (o : Obj) : GrW a (b.alloc o) := h.trans ⟨0, #[o], by rw [alloc_eq_grow]; rfl⟩
theorem GrW.drewN {a b : World} (h : GrW a b) (n : Nat) : GrW a (b.drewN n) := h.trans ⟨n, #[], by rw [grow_empty]⟩
theorem GrW.drew {a b : World} (h : GrW a b) : GrW a b.drew := h.drewN 1
theorem GrW.grow {a b : World} (h : GrW a b) (n : Nat) (os : Array Obj) : GrW a (grow (b.drewN n) os) := h.trans ⟨n, os, rfl⟩
theorem GrW.below {a b : World} (h : GrW a b) : Below a.heap.size a b := by
  obtain ⟨q, os, rfl⟩ := h
  exact ⟨rfl, rfl, rfl, by rw [size_grow]; exact Nat.le_add_right _ _, fun k hk => heap_grow_old _ _ (by exact hk)⟩
theorem GrW.old {a b : World} (h : GrW a b) {p : Addr} {v : Value} (hx : a.cell? p = some v) : ∀ n os, (Go.Sort.grow (b.drewN n) os).cell? p = some v := fun n os => Below.old (h.grow n os).below hx
end Go.Proofs.Ytoekfmdcplphmaa.H
namespace Go.Proofs.Ytoekfmdcplphmaa.H
open Go.RowKit Go.Proofs.YtoekfmdcplphmaaW.PrintWords Go.Proofs.YtoekfmdcplphmaaW.PrintLast Go.Proofs.YtoekfmdcplphmaaW.PrintMore
attribute [local go_sem] max2_int min2_int max_two min_two max_three min_three max_four min_four
def cmp_isNaN_string.f (a0 : ByteArray) : Option (Bool) := some (a0.toList != a0.toList)
set_option maxHeartbeats 8000000 in
set_option maxRecDepth 100000 in
theorem cmp_isNaN_string.calls (a0 : ByteArray) (r : Bool) (w : World) (h : cmp_isNaN_string.f a0 = some r) :
  Calls Try.prog 53 #[.string a0] w fun e w' => e = .returned (.bool r) ∧ Drawn0 w w' := by
 have H : (some (a0.toList != a0.toList)) = some r := h
 clear h
 obtain rfl := Option.some.inj H
 go_enter Try.func53, Try.ntmps53
 go_wp2
 go_ret
 exact ⟨by first | rfl | (simp; done) | (simp [*]; done), by repeat (first | exact Drawn0.refl _ | apply Drawn0.step)⟩
end Go.Proofs.Ytoekfmdcplphmaa.H
namespace Go.Proofs.Ytoekfmdcplphmaa.H
open Go.RowKit Go.Proofs.YtoekfmdcplphmaaW.PrintWords
theorem bytesLess_swap (a b : List UInt8) : (!(Op.bytesLess a b || a == b)) = Op.bytesLess b a := by
  induction a generalizing b with
  | nil => cases b <;> simp [Op.bytesLess]
  | cons x a ih =>
    cases b with
    | nil => simp [Op.bytesLess]
    | cons y b =>
      by_cases h : x = y
      · subst h
        have := ih b
        simp [Op.bytesLess] at this ⊢
        exact this
      · have h2 : ¬ y = x := fun e => h e.symm
        rw [Bool.eq_iff_iff]
        simp [Op.bytesLess, h, h2]
        have hn : x.toNat ≠ y.toNat := fun e => h (UInt8.toNat_inj.1 e)
        rw [UInt8.le_iff_toNat_le, UInt8.lt_iff_toNat_lt]
        omega
theorem bytesLeq_swap (a b : List UInt8) : (Op.bytesLess a b || a == b) = !Op.bytesLess b a := by rw [← bytesLess_swap a b, Bool.not_not]
@[go_sem high] theorem binOp_string_gtr_sw (t : TypeId) (a b : ByteArray) : binOp .gtr t (.string a) (.string b) = pure (.bool (Op.bytesLess b.toList a.toList)) := by
  rw [← bytesLess_swap]; simp [binOp, Op.stringOp]
@[go_sem high] theorem binOp_string_leq_sw (t : TypeId) (a b : ByteArray) : binOp .leq t (.string a) (.string b) = pure (.bool !(Op.bytesLess b.toList a.toList)) := by
  rw [← bytesLeq_swap]; simp [binOp, Op.stringOp]
@[go_sem] theorem binOp_string_geq_sw (t : TypeId) (a b : ByteArray) : binOp .geq t (.string a) (.string b) = pure (.bool !(Op.bytesLess a.toList b.toList)) := by simp [binOp, Op.stringOp]
end Go.Proofs.Ytoekfmdcplphmaa.H
namespace Go.Proofs.Ytoekfmdcplphmaa.H
open Go.RowKit Go.Proofs.YtoekfmdcplphmaaW.PrintWords Go.Proofs.YtoekfmdcplphmaaW.PrintLast Go.Proofs.YtoekfmdcplphmaaW.PrintMore
attribute [local go_sem] max2_int min2_int max_two min_two max_three min_three max_four min_four
def cmp_Compare_string.f (a0 : ByteArray) (a1 : ByteArray) : Option (Int) := (cmp_isNaN_string.f a0).bind fun t101 => ((cmp_isNaN_string.f a1).bind fun t102 => (if t101 = true then (if t102 = true then (some 0) else (some (-1))) else (if t102 = true then (some 1) else (if (Op.bytesLess a0.toList a1.toList) = true then (some (-1)) else (if (Op.bytesLess a1.toList a0.toList) = true then (some 1) else (some 0))))))
set_option maxHeartbeats 8000000 in
set_option maxRecDepth 100000 in
theorem cmp_Compare_string.calls (a0 : ByteArray) (a1 : ByteArray) (r : Int) (w : World) (h : cmp_Compare_string.f a0 a1 = some r) :
  Calls Try.prog 39 #[.string a0, .string a1] w fun e w' => e = .returned (.int .i64 r) ∧ Drawn0 w w' := by
 have H : ((cmp_isNaN_string.f a0).bind fun t101 => ((cmp_isNaN_string.f a1).bind fun t102 => (if t101 = true then (if t102 = true then (some 0) else (some (-1))) else (if t102 = true then (some 1) else (if (Op.bytesLess a0.toList a1.toList) = true then (some (-1)) else (if (Op.bytesLess a1.toList a0.toList) = true then (some 1) else (some 0))))))) = some r := h
 clear h
 replace H := Option.bind_eq_some_iff.mp H
 obtain ⟨t101, A30, H⟩ := H
 replace H : ((cmp_isNaN_string.f a1).bind fun t102 => (if t101 = true then (if t102 = true then (some 0) else (some (-1))) else (if t102 = true then (some 1) else (if (Op.bytesLess a0.toList a1.toList) = true then (some (-1)) else (if (Op.bytesLess a1.toList a0.toList) = true then (some 1) else (some 0)))))) = some r := H
 have A3 := Aside0.mk A30
 clear A30
 replace H := Option.bind_eq_some_iff.mp H
 obtain ⟨t102, A40, H⟩ := H
 replace H : (if t101 = true then (if t102 = true then (some 0) else (some (-1))) else (if t102 = true then (some 1) else (if (Op.bytesLess a0.toList a1.toList) = true then (some (-1)) else (if (Op.bytesLess a1.toList a0.toList) = true then (some 1) else (some 0))))) = some r := H
 have A4 := Aside0.mk A40
 clear A40
 by_cases c5 : t101 = true
 ·subst c5
  have H1 : (if t102 = true then (some 0) else (some (-1))) = some r := by rw [if_pos rfl] at H; exact H
  clear H
  have H := H1
  clear H1
  by_cases c6 : t102 = true
  ·subst c6
   have H1 : (some 0) = some r := by rw [if_pos rfl] at H; exact H
   clear H
   have H := H1
   clear H1
   obtain rfl := Option.some.inj H
   go_enter Try.func39, Try.ntmps39
   go_wp2_with (first | ((with_reducible refine gate_callee (f := 53) rfl ?_); refine goesL_ (some 8) rfl rfl Try.func53 (by kernel_rfl) rfl #[.string a0] rfl (by (try simp only [List.map_toArray, List.map_cons, List.map_nil]); first | done | rfl | (simp only [List.length_drop, List.length_take]; rfl)) ?_; (with_reducible refine (cmp_isNaN_string.calls a0 true _ A3.out).mono ?_); rintro e w' ⟨rfl, ⟨nd, rfl⟩⟩; refine ⟨_, rfl, ?_⟩) | ((with_reducible refine gate_callee (f := 53) rfl ?_); refine goesL_ (some 10) rfl rfl Try.func53 (by kernel_rfl) rfl #[.string a1] rfl (by (try simp only [List.map_toArray, List.map_cons, List.map_nil]); first | done | rfl | (simp only [List.length_drop, List.length_take]; rfl)) ?_; (with_reducible refine (cmp_isNaN_string.calls a1 true _ A4.out).mono ?_); rintro e w' ⟨rfl, ⟨nd, rfl⟩⟩; refine ⟨_, rfl, ?_⟩))
   go_ret
   exact ⟨by first | rfl | (simp; done) | (simp [*]; done), by repeat (first | exact Drawn0.refl _ | apply Drawn0.step)⟩
  ·replace c6 := Bool.eq_false_iff.mpr c6
   subst c6
   have H1 : (some (-1)) = some r := by rw [if_neg (show ¬ (false = true) by decide)] at H; exact H
   clear H
   have H := H1
   clear H1
   obtain rfl := Option.some.inj H
   go_enter Try.func39, Try.ntmps39
   go_wp2_with (first | ((with_reducible refine gate_callee (f := 53) rfl ?_); refine goesL_ (some 8) rfl rfl Try.func53 (by kernel_rfl) rfl #[.string a0] rfl (by (try simp only [List.map_toArray, List.map_cons, List.map_nil]); first | done | rfl | (simp only [List.length_drop, List.length_take]; rfl)) ?_; (with_reducible refine (cmp_isNaN_string.calls a0 true _ A3.out).mono ?_); rintro e w' ⟨rfl, ⟨nd, rfl⟩⟩; refine ⟨_, rfl, ?_⟩) | ((with_reducible refine gate_callee (f := 53) rfl ?_); refine goesL_ (some 10) rfl rfl Try.func53 (by kernel_rfl) rfl #[.string a1] rfl (by (try simp only [List.map_toArray, List.map_cons, List.map_nil]); first | done | rfl | (simp only [List.length_drop, List.length_take]; rfl)) ?_; (with_reducible refine (cmp_isNaN_string.calls a1 false _ A4.out).mono ?_); rintro e w' ⟨rfl, ⟨nd, rfl⟩⟩; refine ⟨_, rfl, ?_⟩))
   go_ret
   exact ⟨by first | rfl | (simp; done) | (simp [*]; done), by repeat (first | exact Drawn0.refl _ | apply Drawn0.step)⟩
 ·replace c5 := Bool.eq_false_iff.mpr c5
  subst c5
  have H1 : (if t102 = true then (some 1) else (if (Op.bytesLess a0.toList a1.toList) = true then (some (-1)) else (if (Op.bytesLess a1.toList a0.toList) = true then (some 1) else (some 0)))) = some r := by rw [if_neg (show ¬ (false = true) by decide)] at H; exact H
  clear H
  have H := H1
  clear H1
  by_cases c7 : t102 = true
  ·subst c7
   have H1 : (some 1) = some r := by rw [if_pos rfl] at H; exact H
   clear H
   have H := H1
   clear H1
   obtain rfl := Option.some.inj H
   go_enter Try.func39, Try.ntmps39
   go_wp2_with (first | ((with_reducible refine gate_callee (f := 53) rfl ?_); refine goesL_ (some 8) rfl rfl Try.func53 (by kernel_rfl) rfl #[.string a0] rfl (by (try simp only [List.map_toArray, List.map_cons, List.map_nil]); first | done | rfl | (simp only [List.length_drop, List.length_take]; rfl)) ?_; (with_reducible refine (cmp_isNaN_string.calls a0 false _ A3.out).mono ?_); rintro e w' ⟨rfl, ⟨nd, rfl⟩⟩; refine ⟨_, rfl, ?_⟩) | ((with_reducible refine gate_callee (f := 53) rfl ?_); refine goesL_ (some 10) rfl rfl Try.func53 (by kernel_rfl) rfl #[.string a1] rfl (by (try simp only [List.map_toArray, List.map_cons, List.map_nil]); first | done | rfl | (simp only [List.length_drop, List.length_take]; rfl)) ?_; (with_reducible refine (cmp_isNaN_string.calls a1 true _ A4.out).mono ?_); rintro e w' ⟨rfl, ⟨nd, rfl⟩⟩; refine ⟨_, rfl, ?_⟩))
   go_ret
   exact ⟨by first | rfl | (simp; done) | (simp [*]; done), by repeat (first | exact Drawn0.refl _ | apply Drawn0.step)⟩
  ·replace c7 := Bool.eq_false_iff.mpr c7
   subst c7
   have H1 : (if (Op.bytesLess a0.toList a1.toList) = true then (some (-1)) else (if (Op.bytesLess a1.toList a0.toList) = true then (some 1) else (some 0))) = some r := by rw [if_neg (show ¬ (false = true) by decide)] at H; exact H
   clear H
   have H := H1
   clear H1
   by_cases c8 : (Op.bytesLess a0.toList a1.toList) = true
   ·rw [if_pos c8] at H
    have c8b0 : (Op.bytesLess a0.toList a1.toList) = true := c8
    clear c8
    obtain rfl := Option.some.inj H
    go_enter Try.func39, Try.ntmps39
    go_wp2_with (first | ((with_reducible refine gate_callee (f := 53) rfl ?_); refine goesL_ (some 8) rfl rfl Try.func53 (by kernel_rfl) rfl #[.string a0] rfl (by (try simp only [List.map_toArray, List.map_cons, List.map_nil]); first | done | rfl | (simp only [List.length_drop, List.length_take]; rfl)) ?_; (with_reducible refine (cmp_isNaN_string.calls a0 false _ A3.out).mono ?_); rintro e w' ⟨rfl, ⟨nd, rfl⟩⟩; refine ⟨_, rfl, ?_⟩) | ((with_reducible refine gate_callee (f := 53) rfl ?_); refine goesL_ (some 10) rfl rfl Try.func53 (by kernel_rfl) rfl #[.string a1] rfl (by (try simp only [List.map_toArray, List.map_cons, List.map_nil]); first | done | rfl | (simp only [List.length_drop, List.length_take]; rfl)) ?_; (with_reducible refine (cmp_isNaN_string.calls a1 false _ A4.out).mono ?_); rintro e w' ⟨rfl, ⟨nd, rfl⟩⟩; refine ⟨_, rfl, ?_⟩))
    go_ret
    exact ⟨by first | rfl | (simp; done) | (simp [*]; done), by repeat (first | exact Drawn0.refl _ | apply Drawn0.step)⟩
   ·rw [if_neg c8] at H
    have c8b0 : (Op.bytesLess a0.toList a1.toList) = false := by simpa using c8
    clear c8
    by_cases c9 : (Op.bytesLess a1.toList a0.toList) = true
    ·rw [if_pos c9] at H
     have c9b0 : (Op.bytesLess a1.toList a0.toList) = true := c9
     clear c9
     obtain rfl := Option.some.inj H
     go_enter Try.func39, Try.ntmps39
     go_wp2_with (first | ((with_reducible refine gate_callee (f := 53) rfl ?_); refine goesL_ (some 8) rfl rfl Try.func53 (by kernel_rfl) rfl #[.string a0] rfl (by (try simp only [List.map_toArray, List.map_cons, List.map_nil]); first | done | rfl | (simp only [List.length_drop, List.length_take]; rfl)) ?_; (with_reducible refine (cmp_isNaN_string.calls a0 false _ A3.out).mono ?_); rintro e w' ⟨rfl, ⟨nd, rfl⟩⟩; refine ⟨_, rfl, ?_⟩) | ((with_reducible refine gate_callee (f := 53) rfl ?_); refine goesL_ (some 10) rfl rfl Try.func53 (by kernel_rfl) rfl #[.string a1] rfl (by (try simp only [List.map_toArray, List.map_cons, List.map_nil]); first | done | rfl | (simp only [List.length_drop, List.length_take]; rfl)) ?_; (with_reducible refine (cmp_isNaN_string.calls a1 false _ A4.out).mono ?_); rintro e w' ⟨rfl, ⟨nd, rfl⟩⟩; refine ⟨_, rfl, ?_⟩))
     go_ret
     exact ⟨by first | rfl | (simp; done) | (simp [*]; done), by repeat (first | exact Drawn0.refl _ | apply Drawn0.step)⟩
    ·rw [if_neg c9] at H
     have c9b0 : (Op.bytesLess a1.toList a0.toList) = false := by simpa using c9
     clear c9
     obtain rfl := Option.some.inj H
     go_enter Try.func39, Try.ntmps39
     go_wp2_with (first | ((with_reducible refine gate_callee (f := 53) rfl ?_); refine goesL_ (some 8) rfl rfl Try.func53 (by kernel_rfl) rfl #[.string a0] rfl (by (try simp only [List.map_toArray, List.map_cons, List.map_nil]); first | done | rfl | (simp only [List.length_drop, List.length_take]; rfl)) ?_; (with_reducible refine (cmp_isNaN_string.calls a0 false _ A3.out).mono ?_); rintro e w' ⟨rfl, ⟨nd, rfl⟩⟩; refine ⟨_, rfl, ?_⟩) | ((with_reducible refine gate_callee (f := 53) rfl ?_); refine goesL_ (some 10) rfl rfl Try.func53 (by kernel_rfl) rfl #[.string a1] rfl (by (try simp only [List.map_toArray, List.map_cons, List.map_nil]); first | done | rfl | (simp only [List.length_drop, List.length_take]; rfl)) ?_; (with_reducible refine (cmp_isNaN_string.calls a1 false _ A4.out).mono ?_); rintro e w' ⟨rfl, ⟨nd, rfl⟩⟩; refine ⟨_, rfl, ?_⟩))
     go_ret
     exact ⟨by first | rfl | (simp; done) | (simp [*]; done), by repeat (first | exact Drawn0.refl _ | apply Drawn0.step)⟩
def cmp_Or_int.l0 : Nat → Int → List Int → Int → Int → Option (Int)
 | 0, _, _, _, _ => none
 | k + 1, x3, x6, x7, x8 => if x8 < x7 then (if 0 ≤ x8 then (if x8 < (x6.length : Int) then (if (rd x6 x8) = x3 then (cmp_Or_int.l0 k x3 x6 x7 (wrap64 (x8 + 1))) else (some (rd x6 x8))) else (none)) else (none)) else (some x3)
def cmp_Or_int.f (k : Nat) (l0 : List Int) : Option (Int) := cmp_Or_int.l0 k 0 l0 (l0.length : Int) 0
theorem cmp_Or_int.mono_l : ∀ k, (∀ y0 y1 y2 y3, LeO (cmp_Or_int.l0 k y0 y1 y2 y3) (cmp_Or_int.l0 (k + 1) y0 y1 y2 y3))
 | 0 => fun _ _ _ _ r h => by simp [cmp_Or_int.l0] at h
 | k + 1 => by
  have ih0 := cmp_Or_int.mono_l k
  ·intro y0 y1 y2 y3
   unfold cmp_Or_int.l0
   repeat' first
   | (with_reducible exact ih0 _ _ _ _)
   | (with_reducible exact LeO.refl _)
   | (with_reducible exact LeO.none _)
   | (with_reducible refine LeO.ite ?_ ?_)
   | (with_reducible refine LeO.bind ?_ (fun _ => ?_))
   | exact ih0 _ _ _ _
   | exact LeO.none _
   | refine LeO.ite ?_ ?_
   | refine LeO.bind ?_ (fun _ => ?_)
theorem cmp_Or_int.mono : ∀ a0 k, LeO (cmp_Or_int.f k a0) (cmp_Or_int.f (k + 1) a0) := by
 intro a0 k
 have ih0 := cmp_Or_int.mono_l k
 unfold cmp_Or_int.f
 repeat' first
   | (with_reducible exact ih0 _ _ _ _)
   | (with_reducible exact LeO.refl _)
   | (with_reducible exact LeO.none _)
   | (with_reducible refine LeO.ite ?_ ?_)
   | (with_reducible refine LeO.bind ?_ (fun _ => ?_))
   | exact ih0 _ _ _ _
   | exact LeO.none _
   | refine LeO.ite ?_ ?_
   | refine LeO.bind ?_ (fun _ => ?_)
set_option maxHeartbeats 8000000 in
set_option maxRecDepth 100000 in
theorem cmp_Or_int.calls (k : Nat) (A0 : Option Addr) (c0 : Nat) (l0 : List Int) (r : Int) (w : World) (hr0 : Kd.C (Kd.int .i64) w A0 l0.length l0) (hc0 : l0.length ≤ c0) (h : cmp_Or_int.f k l0 = some r) :
  Calls Try.prog 38 #[.slice A0 l0.length c0] w fun e w' => e = .returned (.int .i64 r) ∧ Drawn0 w w' := by
 have HR0 := Aside0.mk hr0
 have HC0 := Aside0.mk hc0
 clear hr0 hc0
 have H : (cmp_Or_int.l0 k 0 l0 (l0.length : Int) 0) = some r := h
 clear h
 have H' := Aside0.mk H
 clear H
 go_enter Try.func38, Try.ntmps38
 go_wp2
 go_loopg [8] k (fun kq v8 w' => ∃ (x8_1 : Int), v8 = .int .i64 x8_1 ∧ Aside0 (cmp_Or_int.l0 kq 0 l0 (l0.length : Int) x8_1 = some r) ∧ Aside0 (kq ≤ k) ∧ Drawn0 w w')
 case atStart => exact ⟨(0), (by first | rfl | (simp; done) | (simp [*]; done)), H', ⟨Nat.le_refl _⟩, by repeat (first | exact Drawn0.refl _ | apply Drawn0.step)⟩
 case round =>
  clear H'
  obtain ⟨x8_1, rfl, HA, HK1, ⟨m1, rfl⟩⟩ := hrel
  cases gk with
  | zero => exact absurd HA.out (by simp [cmp_Or_int.l0])
  | succ k1 =>
   have H := HA.out
   clear HA
   simp only [cmp_Or_int.l0] at H
   by_cases c2 : x8_1 < (l0.length : Int)
   ·rw [if_pos c2] at H
    have c2b0 : decide (x8_1 < (l0.length : Int)) = true := decide_eq_true c2
    clear c2
    by_cases c3 : 0 ≤ x8_1
    ·rw [if_pos c3] at H
     have c3b0 : decide (0 ≤ x8_1) = true := decide_eq_true c3
     clear c3
     by_cases c4 : x8_1 < (l0.length : Int)
     ·rw [if_pos c4] at H
      have c4b0 : decide (x8_1 < (l0.length : Int)) = true := decide_eq_true c4
      clear c4
      by_cases c5 : (rd l0 x8_1) = 0
      ·rw [if_pos c5] at H
       have c5b0 : ((rd l0 x8_1) == 0) = true := beq_iff_eq.mpr c5
       have c5b1 : ((rd l0 x8_1) != 0) = false := bne_eq_false_iff_eq.mpr c5
       clear c5
       have H' := Aside0.mk H
       clear H
       have p101 : 0 ≤ (x8_1 : Int) := of_decide_eq_true (by first | (with_reducible assumption) | assumption)
       have q101 : x8_1 < (l0.length : Int) := of_decide_eq_true (by first | (with_reducible assumption) | assumption)
       obtain ⟨ad101, e101, hx101_0⟩ := Kd.at_int HR0.out x8_1 p101 q101
       cases e101
       replace p101 := eq_true p101
       replace q101 := eq_true q101
       go_wp2
       go_roundg k1
       case measure => have := HK1.out; omega
       case rel => exact ⟨(wrap64 (x8_1 + 1)), (by first | rfl | (simp; done) | (simp [*]; done)), H', ⟨by have := HK1.out; omega⟩, by repeat (first | exact Drawn0.refl _ | apply Drawn0.step)⟩
      ·rw [if_neg c5] at H
       have c5b0 : ((rd l0 x8_1) == 0) = false := beq_eq_false_iff_ne.mpr c5
       have c5b1 : ((rd l0 x8_1) != 0) = true := bne_iff_ne.mpr c5
       obtain rfl := Option.some.inj H
       have p101 : 0 ≤ (x8_1 : Int) := of_decide_eq_true (by first | (with_reducible assumption) | assumption)
       have q101 : x8_1 < (l0.length : Int) := of_decide_eq_true (by first | (with_reducible assumption) | assumption)
       obtain ⟨ad101, e101, hx101_0⟩ := Kd.at_int HR0.out x8_1 p101 q101
       cases e101
       replace p101 := eq_true p101
       replace q101 := eq_true q101
       go_wp2
       go_ret
       exact ⟨by first | rfl | (simp; done) | (simp [*]; done), by repeat (first | exact Drawn0.refl _ | apply Drawn0.step)⟩
     ·rw [if_neg c4] at H
      exact absurd H (by simp)
    ·rw [if_neg c3] at H
     exact absurd H (by simp)
   ·rw [if_neg c2] at H
    have c2b0 : decide (x8_1 < (l0.length : Int)) = false := decide_eq_false c2
    clear c2
    obtain rfl := Option.some.inj H
    go_wp2
    go_ret
    exact ⟨by first | rfl | (simp; done) | (simp [*]; done), by repeat (first | exact Drawn0.refl _ | apply Drawn0.step)⟩
end Go.Proofs.Ytoekfmdcplphmaa.H
namespace Go.Proofs.Ytoekfmdcplphmaa.H
open Go.RowKit Go.Proofs.YtoekfmdcplphmaaW.PrintWords Go.Proofs.YtoekfmdcplphmaaW.PrintLast Go.Proofs.YtoekfmdcplphmaaW.PrintMore
/-- min, told by a word of its own, so that no walk parts it -/
theorem min2_mn (k k' : IntKind) (x y : Int) : Builtin.min2 (.int k x) (.int k' y) = pure (.int k (mn x y)) := by simp only [Builtin.min2, mn]
end Go.Proofs.Ytoekfmdcplphmaa.H
namespace Go.Proofs.Ytoekfmdcplphmaa.H
open Go.RowKit Go.Proofs.YtoekfmdcplphmaaW.PrintWords Go.Proofs.YtoekfmdcplphmaaW.PrintLast Go.Proofs.YtoekfmdcplphmaaW.PrintMore
attribute [local go_sem] max2_int min2_int max_two min_two max_three min_three max_four min_four
def cmp_isNaN_int.f (a0 : Int) : Option (Bool) := some (a0 != a0)
set_option maxHeartbeats 8000000 in
set_option maxRecDepth 100000 in
theorem cmp_isNaN_int.calls (a0 : Int) (r : Bool) (w : World) (h : cmp_isNaN_int.f a0 = some r) :
  Calls Try.prog 69 #[.int .i64 a0] w fun e w' => e = .returned (.bool r) ∧ Drawn0 w w' := by
 have H : (some (a0 != a0)) = some r := h
 clear h
 obtain rfl := Option.some.inj H
 go_enter Try.func69, Try.ntmps69
 go_wp2
 go_ret
 exact ⟨by first | rfl | (simp; done) | (simp [*]; done), by repeat (first | exact Drawn0.refl _ | apply Drawn0.step)⟩
def cmp_Compare_int.f (a0 : Int) (a1 : Int) : Option (Int) := (cmp_isNaN_int.f a0).bind fun t101 => ((cmp_isNaN_int.f a1).bind fun t102 => (if t101 = true then (if t102 = true then (some 0) else (some (-1))) else (if t102 = true then (some 1) else (if a0 < a1 then (some (-1)) else (if a0 > a1 then (some 1) else (some 0))))))
set_option maxHeartbeats 8000000 in
set_option maxRecDepth 100000 in
theorem cmp_Compare_int.calls (a0 : Int) (a1 : Int) (r : Int) (w : World) (h : cmp_Compare_int.f a0 a1 = some r) :
  Calls Try.prog 55 #[.int .i64 a0, .int .i64 a1] w fun e w' => e = .returned (.int .i64 r) ∧ Drawn0 w w' := by
 have H : ((cmp_isNaN_int.f a0).bind fun t101 => ((cmp_isNaN_int.f a1).bind fun t102 => (if t101 = true then (if t102 = true then (some 0) else (some (-1))) else (if t102 = true then (some 1) else (if a0 < a1 then (some (-1)) else (if a0 > a1 then (some 1) else (some 0))))))) = some r := h
 clear h
 replace H := Option.bind_eq_some_iff.mp H
 obtain ⟨t101, A30, H⟩ := H
 replace H : ((cmp_isNaN_int.f a1).bind fun t102 => (if t101 = true then (if t102 = true then (some 0) else (some (-1))) else (if t102 = true then (some 1) else (if a0 < a1 then (some (-1)) else (if a0 > a1 then (some 1) else (some 0)))))) = some r := H
 have A3 := Aside0.mk A30
 clear A30
 replace H := Option.bind_eq_some_iff.mp H
 obtain ⟨t102, A40, H⟩ := H
 replace H : (if t101 = true then (if t102 = true then (some 0) else (some (-1))) else (if t102 = true then (some 1) else (if a0 < a1 then (some (-1)) else (if a0 > a1 then (some 1) else (some 0))))) = some r := H
 have A4 := Aside0.mk A40
 clear A40
 by_cases c5 : t101 = true
 ·subst c5
  have H1 : (if t102 = true then (some 0) else (some (-1))) = some r := by rw [if_pos rfl] at H; exact H
  clear H
  have H := H1
  clear H1
  by_cases c6 : t102 = true
  ·subst c6
   have H1 : (some 0) = some r := by rw [if_pos rfl] at H; exact H
   clear H
   have H := H1
   clear H1
   obtain rfl := Option.some.inj H
   go_enter Try.func55, Try.ntmps55
   go_wp2_with (first | ((with_reducible refine gate_callee (f := 69) rfl ?_); refine goesL_ (some 8) rfl rfl Try.func69 (by kernel_rfl) rfl #[.int .i64 a0] rfl (by (try simp only [List.map_toArray, List.map_cons, List.map_nil]); first | done | rfl | (simp only [List.length_drop, List.length_take]; rfl)) ?_; (with_reducible refine (cmp_isNaN_int.calls a0 true _ A3.out).mono ?_); rintro e w' ⟨rfl, ⟨nd, rfl⟩⟩; refine ⟨_, rfl, ?_⟩) | ((with_reducible refine gate_callee (f := 69) rfl ?_); refine goesL_ (some 10) rfl rfl Try.func69 (by kernel_rfl) rfl #[.int .i64 a1] rfl (by (try simp only [List.map_toArray, List.map_cons, List.map_nil]); first | done | rfl | (simp only [List.length_drop, List.length_take]; rfl)) ?_; (with_reducible refine (cmp_isNaN_int.calls a1 true _ A4.out).mono ?_); rintro e w' ⟨rfl, ⟨nd, rfl⟩⟩; refine ⟨_, rfl, ?_⟩))
   go_ret
   exact ⟨by first | rfl | (simp; done) | (simp [*]; done), by repeat (first | exact Drawn0.refl _ | apply Drawn0.step)⟩
  ·replace c6 := Bool.eq_false_iff.mpr c6
   subst c6
   have H1 : (some (-1)) = some r := by rw [if_neg (show ¬ (false = true) by decide)] at H; exact H
   clear H
   have H := H1
   clear H1
   obtain rfl := Option.some.inj H
   go_enter Try.func55, Try.ntmps55
   go_wp2_with (first | ((with_reducible refine gate_callee (f := 69) rfl ?_); refine goesL_ (some 8) rfl rfl Try.func69 (by kernel_rfl) rfl #[.int .i64 a0] rfl (by (try simp only [List.map_toArray, List.map_cons, List.map_nil]); first | done | rfl | (simp only [List.length_drop, List.length_take]; rfl)) ?_; (with_reducible refine (cmp_isNaN_int.calls a0 true _ A3.out).mono ?_); rintro e w' ⟨rfl, ⟨nd, rfl⟩⟩; refine ⟨_, rfl, ?_⟩) | ((with_reducible refine gate_callee (f := 69) rfl ?_); refine goesL_ (some 10) rfl rfl Try.func69 (by kernel_rfl) rfl #[.int .i64 a1] rfl (by (try simp only [List.map_toArray, List.map_cons, List.map_nil]); first | done | rfl | (simp only [List.length_drop, List.length_take]; rfl)) ?_; (with_reducible refine (cmp_isNaN_int.calls a1 false _ A4.out).mono ?_); rintro e w' ⟨rfl, ⟨nd, rfl⟩⟩; refine ⟨_, rfl, ?_⟩))
   go_ret
   exact ⟨by first | rfl | (simp; done) | (simp [*]; done), by repeat (first | exact Drawn0.refl _ | apply Drawn0.step)⟩
 ·replace c5 := Bool.eq_false_iff.mpr c5
  subst c5
  have H1 : (if t102 = true then (some 1) else (if a0 < a1 then (some (-1)) else (if a0 > a1 then (some 1) else (some 0)))) = some r := by rw [if_neg (show ¬ (false = true) by decide)] at H; exact H
  clear H
  have H := H1
  clear H1
  by_cases c7 : t102 = true
  ·subst c7
   have H1 : (some 1) = some r := by rw [if_pos rfl] at H; exact H
   clear H
   have H := H1
   clear H1
   obtain rfl := Option.some.inj H
   go_enter Try.func55, Try.ntmps55
   go_wp2_with (first | ((with_reducible refine gate_callee (f := 69) rfl ?_); refine goesL_ (some 8) rfl rfl Try.func69 (by kernel_rfl) rfl #[.int .i64 a0] rfl (by (try simp only [List.map_toArray, List.map_cons, List.map_nil]); first | done | rfl | (simp only [List.length_drop, List.length_take]; rfl)) ?_; (with_reducible refine (cmp_isNaN_int.calls a0 false _ A3.out).mono ?_); rintro e w' ⟨rfl, ⟨nd, rfl⟩⟩; refine ⟨_, rfl, ?_⟩) | ((with_reducible refine gate_callee (f := 69) rfl ?_); refine goesL_ (some 10) rfl rfl Try.func69 (by kernel_rfl) rfl #[.int .i64 a1] rfl (by (try simp only [List.map_toArray, List.map_cons, List.map_nil]); first | done | rfl | (simp only [List.length_drop, List.length_take]; rfl)) ?_; (with_reducible refine (cmp_isNaN_int.calls a1 true _ A4.out).mono ?_); rintro e w' ⟨rfl, ⟨nd, rfl⟩⟩; refine ⟨_, rfl, ?_⟩))
   go_ret
   exact ⟨by first | rfl | (simp; done) | (simp [*]; done), by repeat (first | exact Drawn0.refl _ | apply Drawn0.step)⟩
  ·replace c7 := Bool.eq_false_iff.mpr c7
   subst c7
   have H1 : (if a0 < a1 then (some (-1)) else (if a0 > a1 then (some 1) else (some 0))) = some r := by rw [if_neg (show ¬ (false = true) by decide)] at H; exact H
   clear H
   have H := H1
   clear H1
   by_cases c8 : a0 < a1
   ·rw [if_pos c8] at H
    have c8b0 : decide (a0 < a1) = true := decide_eq_true c8
    clear c8
    obtain rfl := Option.some.inj H
    go_enter Try.func55, Try.ntmps55
    go_wp2_with (first | ((with_reducible refine gate_callee (f := 69) rfl ?_); refine goesL_ (some 8) rfl rfl Try.func69 (by kernel_rfl) rfl #[.int .i64 a0] rfl (by (try simp only [List.map_toArray, List.map_cons, List.map_nil]); first | done | rfl | (simp only [List.length_drop, List.length_take]; rfl)) ?_; (with_reducible refine (cmp_isNaN_int.calls a0 false _ A3.out).mono ?_); rintro e w' ⟨rfl, ⟨nd, rfl⟩⟩; refine ⟨_, rfl, ?_⟩) | ((with_reducible refine gate_callee (f := 69) rfl ?_); refine goesL_ (some 10) rfl rfl Try.func69 (by kernel_rfl) rfl #[.int .i64 a1] rfl (by (try simp only [List.map_toArray, List.map_cons, List.map_nil]); first | done | rfl | (simp only [List.length_drop, List.length_take]; rfl)) ?_; (with_reducible refine (cmp_isNaN_int.calls a1 false _ A4.out).mono ?_); rintro e w' ⟨rfl, ⟨nd, rfl⟩⟩; refine ⟨_, rfl, ?_⟩))
    go_ret
    exact ⟨by first | rfl | (simp; done) | (simp [*]; done), by repeat (first | exact Drawn0.refl _ | apply Drawn0.step)⟩
   ·rw [if_neg c8] at H
    have c8b0 : decide (a0 < a1) = false := decide_eq_false c8
    clear c8
    by_cases c9 : a0 > a1
    ·rw [if_pos c9] at H
     have c9b0 : decide (a1 < a0) = true := decide_eq_true c9
     clear c9
     obtain rfl := Option.some.inj H
     go_enter Try.func55, Try.ntmps55
     go_wp2_with (first | ((with_reducible refine gate_callee (f := 69) rfl ?_); refine goesL_ (some 8) rfl rfl Try.func69 (by kernel_rfl) rfl #[.int .i64 a0] rfl (by (try simp only [List.map_toArray, List.map_cons, List.map_nil]); first | done | rfl | (simp only [List.length_drop, List.length_take]; rfl)) ?_; (with_reducible refine (cmp_isNaN_int.calls a0 false _ A3.out).mono ?_); rintro e w' ⟨rfl, ⟨nd, rfl⟩⟩; refine ⟨_, rfl, ?_⟩) | ((with_reducible refine gate_callee (f := 69) rfl ?_); refine goesL_ (some 10) rfl rfl Try.func69 (by kernel_rfl) rfl #[.int .i64 a1] rfl (by (try simp only [List.map_toArray, List.map_cons, List.map_nil]); first | done | rfl | (simp only [List.length_drop, List.length_take]; rfl)) ?_; (with_reducible refine (cmp_isNaN_int.calls a1 false _ A4.out).mono ?_); rintro e w' ⟨rfl, ⟨nd, rfl⟩⟩; refine ⟨_, rfl, ?_⟩))
     go_ret
     exact ⟨by first | rfl | (simp; done) | (simp [*]; done), by repeat (first | exact Drawn0.refl _ | apply Drawn0.step)⟩
    ·rw [if_neg c9] at H
     have c9b0 : decide (a1 < a0) = false := decide_eq_false c9
     clear c9
     obtain rfl := Option.some.inj H
     go_enter Try.func55, Try.ntmps55
     go_wp2_with (first | ((with_reducible refine gate_callee (f := 69) rfl ?_); refine goesL_ (some 8) rfl rfl Try.func69 (by kernel_rfl) rfl #[.int .i64 a0] rfl (by (try simp only [List.map_toArray, List.map_cons, List.map_nil]); first | done | rfl | (simp only [List.length_drop, List.length_take]; rfl)) ?_; (with_reducible refine (cmp_isNaN_int.calls a0 false _ A3.out).mono ?_); rintro e w' ⟨rfl, ⟨nd, rfl⟩⟩; refine ⟨_, rfl, ?_⟩) | ((with_reducible refine gate_callee (f := 69) rfl ?_); refine goesL_ (some 10) rfl rfl Try.func69 (by kernel_rfl) rfl #[.int .i64 a1] rfl (by (try simp only [List.map_toArray, List.map_cons, List.map_nil]); first | done | rfl | (simp only [List.length_drop, List.length_take]; rfl)) ?_; (with_reducible refine (cmp_isNaN_int.calls a1 false _ A4.out).mono ?_); rintro e w' ⟨rfl, ⟨nd, rfl⟩⟩; refine ⟨_, rfl, ?_⟩))
     go_ret
     exact ⟨by first | rfl | (simp; done) | (simp [*]; done), by repeat (first | exact Drawn0.refl _ | apply Drawn0.step)⟩
def cmp_isNaN_int64.f (a0 : Int) : Option (Bool) := some (a0 != a0)
set_option maxHeartbeats 8000000 in
set_option maxRecDepth 100000 in
theorem cmp_isNaN_int64.calls (a0 : Int) (r : Bool) (w : World) (h : cmp_isNaN_int64.f a0 = some r) :
  Calls Try.prog 93 #[.int .i64 a0] w fun e w' => e = .returned (.bool r) ∧ Drawn0 w w' := by
 have H : (some (a0 != a0)) = some r := h
 clear h
 obtain rfl := Option.some.inj H
 go_enter Try.func93, Try.ntmps93
 go_wp2
 go_ret
 exact ⟨by first | rfl | (simp; done) | (simp [*]; done), by repeat (first | exact Drawn0.refl _ | apply Drawn0.step)⟩
def cmp_Compare_int64.f (a0 : Int) (a1 : Int) : Option (Int) := (cmp_isNaN_int64.f a0).bind fun t101 => ((cmp_isNaN_int64.f a1).bind fun t102 => (if t101 = true then (if t102 = true then (some 0) else (some (-1))) else (if t102 = true then (some 1) else (if a0 < a1 then (some (-1)) else (if a0 > a1 then (some 1) else (some 0))))))
set_option maxHeartbeats 8000000 in
set_option maxRecDepth 100000 in
theorem cmp_Compare_int64.calls (a0 : Int) (a1 : Int) (r : Int) (w : World) (h : cmp_Compare_int64.f a0 a1 = some r) :
  Calls Try.prog 68 #[.int .i64 a0, .int .i64 a1] w fun e w' => e = .returned (.int .i64 r) ∧ Drawn0 w w' := by
 have H : ((cmp_isNaN_int64.f a0).bind fun t101 => ((cmp_isNaN_int64.f a1).bind fun t102 => (if t101 = true then (if t102 = true then (some 0) else (some (-1))) else (if t102 = true then (some 1) else (if a0 < a1 then (some (-1)) else (if a0 > a1 then (some 1) else (some 0))))))) = some r := h
 clear h
 replace H := Option.bind_eq_some_iff.mp H
 obtain ⟨t101, A30, H⟩ := H
 replace H : ((cmp_isNaN_int64.f a1).bind fun t102 => (if t101 = true then (if t102 = true then (some 0) else (some (-1))) else (if t102 = true then (some 1) else (if a0 < a1 then (some (-1)) else (if a0 > a1 then (some 1) else (some 0)))))) = some r := H
 have A3 := Aside0.mk A30
 clear A30
 replace H := Option.bind_eq_some_iff.mp H
 obtain ⟨t102, A40, H⟩ := H
 replace H : (if t101 = true then (if t102 = true then (some 0) else (some (-1))) else (if t102 = true then (some 1) else (if a0 < a1 then (some (-1)) else (if a0 > a1 then (some 1) else (some 0))))) = some r := H
 have A4 := Aside0.mk A40
 clear A40
 by_cases c5 : t101 = true
 ·subst c5
  have H1 : (if t102 = true then (some 0) else (some (-1))) = some r := by rw [if_pos rfl] at H; exact H
  clear H
  have H := H1
  clear H1
  by_cases c6 : t102 = true
  ·subst c6
   have H1 : (some 0) = some r := by rw [if_pos rfl] at H; exact H
   clear H
   have H := H1
   clear H1
   obtain rfl := Option.some.inj H
   go_enter Try.func68, Try.ntmps68
   go_wp2_with (first | ((with_reducible refine gate_callee (f := 93) rfl ?_); refine goesL_ (some 8) rfl rfl Try.func93 (by kernel_rfl) rfl #[.int .i64 a0] rfl (by (try simp only [List.map_toArray, List.map_cons, List.map_nil]); first | done | rfl | (simp only [List.length_drop, List.length_take]; rfl)) ?_; (with_reducible refine (cmp_isNaN_int64.calls a0 true _ A3.out).mono ?_); rintro e w' ⟨rfl, ⟨nd, rfl⟩⟩; refine ⟨_, rfl, ?_⟩) | ((with_reducible refine gate_callee (f := 93) rfl ?_); refine goesL_ (some 10) rfl rfl Try.func93 (by kernel_rfl) rfl #[.int .i64 a1] rfl (by (try simp only [List.map_toArray, List.map_cons, List.map_nil]); first | done | rfl | (simp only [List.length_drop, List.length_take]; rfl)) ?_; (with_reducible refine (cmp_isNaN_int64.calls a1 true _ A4.out).mono ?_); rintro e w' ⟨rfl, ⟨nd, rfl⟩⟩; refine ⟨_, rfl, ?_⟩))
   go_ret
   exact ⟨by first | rfl | (simp; done) | (simp [*]; done), by repeat (first | exact Drawn0.refl _ | apply Drawn0.step)⟩
  ·replace c6 := Bool.eq_false_iff.mpr c6
   subst c6
   have H1 : (some (-1)) = some r := by rw [if_neg (show ¬ (false = true) by decide)] at H; exact H
   clear H
   have H := H1
   clear H1
   obtain rfl := Option.some.inj H
   go_enter Try.func68, Try.ntmps68
   go_wp2_with (first | ((with_reducible refine gate_callee (f := 93) rfl ?_); refine goesL_ (some 8) rfl rfl Try.func93 (by kernel_rfl) rfl #[.int .i64 a0] rfl (by (try simp only [List.map_toArray, List.map_cons, List.map_nil]); first | done | rfl | (simp only [List.length_drop, List.length_take]; rfl)) ?_; (with_reducible refine (cmp_isNaN_int64.calls a0 true _ A3.out).mono ?_); rintro e w' ⟨rfl, ⟨nd, rfl⟩⟩; refine ⟨_, rfl, ?_⟩) | ((with_reducible refine gate_callee (f := 93) rfl ?_); refine goesL_ (some 10) rfl rfl Try.func93 (by kernel_rfl) rfl #[.int .i64 a1] rfl (by (try simp only [List.map_toArray, List.map_cons, List.map_nil]); first | done | rfl | (simp only [List.length_drop, List.length_take]; rfl)) ?_; (with_reducible refine (cmp_isNaN_int64.calls a1 false _ A4.out).mono ?_); rintro e w' ⟨rfl, ⟨nd, rfl⟩⟩; refine ⟨_, rfl, ?_⟩))
   go_ret
   exact ⟨by first | rfl | (simp; done) | (simp [*]; done), by repeat (first | exact Drawn0.refl _ | apply Drawn0.step)⟩
 ·replace c5 := Bool.eq_false_iff.mpr c5
  subst c5
  have H1 : (if t102 = true then (some 1) else (if a0 < a1 then (some (-1)) else (if a0 > a1 then (some 1) else (some 0)))) = some r := by rw [if_neg (show ¬ (false = true) by decide)] at H; exact H
  clear H
  have H := H1
  clear H1
  by_cases c7 : t102 = true
  ·subst c7
   have H1 : (some 1) = some r := by rw [if_pos rfl] at H; exact H
   clear H
   have H := H1
   clear H1
   obtain rfl := Option.some.inj H
   go_enter Try.func68, Try.ntmps68
   go_wp2_with (first | ((with_reducible refine gate_callee (f := 93) rfl ?_); refine goesL_ (some 8) rfl rfl Try.func93 (by kernel_rfl) rfl #[.int .i64 a0] rfl (by (try simp only [List.map_toArray, List.map_cons, List.map_nil]); first | done | rfl | (simp only [List.length_drop, List.length_take]; rfl)) ?_; (with_reducible refine (cmp_isNaN_int64.calls a0 false _ A3.out).mono ?_); rintro e w' ⟨rfl, ⟨nd, rfl⟩⟩; refine ⟨_, rfl, ?_⟩) | ((with_reducible refine gate_callee (f := 93) rfl ?_); refine goesL_ (some 10) rfl rfl Try.func93 (by kernel_rfl) rfl #[.int .i64 a1] rfl (by (try simp only [List.map_toArray, List.map_cons, List.map_nil]); first | done | rfl | (simp only [List.length_drop, List.length_take]; rfl)) ?_; (with_reducible refine (cmp_isNaN_int64.calls a1 true _ A4.out).mono ?_); rintro e w' ⟨rfl, ⟨nd, rfl⟩⟩; refine ⟨_, rfl, ?_⟩))
   go_ret
   exact ⟨by first | rfl | (simp; done) | (simp [*]; done), by repeat (first | exact Drawn0.refl _ | apply Drawn0.step)⟩
  ·replace c7 := Bool.eq_false_iff.mpr c7
   subst c7
   have H1 : (if a0 < a1 then (some (-1)) else (if a0 > a1 then (some 1) else (some 0))) = some r := by rw [if_neg (show ¬ (false = true) by decide)] at H; exact H
   clear H
   have H := H1
   clear H1
   by_cases c8 : a0 < a1
   ·rw [if_pos c8] at H
    have c8b0 : decide (a0 < a1) = true := decide_eq_true c8
    clear c8
    obtain rfl := Option.some.inj H
    go_enter Try.func68, Try.ntmps68
    go_wp2_with (first | ((with_reducible refine gate_callee (f := 93) rfl ?_); refine goesL_ (some 8) rfl rfl Try.func93 (by kernel_rfl) rfl #[.int .i64 a0] rfl (by (try simp only [List.map_toArray, List.map_cons, List.map_nil]); first | done | rfl | (simp only [List.length_drop, List.length_take]; rfl)) ?_; (with_reducible refine (cmp_isNaN_int64.calls a0 false _ A3.out).mono ?_); rintro e w' ⟨rfl, ⟨nd, rfl⟩⟩; refine ⟨_, rfl, ?_⟩) | ((with_reducible refine gate_callee (f := 93) rfl ?_); refine goesL_ (some 10) rfl rfl Try.func93 (by kernel_rfl) rfl #[.int .i64 a1] rfl (by (try simp only [List.map_toArray, List.map_cons, List.map_nil]); first | done | rfl | (simp only [List.length_drop, List.length_take]; rfl)) ?_; (with_reducible refine (cmp_isNaN_int64.calls a1 false _ A4.out).mono ?_); rintro e w' ⟨rfl, ⟨nd, rfl⟩⟩; refine ⟨_, rfl, ?_⟩))
    go_ret
    exact ⟨by first | rfl | (simp; done) | (simp [*]; done), by repeat (first | exact Drawn0.refl _ | apply Drawn0.step)⟩
   ·rw [if_neg c8] at H
    have c8b0 : decide (a0 < a1) = false := decide_eq_false c8
    clear c8
    by_cases c9 : a0 > a1
    ·rw [if_pos c9] at H
     have c9b0 : decide (a1 < a0) = true := decide_eq_true c9
     clear c9
     obtain rfl := Option.some.inj H
     go_enter Try.func68, Try.ntmps68
     go_wp2_with (first | ((with_reducible refine gate_callee (f := 93) rfl ?_); refine goesL_ (some 8) rfl rfl Try.func93 (by kernel_rfl) rfl #[.int .i64 a0] rfl (by (try simp only [List.map_toArray, List.map_cons, List.map_nil]); first | done | rfl | (simp only [List.length_drop, List.length_take]; rfl)) ?_; (with_reducible refine (cmp_isNaN_int64.calls a0 false _ A3.out).mono ?_); rintro e w' ⟨rfl, ⟨nd, rfl⟩⟩; refine ⟨_, rfl, ?_⟩) | ((with_reducible refine gate_callee (f := 93) rfl ?_); refine goesL_ (some 10) rfl rfl Try.func93 (by kernel_rfl) rfl #[.int .i64 a1] rfl (by (try simp only [List.map_toArray, List.map_cons, List.map_nil]); first | done | rfl | (simp only [List.length_drop, List.length_take]; rfl)) ?_; (with_reducible refine (cmp_isNaN_int64.calls a1 false _ A4.out).mono ?_); rintro e w' ⟨rfl, ⟨nd, rfl⟩⟩; refine ⟨_, rfl, ?_⟩))
     go_ret
     exact ⟨by first | rfl | (simp; done) | (simp [*]; done), by repeat (first | exact Drawn0.refl _ | apply Drawn0.step)⟩
    ·rw [if_neg c9] at H
     have c9b0 : decide (a1 < a0) = false := decide_eq_false c9
     clear c9
     obtain rfl := Option.some.inj H
     go_enter Try.func68, Try.ntmps68
     go_wp2_with (first | ((with_reducible refine gate_callee (f := 93) rfl ?_); refine goesL_ (some 8) rfl rfl Try.func93 (by kernel_rfl) rfl #[.int .i64 a0] rfl (by (try simp only [List.map_toArray, List.map_cons, List.map_nil]); first | done | rfl | (simp only [List.length_drop, List.length_take]; rfl)) ?_; (with_reducible refine (cmp_isNaN_int64.calls a0 false _ A3.out).mono ?_); rintro e w' ⟨rfl, ⟨nd, rfl⟩⟩; refine ⟨_, rfl, ?_⟩) | ((with_reducible refine gate_callee (f := 93) rfl ?_); refine goesL_ (some 10) rfl rfl Try.func93 (by kernel_rfl) rfl #[.int .i64 a1] rfl (by (try simp only [List.map_toArray, List.map_cons, List.map_nil]); first | done | rfl | (simp only [List.length_drop, List.length_take]; rfl)) ?_; (with_reducible refine (cmp_isNaN_int64.calls a1 false _ A4.out).mono ?_); rintro e w' ⟨rfl, ⟨nd, rfl⟩⟩; refine ⟨_, rfl, ?_⟩))
     go_ret
     exact ⟨by first | rfl | (simp; done) | (simp [*]; done), by repeat (first | exact Drawn0.refl _ | apply Drawn0.step)⟩
def value_Compare.j0 : Nat → Bool → Bool → ByteArray → Int → Bool → ByteArray → Int → Option (Int)
 | 0, _, _, _, _, _, _, _ => none
 | k + 1, x5, x102000, x102001, x102002, x103000, x103001, x103002 => if x5 = true then ((cmp_Compare_string.f x102001 x103001).bind fun t103 => (some t103)) else (if x102000 = true then (some 1) else (if x103000 = true then (some (-1)) else ((cmp_Compare_int64.f x102002 x103002).bind fun t104 => (some t104))))
def value_Compare.f (k : Nat) (a0_0 : Bool) (a0_1 : ByteArray) (a0_2 : Int) (a1_0 : Bool) (a1_1 : ByteArray) (a1_2 : Int) : Option (Int) := if a0_0 = true then (value_Compare.j0 k a1_0 a0_0 a0_1 a0_2 a1_0 a1_1 a1_2) else (value_Compare.j0 k false a0_0 a0_1 a0_2 a1_0 a1_1 a1_2)
theorem value_Compare.mono_l : ∀ k, (∀ y0 y1 y2 y3 y4 y5 y6, LeO (value_Compare.j0 k y0 y1 y2 y3 y4 y5 y6) (value_Compare.j0 (k + 1) y0 y1 y2 y3 y4 y5 y6))
 | 0 => fun _ _ _ _ _ _ _ r h => by simp [value_Compare.j0] at h
 | k + 1 => by
  have ih0 := value_Compare.mono_l k
  ·intro y0 y1 y2 y3 y4 y5 y6
   unfold value_Compare.j0
   repeat' first
   | (with_reducible exact ih0 _ _ _ _ _ _ _)
   | (with_reducible exact LeO.refl _)
   | (with_reducible exact LeO.none _)
   | (with_reducible refine LeO.ite ?_ ?_)
   | (with_reducible refine LeO.bind ?_ (fun _ => ?_))
   | exact ih0 _ _ _ _ _ _ _
   | exact LeO.none _
   | refine LeO.ite ?_ ?_
   | refine LeO.bind ?_ (fun _ => ?_)
theorem value_Compare.mono : ∀ a0 a1 a2 a3 a4 a5 k, LeO (value_Compare.f k a0 a1 a2 a3 a4 a5) (value_Compare.f (k + 1) a0 a1 a2 a3 a4 a5) := by
 intro a0 a1 a2 a3 a4 a5 k
 have ih0 := value_Compare.mono_l k
 unfold value_Compare.f
 repeat' first
   | (with_reducible exact ih0 _ _ _ _ _ _ _)
   | (with_reducible exact LeO.refl _)
   | (with_reducible exact LeO.none _)
   | (with_reducible refine LeO.ite ?_ ?_)
   | (with_reducible refine LeO.bind ?_ (fun _ => ?_))
   | exact ih0 _ _ _ _ _ _ _
   | exact LeO.none _
   | refine LeO.ite ?_ ?_
   | refine LeO.bind ?_ (fun _ => ?_)
set_option maxHeartbeats 8000000 in
set_option maxRecDepth 100000 in
theorem value_Compare.calls (k : Nat) (a0_0 : Bool) (a0_1 : ByteArray) (a0_2 : Int) (a1_0 : Bool) (a1_1 : ByteArray) (a1_2 : Int) (r : Int) (w : World) (h : value_Compare.f k a0_0 a0_1 a0_2 a1_0 a1_1 a1_2 = some r) :
  Calls Try.prog 54 #[.agg #[.bool a0_0, .string a0_1, .int .i64 a0_2], .agg #[.bool a1_0, .string a1_1, .int .i64 a1_2]] w fun e w' => e = .returned (.int .i64 r) ∧ Below w.heap.size w w' := by
 have hu28 := Try.underlying28
 have HB := Aside0.mk (Below.refl w.heap.size w)
 have H : (if a0_0 = true then (value_Compare.j0 k a1_0 a0_0 a0_1 a0_2 a1_0 a1_1 a1_2) else (value_Compare.j0 k false a0_0 a0_1 a0_2 a1_0 a1_1 a1_2)) = some r := h
 clear h
 have HC3 := Aside0.mk H
 clear H
 go_enter Try.func54, Try.ntmps54
 go_upto_region 1 with (first | ((with_reducible refine gate_dst (N := 2) rfl ?_); refine box_event ?hg (N := 2) ?hd (cs := #[.bool a0_0, .string a0_1, .int .i64 a0_2]) (t := 28) ?hr ?_; (case hd => rfl); (case hg => rfl); (case hr => first | (go_simp; done) | (go_simp; rfl)); intro gb101 hg w4 hbox hb; have n0_ := Aside0.mk (below_step (by repeat (first | (with_reducible first | exact HB.out | apply below_alloc | apply pw_below_drewN | apply below_drew1) | exact HB.out)) hb); have n1_ := Aside0.mk (hbox); have n2_ := Aside0.mk ((by rw [hg]; exact (below_size (by repeat (first | (with_reducible first | exact HB.out | apply below_alloc | apply pw_below_drewN | apply below_drew1) | exact HB.out))) : w.heap.size ≤ gb101)); have n3_ := Aside0.mk ((by rw [hg]; exact (below_size (by repeat (first | (with_reducible first | exact HB.out | apply below_alloc | apply pw_below_drewN | apply below_drew1) | exact HB.out))) : w.heap.size ≤ gb101)); clear HB; have HB := n0_; have BK101 := n1_; have GW101 := n2_; have GE101 := n3_; clear n0_ n1_ n2_ n3_; clear hb hbox hg) | ((with_reducible refine gate_dst (N := 3) rfl ?_); refine box_event ?hg (N := 3) ?hd (cs := #[.bool a1_0, .string a1_1, .int .i64 a1_2]) (t := 28) ?hr ?_; (case hd => rfl); (case hg => rfl); (case hr => first | (go_simp; done) | (go_simp; rfl)); intro gb102 hg w5 hbox hb; have n0_ := Aside0.mk (blk_below (g := gb101) (o := .cells #[.bool a0_0, .string a0_1, .int .i64 a0_2] 28 (0, 0)) (by (with_reducible repeat (first | refine blk_drewN ?_ _ | refine blk_drew ?_ | refine blk_alloc ?_ _)); exact BK101.out) hb); have n1_ := Aside0.mk (below_step (by repeat (first | (with_reducible first | exact HB.out | apply below_alloc | apply pw_below_drewN | apply below_drew1 | refine below_set ?_ GE101.out) | exact HB.out)) hb); have n2_ := Aside0.mk (hbox); have n3_ := Aside0.mk ((by rw [hg]; exact (below_size (by repeat (first | (with_reducible first | exact HB.out | apply below_alloc | apply pw_below_drewN | apply below_drew1 | refine below_set ?_ GE101.out) | exact HB.out))) : w.heap.size ≤ gb102)); have n4_ := Aside0.mk ((by rw [hg]; exact (below_size (by repeat (first | (with_reducible first | exact HB.out | apply below_alloc | apply pw_below_drewN | apply below_drew1 | refine below_set ?_ GE101.out) | exact HB.out))) : w.heap.size ≤ gb102)); have n5_ := Aside0.mk ((by rw [hg]; exact Nat.ne_of_lt (blk_lt (g := gb101) (o := .cells #[.bool a0_0, .string a0_1, .int .i64 a0_2] 28 (0, 0)) (by (with_reducible repeat (first | refine blk_drewN ?_ _ | refine blk_drew ?_ | refine blk_alloc ?_ _)); exact BK101.out)) : gb101 ≠ gb102)); have n6_ := Aside0.mk ((by rw [hg]; exact Nat.ne_of_gt (blk_lt (g := gb101) (o := .cells #[.bool a0_0, .string a0_1, .int .i64 a0_2] 28 (0, 0)) (by (with_reducible repeat (first | refine blk_drewN ?_ _ | refine blk_drew ?_ | refine blk_alloc ?_ _)); exact BK101.out)) : gb102 ≠ gb101)); clear BK101; clear HB; have BK101 := n0_; have HB := n1_; have BK102 := n2_; have GW102 := n3_; have GE102 := n4_; have NB101_102 := n5_; have NB102_101 := n6_; clear n0_ n1_ n2_ n3_ n4_ n5_ n6_; clear hb hbox hg))
 (try simp only [Act.put, List.setIfInBounds_toArray, List.set_cons_zero, List.set_cons_succ])
 go_cut [5] (fun v5 wc => ∃ (kq : Nat) (x5_2 : Bool), v5 = .bool x5_2 ∧ Aside0 (value_Compare.j0 kq x5_2 a0_0 a0_1 a0_2 a1_0 a1_1 a1_2 = some r) ∧ Aside0 (kq ≤ k) ∧ Aside0 (wc.heap[gb101]? = some (.cells #[.bool a0_0, .string a0_1, .int .i64 a0_2] 28 (0, 0))) ∧ Aside0 (wc.heap[gb102]? = some (.cells #[.bool a1_0, .string a1_1, .int .i64 a1_2] 28 (0, 0))) ∧ Aside0 (Below w.heap.size w wc))
 case first =>
  have H := HC3.out
  clear HC3
  by_cases c6 : a0_0 = true
  ·subst c6
   have H1 : (value_Compare.j0 k a1_0 true a0_1 a0_2 a1_0 a1_1 a1_2) = some r := by rw [if_pos rfl] at H; exact H
   clear H
   have H := H1
   clear H1
   have H' := Aside0.mk H
   clear H
   have hnb7 := NB101_102.out
   have hnc7 := NB102_101.out
   have hcz8_0 : w5.cell? ⟨gb101, 0, none⟩ = some (.bool true) := (blk_cell BK101.out 0).trans rfl
   have hcz8_1 : w5.cell? ⟨gb101, 1, none⟩ = some (.string a0_1) := (blk_cell BK101.out 1).trans rfl
   have hcz8_2 : w5.cell? ⟨gb101, 2, none⟩ = some (.int .i64 a0_2) := (blk_cell BK101.out 2).trans rfl
   have hfz8_0 := blk_frozen BK101.out 0
   have hfz8_1 := blk_frozen BK101.out 1
   have hfz8_2 := blk_frozen BK101.out 2
   have hcz9_0 : w5.cell? ⟨gb102, 0, none⟩ = some (.bool a1_0) := (blk_cell BK102.out 0).trans rfl
   have hcz9_1 : w5.cell? ⟨gb102, 1, none⟩ = some (.string a1_1) := (blk_cell BK102.out 1).trans rfl
   have hcz9_2 : w5.cell? ⟨gb102, 2, none⟩ = some (.int .i64 a1_2) := (blk_cell BK102.out 2).trans rfl
   have hfz9_0 := blk_frozen BK102.out 0
   have hfz9_1 := blk_frozen BK102.out 1
   have hfz9_2 := blk_frozen BK102.out 2
   go_wp2
   go_meet
   case rel => exact ⟨_, (a1_0), (by first | rfl | (simp; done) | (simp [*]; done)), H', ⟨by first | omega | exact Nat.le_refl _⟩, ⟨by (with_reducible repeat (first | refine blk_drewN ?_ _ | refine blk_drew ?_ | refine blk_alloc ?_ _)); exact BK101.out⟩, ⟨by (with_reducible repeat (first | refine blk_drewN ?_ _ | refine blk_drew ?_ | refine blk_alloc ?_ _)); exact BK102.out⟩, ⟨by repeat (first | (with_reducible first | exact HB.out | apply below_alloc | apply pw_below_drewN | apply below_drew1 | refine below_set ?_ GE101.out | refine below_set ?_ GE102.out) | exact HB.out)⟩⟩
  ·replace c6 := Bool.eq_false_iff.mpr c6
   subst c6
   have H1 : (value_Compare.j0 k false false a0_1 a0_2 a1_0 a1_1 a1_2) = some r := by rw [if_neg (show ¬ (false = true) by decide)] at H; exact H
   clear H
   have H := H1
   clear H1
   have H' := Aside0.mk H
   clear H
   have hnb10 := NB101_102.out
   have hnc10 := NB102_101.out
   have hcz11_0 : w5.cell? ⟨gb101, 0, none⟩ = some (.bool false) := (blk_cell BK101.out 0).trans rfl
   have hcz11_1 : w5.cell? ⟨gb101, 1, none⟩ = some (.string a0_1) := (blk_cell BK101.out 1).trans rfl
   have hcz11_2 : w5.cell? ⟨gb101, 2, none⟩ = some (.int .i64 a0_2) := (blk_cell BK101.out 2).trans rfl
   have hfz11_0 := blk_frozen BK101.out 0
   have hfz11_1 := blk_frozen BK101.out 1
   have hfz11_2 := blk_frozen BK101.out 2
   go_wp2
   go_meet
   case rel => exact ⟨_, (false), (by first | rfl | (simp; done) | (simp [*]; done)), H', ⟨by first | omega | exact Nat.le_refl _⟩, ⟨by (with_reducible repeat (first | refine blk_drewN ?_ _ | refine blk_drew ?_ | refine blk_alloc ?_ _)); exact BK101.out⟩, ⟨by (with_reducible repeat (first | refine blk_drewN ?_ _ | refine blk_drew ?_ | refine blk_alloc ?_ _)); exact BK102.out⟩, ⟨by repeat (first | (with_reducible first | exact HB.out | apply below_alloc | apply pw_below_drewN | apply below_drew1 | refine below_set ?_ GE101.out | refine below_set ?_ GE102.out) | exact HB.out)⟩⟩
 case rest =>
  clear HC3
  try clear c1
  try clear p2
  try clear c5
  try clear c6
  try clear c7
  try clear c10
  try clear hcz11_0
  try clear hcz11_1
  try clear hcz11_2
  try clear hcz8_0
  try clear hcz8_1
  try clear hcz8_2
  try clear hcz9_0
  try clear hcz9_1
  try clear hcz9_2
  try clear hfz11_0
  try clear hfz11_1
  try clear hfz11_2
  try clear hfz8_0
  try clear hfz8_1
  try clear hfz8_2
  try clear hfz9_0
  try clear hfz9_1
  try clear hfz9_2
  obtain ⟨kq, x5_2, rfl, HA, HJ2, BK101, BK102, HB⟩ := hcut
  cases kq with
  | zero => exact absurd HA.out (by simp [value_Compare.j0])
  | succ kj2 =>
   have H := HA.out
   clear HA
   simp only [value_Compare.j0] at H
   by_cases c12 : x5_2 = true
   ·subst c12
    have H1 : ((cmp_Compare_string.f a0_1 a1_1).bind fun t103 => (some t103)) = some r := by rw [if_pos rfl] at H; exact H
    clear H
    have H := H1
    clear H1
    replace H := Option.bind_eq_some_iff.mp H
    obtain ⟨t103, A130, H⟩ := H
    replace H : (some t103) = some r := H
    have A13 := Aside0.mk A130
    clear A130
    obtain rfl := Option.some.inj H
    have hnb14 := NB101_102.out
    have hnc14 := NB102_101.out
    have hcz15_0 : wc.cell? ⟨gb101, 0, none⟩ = some (.bool a0_0) := (blk_cell BK101.out 0).trans rfl
    have hcz15_1 : wc.cell? ⟨gb101, 1, none⟩ = some (.string a0_1) := (blk_cell BK101.out 1).trans rfl
    have hcz15_2 : wc.cell? ⟨gb101, 2, none⟩ = some (.int .i64 a0_2) := (blk_cell BK101.out 2).trans rfl
    have hfz15_0 := blk_frozen BK101.out 0
    have hfz15_1 := blk_frozen BK101.out 1
    have hfz15_2 := blk_frozen BK101.out 2
    have hcz16_0 : wc.cell? ⟨gb102, 0, none⟩ = some (.bool a1_0) := (blk_cell BK102.out 0).trans rfl
    have hcz16_1 : wc.cell? ⟨gb102, 1, none⟩ = some (.string a1_1) := (blk_cell BK102.out 1).trans rfl
    have hcz16_2 : wc.cell? ⟨gb102, 2, none⟩ = some (.int .i64 a1_2) := (blk_cell BK102.out 2).trans rfl
    have hfz16_0 := blk_frozen BK102.out 0
    have hfz16_1 := blk_frozen BK102.out 1
    have hfz16_2 := blk_frozen BK102.out 2
    go_wp2_with (first | ((with_reducible refine gate_callee (f := 39) rfl ?_); refine goesL_ (some 16) rfl rfl Try.func39 (by kernel_rfl) rfl #[.string a0_1, .string a1_1] rfl (by (try simp only [List.map_toArray, List.map_cons, List.map_nil]); first | done | rfl | (simp only [List.length_drop, List.length_take]; rfl)) ?_; (with_reducible refine (cmp_Compare_string.calls a0_1 a1_1 t103 _ A13.out).mono ?_); rintro e w' ⟨rfl, ⟨nd, rfl⟩⟩; refine ⟨_, rfl, ?_⟩))
    go_ret
    exact ⟨by first | rfl | (simp [errW_none, errW_some] <;> rfl) | (simp [*, errW_none, errW_some] <;> rfl), by repeat (first | (with_reducible first | exact HB.out | apply below_alloc | apply pw_below_drewN | apply below_drew1 | refine below_set ?_ GE101.out | refine below_set ?_ GE102.out) | exact HB.out)⟩
   ·replace c12 := Bool.eq_false_iff.mpr c12
    subst c12
    have H1 : (if a0_0 = true then (some 1) else (if a1_0 = true then (some (-1)) else ((cmp_Compare_int64.f a0_2 a1_2).bind fun t104 => (some t104)))) = some r := by rw [if_neg (show ¬ (false = true) by decide)] at H; exact H
    clear H
    have H := H1
    clear H1
    by_cases c17 : a0_0 = true
    ·subst c17
     have H1 : (some 1) = some r := by rw [if_pos rfl] at H; exact H
     clear H
     have H := H1
     clear H1
     obtain rfl := Option.some.inj H
     have hnb18 := NB101_102.out
     have hnc18 := NB102_101.out
     have hcz19_0 : wc.cell? ⟨gb101, 0, none⟩ = some (.bool true) := (blk_cell BK101.out 0).trans rfl
     have hcz19_1 : wc.cell? ⟨gb101, 1, none⟩ = some (.string a0_1) := (blk_cell BK101.out 1).trans rfl
     have hcz19_2 : wc.cell? ⟨gb101, 2, none⟩ = some (.int .i64 a0_2) := (blk_cell BK101.out 2).trans rfl
     have hfz19_0 := blk_frozen BK101.out 0
     have hfz19_1 := blk_frozen BK101.out 1
     have hfz19_2 := blk_frozen BK101.out 2
     go_wp2
     go_ret
     exact ⟨by first | rfl | (simp [errW_none, errW_some] <;> rfl) | (simp [*, errW_none, errW_some] <;> rfl), by repeat (first | (with_reducible first | exact HB.out | apply below_alloc | apply pw_below_drewN | apply below_drew1 | refine below_set ?_ GE101.out | refine below_set ?_ GE102.out) | exact HB.out)⟩
    ·replace c17 := Bool.eq_false_iff.mpr c17
     subst c17
     have H1 : (if a1_0 = true then (some (-1)) else ((cmp_Compare_int64.f a0_2 a1_2).bind fun t104 => (some t104))) = some r := by rw [if_neg (show ¬ (false = true) by decide)] at H; exact H
     clear H
     have H := H1
     clear H1
     by_cases c20 : a1_0 = true
     ·subst c20
      have H1 : (some (-1)) = some r := by rw [if_pos rfl] at H; exact H
      clear H
      have H := H1
      clear H1
      obtain rfl := Option.some.inj H
      have hnb21 := NB101_102.out
      have hnc21 := NB102_101.out
      have hcz22_0 : wc.cell? ⟨gb101, 0, none⟩ = some (.bool false) := (blk_cell BK101.out 0).trans rfl
      have hcz22_1 : wc.cell? ⟨gb101, 1, none⟩ = some (.string a0_1) := (blk_cell BK101.out 1).trans rfl
      have hcz22_2 : wc.cell? ⟨gb101, 2, none⟩ = some (.int .i64 a0_2) := (blk_cell BK101.out 2).trans rfl
      have hfz22_0 := blk_frozen BK101.out 0
      have hfz22_1 := blk_frozen BK101.out 1
      have hfz22_2 := blk_frozen BK101.out 2
      have hcz23_0 : wc.cell? ⟨gb102, 0, none⟩ = some (.bool true) := (blk_cell BK102.out 0).trans rfl
      have hcz23_1 : wc.cell? ⟨gb102, 1, none⟩ = some (.string a1_1) := (blk_cell BK102.out 1).trans rfl
      have hcz23_2 : wc.cell? ⟨gb102, 2, none⟩ = some (.int .i64 a1_2) := (blk_cell BK102.out 2).trans rfl
      have hfz23_0 := blk_frozen BK102.out 0
      have hfz23_1 := blk_frozen BK102.out 1
      have hfz23_2 := blk_frozen BK102.out 2
      go_wp2
      go_ret
      exact ⟨by first | rfl | (simp [errW_none, errW_some] <;> rfl) | (simp [*, errW_none, errW_some] <;> rfl), by repeat (first | (with_reducible first | exact HB.out | apply below_alloc | apply pw_below_drewN | apply below_drew1 | refine below_set ?_ GE101.out | refine below_set ?_ GE102.out) | exact HB.out)⟩
     ·replace c20 := Bool.eq_false_iff.mpr c20
      subst c20
      have H1 : ((cmp_Compare_int64.f a0_2 a1_2).bind fun t104 => (some t104)) = some r := by rw [if_neg (show ¬ (false = true) by decide)] at H; exact H
      clear H
      have H := H1
      clear H1
      replace H := Option.bind_eq_some_iff.mp H
      obtain ⟨t104, A240, H⟩ := H
      replace H : (some t104) = some r := H
      have A24 := Aside0.mk A240
      clear A240
      obtain rfl := Option.some.inj H
      have hnb25 := NB101_102.out
      have hnc25 := NB102_101.out
      have hcz26_0 : wc.cell? ⟨gb101, 0, none⟩ = some (.bool false) := (blk_cell BK101.out 0).trans rfl
      have hcz26_1 : wc.cell? ⟨gb101, 1, none⟩ = some (.string a0_1) := (blk_cell BK101.out 1).trans rfl
      have hcz26_2 : wc.cell? ⟨gb101, 2, none⟩ = some (.int .i64 a0_2) := (blk_cell BK101.out 2).trans rfl
      have hfz26_0 := blk_frozen BK101.out 0
      have hfz26_1 := blk_frozen BK101.out 1
      have hfz26_2 := blk_frozen BK101.out 2
      have hcz27_0 : wc.cell? ⟨gb102, 0, none⟩ = some (.bool false) := (blk_cell BK102.out 0).trans rfl
      have hcz27_1 : wc.cell? ⟨gb102, 1, none⟩ = some (.string a1_1) := (blk_cell BK102.out 1).trans rfl
      have hcz27_2 : wc.cell? ⟨gb102, 2, none⟩ = some (.int .i64 a1_2) := (blk_cell BK102.out 2).trans rfl
      have hfz27_0 := blk_frozen BK102.out 0
      have hfz27_1 := blk_frozen BK102.out 1
      have hfz27_2 := blk_frozen BK102.out 2
      go_wp2_with (first | ((with_reducible refine gate_callee (f := 68) rfl ?_); refine goesL_ (some 27) rfl rfl Try.func68 (by kernel_rfl) rfl #[.int .i64 a0_2, .int .i64 a1_2] rfl (by (try simp only [List.map_toArray, List.map_cons, List.map_nil]); first | done | rfl | (simp only [List.length_drop, List.length_take]; rfl)) ?_; (with_reducible refine (cmp_Compare_int64.calls a0_2 a1_2 t104 _ A24.out).mono ?_); rintro e w' ⟨rfl, ⟨nd, rfl⟩⟩; refine ⟨_, rfl, ?_⟩))
      go_ret
      exact ⟨by first | rfl | (simp [errW_none, errW_some] <;> rfl) | (simp [*, errW_none, errW_some] <;> rfl), by repeat (first | (with_reducible first | exact HB.out | apply below_alloc | apply pw_below_drewN | apply below_drew1 | refine below_set ?_ GE101.out | refine below_set ?_ GE102.out) | exact HB.out)⟩
end Go.Proofs.Ytoekfmdcplphmaa.H
namespace Go.Proofs.Ytoekfmdcplphmaa.H
open Go.RowKit Go.Proofs.YtoekfmdcplphmaaW.PrintWords Go.Proofs.YtoekfmdcplphmaaW.PrintLast Go.Proofs.YtoekfmdcplphmaaW.PrintMore
attribute [local go_sem] max2_int min2_mn max_two min_two max_three min_three max_four min_four
def tuple_Compare.l0 : Nat → List (Val) → List (Val) → Int → Int → Option (Int)
 | 0, _, _, _, _ => none
 | k + 1, x0, x1, x11, x12 => if x12 < x11 then (if 0 ≤ x12 then (if x12 < (x0.length : Int) then (if x12 < (x1.length : Int) then ((value_Compare.f k ((rd_T28 x0 x12).isSym) ((rd_T28 x0 x12).sym) ((rd_T28 x0 x12).n) ((rd_T28 x1 x12).isSym) ((rd_T28 x1 x12).sym) ((rd_T28 x1 x12).n)).bind fun t103 => (if t103 = 0 then (tuple_Compare.l0 k x0 x1 x11 (wrap64 (x12 + 1))) else (some t103))) else (none)) else (none)) else (none)) else ((cmp_Compare_int.f (x0.length : Int) (x1.length : Int)).bind fun t104 => (some t104))
def tuple_Compare.f (k : Nat) (l0 : List (Val)) (l1 : List (Val)) : Option (Int) := tuple_Compare.l0 k l0 l1 (mn (l0.length : Int) (l1.length : Int)) 0
theorem tuple_Compare.mono_l : ∀ k, (∀ y0 y1 y2 y3, LeO (tuple_Compare.l0 k y0 y1 y2 y3) (tuple_Compare.l0 (k + 1) y0 y1 y2 y3))
 | 0 => fun _ _ _ _ r h => by simp [tuple_Compare.l0] at h
 | k + 1 => by
  have ih0 := tuple_Compare.mono_l k
  ·intro y0 y1 y2 y3
   unfold tuple_Compare.l0
   repeat' first
   | (with_reducible exact ih0 _ _ _ _)
   | (with_reducible exact value_Compare.mono _ _ _ _ _ _ _)
   | (with_reducible exact LeO.refl _)
   | (with_reducible exact LeO.none _)
   | (with_reducible refine LeO.ite ?_ ?_)
   | (with_reducible refine LeO.bind ?_ (fun _ => ?_))
   | exact ih0 _ _ _ _
   | exact value_Compare.mono _ _ _ _ _ _ _
   | exact LeO.none _
   | refine LeO.ite ?_ ?_
   | refine LeO.bind ?_ (fun _ => ?_)
theorem tuple_Compare.mono : ∀ a0 a1 k, LeO (tuple_Compare.f k a0 a1) (tuple_Compare.f (k + 1) a0 a1) := by
 intro a0 a1 k
 have ih0 := tuple_Compare.mono_l k
 unfold tuple_Compare.f
 repeat' first
   | (with_reducible exact ih0 _ _ _ _)
   | (with_reducible exact value_Compare.mono _ _ _ _ _ _ _)
   | (with_reducible exact LeO.refl _)
   | (with_reducible exact LeO.none _)
   | (with_reducible refine LeO.ite ?_ ?_)
   | (with_reducible refine LeO.bind ?_ (fun _ => ?_))
   | exact ih0 _ _ _ _
   | exact value_Compare.mono _ _ _ _ _ _ _
   | exact LeO.none _
   | refine LeO.ite ?_ ?_
   | refine LeO.bind ?_ (fun _ => ?_)
def tuple_Compare.T4 : Bool × List (List Nat × List Nat) := (true, [([], []), ([], []), ([0, 1], [0, 1]), ([2], [2]), ([], []), ([], []), ([4, 5], [4, 5]), ([6], [6]), ([3, 7], [3, 7]), ([8, 8, 0, 1, 2, 3, 4, 5, 6, 7, 8], [8])])
def tuple_Compare.B4 : List Nat := [0, 0, 3, 7, 0, 0, 48, 112, 255, 511]
theorem tuple_Compare.tab4 : rtab .any (opsOf Try.f40 4) = tuple_Compare.T4 := by kernel_rfl
theorem tuple_Compare.bits4 : waitsOk tuple_Compare.T4.2 tuple_Compare.B4 = true := by kernel_rfl
set_option maxHeartbeats 8000000 in
set_option maxRecDepth 100000 in
theorem tuple_Compare.calls (k : Nat) (A0 : Option Addr) (c0 : Nat) (l0 : List (Val)) (A1 : Option Addr) (c1 : Nat) (l1 : List (Val)) (r : Int) (w : World) (hr0 : Kd.C k28 w A0 l0.length l0) (hc0 : l0.length ≤ c0) (hr1 : Kd.C k28 w A1 l1.length l1) (hc1 : l1.length ≤ c1) (h : tuple_Compare.f k l0 l1 = some r) :
  Calls Try.prog 40 #[.slice A0 l0.length c0, .slice A1 l1.length c1] w fun e w' => e = .returned (.int .i64 r) ∧ Below w.heap.size w w' := by
 have hu28 := Try.underlying28
 have HR0 := Aside0.mk hr0
 have HC0 := Aside0.mk hc0
 clear hr0 hc0
 have HR1 := Aside0.mk hr1
 have HC1 := Aside0.mk hc1
 clear hr1 hc1
 have HB := Aside0.mk (Below.refl w.heap.size w)
 have H : (tuple_Compare.l0 k l0 l1 (mn (l0.length : Int) (l1.length : Int)) 0) = some r := h
 clear h
 obtain ⟨ji3, hji3⟩ : ∃ j_ : Int, (mn (l0.length : Int) (l1.length : Int)) = j_ := ⟨_, rfl⟩
 replace H : (tuple_Compare.l0 k l0 l1 ji3 0) = some r := by first | (rw [hji3] at H; exact H) | (simp only [hji3] at H ⊢; exact H)
 (try (have hji3l : 0 ≤ ji3 := by (rw [← hji3]; unfold mn; (repeat' split) <;> omega)))
 (try (have hji3m : 0 ≤ ji3 := by omega))
 have hji3_ : (if (l1.length : Int) < (l0.length : Int) then (l1.length : Int) else (l0.length : Int)) = ji3 := hji3
 have H' := Aside0.mk H
 clear H
 go_enter Try.func40, Try.ntmps40
 go_wp2
 go_loopg [12] k (fun kq v12 w' => ∃ (x12_1 : Int), v12 = .int .i64 x12_1 ∧ Aside0 (tuple_Compare.l0 kq l0 l1 ji3 x12_1 = some r) ∧ Aside0 (kq ≤ k) ∧ Aside0 (Below w.heap.size w w'))
 case atStart => exact ⟨(0), (by first | rfl | (simp; done) | (simp [*]; done)), H', ⟨Nat.le_refl _⟩, ⟨by repeat (first | (with_reducible first | exact HB.out | apply below_alloc | apply pw_below_drewN | apply below_drew1) | exact HB.out)⟩⟩
 case round =>
  clear H'
  try clear c1
  try clear p2
  obtain ⟨x12_1, rfl, HA, HK1, HB⟩ := hrel
  cases gk with
  | zero => exact absurd HA.out (by simp [tuple_Compare.l0])
  | succ k1 =>
   have H := HA.out
   clear HA
   simp only [tuple_Compare.l0] at H
   by_cases c4 : x12_1 < ji3
   ·rw [if_pos c4] at H
    have c4b0 : decide (x12_1 < ji3) = true := decide_eq_true c4
    clear c4
    by_cases c5 : 0 ≤ x12_1
    ·rw [if_pos c5] at H
     have c5b0 : decide (0 ≤ x12_1) = true := decide_eq_true c5
     clear c5
     by_cases c6 : x12_1 < (l0.length : Int)
     ·rw [if_pos c6] at H
      have c6b0 : decide (x12_1 < (l0.length : Int)) = true := decide_eq_true c6
      clear c6
      by_cases c7 : x12_1 < (l1.length : Int)
      ·rw [if_pos c7] at H
       have c7b0 : decide (x12_1 < (l1.length : Int)) = true := decide_eq_true c7
       clear c7
       replace H := Option.bind_eq_some_iff.mp H
       obtain ⟨t103, A80, H⟩ := H
       replace H : (if t103 = 0 then (tuple_Compare.l0 k1 l0 l1 ji3 (wrap64 (x12_1 + 1))) else (some t103)) = some r := H
       have A8 := Aside0.mk A80
       clear A80
       by_cases c9 : t103 = 0
       ·rw [if_pos c9] at H
        have c9b0 : (t103 == 0) = true := beq_iff_eq.mpr c9
        have c9b1 : (t103 != 0) = false := bne_eq_false_iff_eq.mpr c9
        clear c9
        have H' := Aside0.mk H
        clear H
        try go_wp2
        have n0_ := Aside0.mk (below_drew1 HB.out)
        clear HB
        have HB := n0_
        clear n0_
        have p101 : 0 ≤ (x12_1 : Int) := of_decide_eq_true (by first | (with_reducible assumption) | assumption)
        have q101 : x12_1 < (l0.length : Int) := of_decide_eq_true (by first | (with_reducible assumption) | assumption)
        obtain ⟨ad101, e101, hx101_0, hx101_1, hx101_2⟩ := at_T28 HR0.out x12_1 p101 q101
        have hw101_2 := hx101_2
        have hw101_1 := hx101_1
        have hw101_0 := hx101_0
        cases e101
        replace hx101_0 := (HB.out.cell (blt_ hx101_0)).trans hx101_0
        replace hx101_1 := (HB.out.cell (blt_ hx101_1)).trans hx101_1
        replace hx101_2 := (HB.out.cell (blt_ hx101_2)).trans hx101_2
        replace p101 := eq_true p101
        replace q101 := eq_true q101
        have p102 : 0 ≤ (x12_1 : Int) := of_decide_eq_true (by first | (with_reducible assumption) | assumption)
        have q102 : x12_1 < (l1.length : Int) := of_decide_eq_true (by first | (with_reducible assumption) | assumption)
        obtain ⟨ad102, e102, hx102_0, hx102_1, hx102_2⟩ := at_T28 HR1.out x12_1 p102 q102
        have hw102_2 := hx102_2
        have hw102_1 := hx102_1
        have hw102_0 := hx102_0
        cases e102
        replace hx102_0 := (HB.out.cell (blt_ hx102_0)).trans hx102_0
        replace hx102_1 := (HB.out.cell (blt_ hx102_1)).trans hx102_1
        replace hx102_2 := (HB.out.cell (blt_ hx102_2)).trans hx102_2
        replace p102 := eq_true p102
        replace q102 := eq_true q102
        refine start_ (n := 10) (S := fun w' => w'.cell? (ad101.add ((x12_1).toNat * 3)) = some (.bool ((rd_T28 l0 x12_1).isSym)) ∧ w'.cell? ⟨(ad101.add ((x12_1).toNat * 3)).block, (ad101.add ((x12_1).toNat * 3)).off + 1, none⟩ = some (.string ((rd_T28 l0 x12_1).sym)) ∧ w'.cell? ⟨(ad101.add ((x12_1).toNat * 3)).block, (ad101.add ((x12_1).toNat * 3)).off + 2, none⟩ = some (.int .i64 ((rd_T28 l0 x12_1).n)) ∧ w'.cell? (ad102.add ((x12_1).toNat * 3)) = some (.bool ((rd_T28 l1 x12_1).isSym)) ∧ w'.cell? ⟨(ad102.add ((x12_1).toNat * 3)).block, (ad102.add ((x12_1).toNat * 3)).off + 1, none⟩ = some (.string ((rd_T28 l1 x12_1).sym)) ∧ w'.cell? ⟨(ad102.add ((x12_1).toNat * 3)).block, (ad102.add ((x12_1).toNat * 3)).off + 2, none⟩ = some (.int .i64 ((rd_T28 l1 x12_1).n))) (ds := []) #[false, false, false, false, false, false, false, false, false, false] (by kernel_rfl) rfl rfl ⟨((HB.out.cell (blt_ hw101_0)).trans hw101_0), ((HB.out.cell (blt_ hw101_1)).trans hw101_1), ((HB.out.cell (blt_ hw101_2)).trans hw101_2), ((HB.out.cell (blt_ hw102_0)).trans hw102_0), ((HB.out.cell (blt_ hw102_1)).trans hw102_1), ((HB.out.cell (blt_ hw102_2)).trans hw102_2)⟩ (fun hHeld => ?_); refine with_tabW tuple_Compare.tab4 tuple_Compare.bits4 (fun HT_ HW_ => ?_)
        generalize wr.drew = w10 at HB hx101_0 hx101_1 hx101_2 hx102_0 hx102_1 hx102_2 hHeld ⊢
        refine pure_ (i := 0) (N := some 15) (v := ?_) (a' := ?_) #[true, false, false, false, false, false, false, false, false, false] rfl rfl (any_of HT_.out (by kernel_rfl)) (fun _ _ _ h => h) (Or.inl ⟨by rfl, ?_⟩) ?_ ?_
        rotate_left
        ·intro w'
         go_simp
         with_reducible rfl
        rotate_left
        ·simp only [Act.put, List.setIfInBounds_toArray, List.set_cons_zero, List.set_cons_succ, i64_w, i32_w]
         rfl
        refine pure_ (i := 1) (N := some 16) (v := ?_) (a' := ?_) #[true, true, false, false, false, false, false, false, false, false] rfl rfl (any_of HT_.out (by kernel_rfl)) (fun _ _ _ h => h) (Or.inl ⟨by rfl, ?_⟩) ?_ ?_
        rotate_left
        ·intro w'
         go_simp
         with_reducible rfl
        rotate_left
        ·simp only [Act.put, List.setIfInBounds_toArray, List.set_cons_zero, List.set_cons_succ, i64_w, i32_w]
         rfl
        refine pure_ (i := 2) (N := some 17) (v := ?_) (a' := ?_) #[true, true, true, false, false, false, false, false, false, false] rfl rfl (any_of HT_.out (by kernel_rfl)) (fun _ _ _ h => h) (Or.inl ⟨by rfl, ?_⟩) ?_ ?_
        rotate_left
        ·intro w'
         go_simp
         with_reducible rfl
        rotate_left
        ·simp only [Act.put, List.setIfInBounds_toArray, List.set_cons_zero, List.set_cons_succ, i64_w, i32_w]
         rfl
        refine pure_ (i := 4) (N := some 19) (v := ?_) (a' := ?_) #[true, true, true, false, true, false, false, false, false, false] rfl rfl (any_of HT_.out (by kernel_rfl)) (fun _ _ _ h => h) (Or.inl ⟨by rfl, ?_⟩) ?_ ?_
        rotate_left
        ·intro w'
         go_simp
         with_reducible rfl
        rotate_left
        ·simp only [Act.put, List.setIfInBounds_toArray, List.set_cons_zero, List.set_cons_succ, i64_w, i32_w]
         rfl
        refine pure_ (i := 5) (N := some 20) (v := ?_) (a' := ?_) #[true, true, true, false, true, true, false, false, false, false] rfl rfl (any_of HT_.out (by kernel_rfl)) (fun _ _ _ h => h) (Or.inl ⟨by rfl, ?_⟩) ?_ ?_
        rotate_left
        ·intro w'
         go_simp
         with_reducible rfl
        rotate_left
        ·simp only [Act.put, List.setIfInBounds_toArray, List.set_cons_zero, List.set_cons_succ, i64_w, i32_w]
         rfl
        refine pure_ (i := 6) (N := some 21) (v := ?_) (a' := ?_) #[true, true, true, false, true, true, true, false, false, false] rfl rfl (any_of HT_.out (by kernel_rfl)) (fun _ _ _ h => h) (Or.inl ⟨by rfl, ?_⟩) ?_ ?_
        rotate_left
        ·intro w'
         go_simp
         with_reducible rfl
        rotate_left
        ·simp only [Act.put, List.setIfInBounds_toArray, List.set_cons_zero, List.set_cons_succ, i64_w, i32_w]
         rfl
        refine take_ (i := 3) (N := some 18) (v := ?_) (a' := ?_) #[true, true, true, true, true, true, true, false, false, false] rfl rfl (take_ofW HT_.out HW_.out (by kernel_rfl)) (fun _ _ _ h => h) (Or.inl ⟨by rfl, ?_⟩) hHeld ?_ ?_
        rotate_left
        ·rintro w' ⟨s0, s1, s2, s3, s4, s5⟩
         go_simp
         with_reducible rfl
        rotate_left
        ·simp only [Act.put, List.setIfInBounds_toArray, List.set_cons_zero, List.set_cons_succ, i64_w, i32_w]
         rfl
        refine take_ (i := 7) (N := some 22) (v := ?_) (a' := ?_) #[true, true, true, true, true, true, true, true, false, false] rfl rfl (take_ofW HT_.out HW_.out (by kernel_rfl)) (fun _ _ _ h => h) (Or.inl ⟨by rfl, ?_⟩) hHeld ?_ ?_
        rotate_left
        ·rintro w' ⟨s0, s1, s2, s3, s4, s5⟩
         go_simp
         with_reducible rfl
        rotate_left
        ·simp only [Act.put, List.setIfInBounds_toArray, List.set_cons_zero, List.set_cons_succ, i64_w, i32_w]
         rfl
        refine one_ (i := 8) (N := some 23) #[true, true, true, true, true, true, true, true, true, false] rfl rfl (one_of HT_.out (by kernel_rfl)) (by decide) (fun K hK => ?_)
        refine goes_ Try.func54 (by kernel_rfl) rfl #[.agg #[.bool ((rd_T28 l0 x12_1).isSym), .string ((rd_T28 l0 x12_1).sym), .int .i64 ((rd_T28 l0 x12_1).n)], .agg #[.bool ((rd_T28 l1 x12_1).isSym), .string ((rd_T28 l1 x12_1).sym), .int .i64 ((rd_T28 l1 x12_1).n)]] (by rfl) rfl rfl (by (try simp only [List.map_toArray, List.map_cons, List.map_nil]); first | done | rfl | (simp only [List.length_drop, List.length_take]; rfl)) ?_
        with_reducible refine (value_Compare.calls k1 ((rd_T28 l0 x12_1).isSym) ((rd_T28 l0 x12_1).sym) ((rd_T28 l0 x12_1).n) ((rd_T28 l1 x12_1).isSym) ((rd_T28 l1 x12_1).sym) ((rd_T28 l1 x12_1).n) t103 _ A8.out).mono ?_
        rintro e w11 ⟨rfl, hb⟩
        refine ⟨_, rfl, ?_⟩
        have n0_ := Aside0.mk (below_step (by repeat (first | (with_reducible first | exact HB.out | apply below_alloc | apply pw_below_drewN | apply below_drew1) | exact HB.out)) hb)
        clear HB
        have HB := n0_
        clear n0_
        (try clear hb)
        (try clear hb2)
        (try clear hk)
        (try clear hi)
        refine hK.out _ _ ⟨((HB.out.cell (blt_ hw101_0)).trans hw101_0), ((HB.out.cell (blt_ hw101_1)).trans hw101_1), ((HB.out.cell (blt_ hw101_2)).trans hw101_2), ((HB.out.cell (blt_ hw102_0)).trans hw102_0), ((HB.out.cell (blt_ hw102_1)).trans hw102_1), ((HB.out.cell (blt_ hw102_2)).trans hw102_2)⟩ (fun hHeld => ?_)
        clear hK K
        refine norm_ (a' := ?_) ?_ ?_
        rotate_left
        ·show Act.put _ (some 23) _ = _
         simp only [Act.put, List.setIfInBounds_toArray, List.set_cons_zero, List.set_cons_succ, i64_w, i32_w]
         rfl
        refine pure_ (i := 9) (N := some 6) (v := ?_) (a' := ?_) #[true, true, true, true, true, true, true, true, true, true] rfl rfl (any_of HT_.out (by kernel_rfl)) (fun _ _ _ h => h) (Or.inl ⟨by rfl, ?_⟩) ?_ ?_
        rotate_left
        ·intro w'
         go_simp
         with_reducible rfl
        rotate_left
        ·simp only [Act.put, List.setIfInBounds_toArray, List.set_cons_zero, List.set_cons_succ, i64_w, i32_w]
         rfl
        refine done_ (done_of HT_.out (by kernel_rfl)) ?_
        try go_wp2
        go_roundg k1
        case measure => have := HK1.out; omega
        case rel => exact ⟨(wrap64 (x12_1 + 1)), (by first | rfl | (simp; done) | (simp [*]; done)), H', ⟨by have := HK1.out; omega⟩, ⟨by repeat (first | (with_reducible first | exact HB.out | apply below_alloc | apply pw_below_drewN | apply below_drew1) | exact HB.out)⟩⟩
       ·rw [if_neg c9] at H
        have c9b0 : (t103 == 0) = false := beq_eq_false_iff_ne.mpr c9
        have c9b1 : (t103 != 0) = true := bne_iff_ne.mpr c9
        obtain rfl := Option.some.inj H
        try go_wp2
        have n0_ := Aside0.mk (below_drew1 HB.out)
        clear HB
        have HB := n0_
        clear n0_
        have p101 : 0 ≤ (x12_1 : Int) := of_decide_eq_true (by first | (with_reducible assumption) | assumption)
        have q101 : x12_1 < (l0.length : Int) := of_decide_eq_true (by first | (with_reducible assumption) | assumption)
        obtain ⟨ad101, e101, hx101_0, hx101_1, hx101_2⟩ := at_T28 HR0.out x12_1 p101 q101
        have hw101_2 := hx101_2
        have hw101_1 := hx101_1
        have hw101_0 := hx101_0
        cases e101
        replace hx101_0 := (HB.out.cell (blt_ hx101_0)).trans hx101_0
        replace hx101_1 := (HB.out.cell (blt_ hx101_1)).trans hx101_1
        replace hx101_2 := (HB.out.cell (blt_ hx101_2)).trans hx101_2
        replace p101 := eq_true p101
        replace q101 := eq_true q101
        have p102 : 0 ≤ (x12_1 : Int) := of_decide_eq_true (by first | (with_reducible assumption) | assumption)
        have q102 : x12_1 < (l1.length : Int) := of_decide_eq_true (by first | (with_reducible assumption) | assumption)
        obtain ⟨ad102, e102, hx102_0, hx102_1, hx102_2⟩ := at_T28 HR1.out x12_1 p102 q102
        have hw102_2 := hx102_2
        have hw102_1 := hx102_1
        have hw102_0 := hx102_0
        cases e102
        replace hx102_0 := (HB.out.cell (blt_ hx102_0)).trans hx102_0
        replace hx102_1 := (HB.out.cell (blt_ hx102_1)).trans hx102_1
        replace hx102_2 := (HB.out.cell (blt_ hx102_2)).trans hx102_2
        replace p102 := eq_true p102
        replace q102 := eq_true q102
        refine start_ (n := 10) (S := fun w' => w'.cell? (ad101.add ((x12_1).toNat * 3)) = some (.bool ((rd_T28 l0 x12_1).isSym)) ∧ w'.cell? ⟨(ad101.add ((x12_1).toNat * 3)).block, (ad101.add ((x12_1).toNat * 3)).off + 1, none⟩ = some (.string ((rd_T28 l0 x12_1).sym)) ∧ w'.cell? ⟨(ad101.add ((x12_1).toNat * 3)).block, (ad101.add ((x12_1).toNat * 3)).off + 2, none⟩ = some (.int .i64 ((rd_T28 l0 x12_1).n)) ∧ w'.cell? (ad102.add ((x12_1).toNat * 3)) = some (.bool ((rd_T28 l1 x12_1).isSym)) ∧ w'.cell? ⟨(ad102.add ((x12_1).toNat * 3)).block, (ad102.add ((x12_1).toNat * 3)).off + 1, none⟩ = some (.string ((rd_T28 l1 x12_1).sym)) ∧ w'.cell? ⟨(ad102.add ((x12_1).toNat * 3)).block, (ad102.add ((x12_1).toNat * 3)).off + 2, none⟩ = some (.int .i64 ((rd_T28 l1 x12_1).n))) (ds := []) #[false, false, false, false, false, false, false, false, false, false] (by kernel_rfl) rfl rfl ⟨((HB.out.cell (blt_ hw101_0)).trans hw101_0), ((HB.out.cell (blt_ hw101_1)).trans hw101_1), ((HB.out.cell (blt_ hw101_2)).trans hw101_2), ((HB.out.cell (blt_ hw102_0)).trans hw102_0), ((HB.out.cell (blt_ hw102_1)).trans hw102_1), ((HB.out.cell (blt_ hw102_2)).trans hw102_2)⟩ (fun hHeld => ?_); refine with_tabW tuple_Compare.tab4 tuple_Compare.bits4 (fun HT_ HW_ => ?_)
        generalize wr.drew = w12 at HB hx101_0 hx101_1 hx101_2 hx102_0 hx102_1 hx102_2 hHeld ⊢
        refine pure_ (i := 0) (N := some 15) (v := ?_) (a' := ?_) #[true, false, false, false, false, false, false, false, false, false] rfl rfl (any_of HT_.out (by kernel_rfl)) (fun _ _ _ h => h) (Or.inl ⟨by rfl, ?_⟩) ?_ ?_
        rotate_left
        ·intro w'
         go_simp
         with_reducible rfl
        rotate_left
        ·simp only [Act.put, List.setIfInBounds_toArray, List.set_cons_zero, List.set_cons_succ, i64_w, i32_w]
         rfl
        refine pure_ (i := 1) (N := some 16) (v := ?_) (a' := ?_) #[true, true, false, false, false, false, false, false, false, false] rfl rfl (any_of HT_.out (by kernel_rfl)) (fun _ _ _ h => h) (Or.inl ⟨by rfl, ?_⟩) ?_ ?_
        rotate_left
        ·intro w'
         go_simp
         with_reducible rfl
        rotate_left
        ·simp only [Act.put, List.setIfInBounds_toArray, List.set_cons_zero, List.set_cons_succ, i64_w, i32_w]
         rfl
        refine pure_ (i := 2) (N := some 17) (v := ?_) (a' := ?_) #[true, true, true, false, false, false, false, false, false, false] rfl rfl (any_of HT_.out (by kernel_rfl)) (fun _ _ _ h => h) (Or.inl ⟨by rfl, ?_⟩) ?_ ?_
        rotate_left
        ·intro w'
         go_simp
         with_reducible rfl
        rotate_left
        ·simp only [Act.put, List.setIfInBounds_toArray, List.set_cons_zero, List.set_cons_succ, i64_w, i32_w]
         rfl
        refine pure_ (i := 4) (N := some 19) (v := ?_) (a' := ?_) #[true, true, true, false, true, false, false, false, false, false] rfl rfl (any_of HT_.out (by kernel_rfl)) (fun _ _ _ h => h) (Or.inl ⟨by rfl, ?_⟩) ?_ ?_
        rotate_left
        ·intro w'
         go_simp
         with_reducible rfl
        rotate_left
        ·simp only [Act.put, List.setIfInBounds_toArray, List.set_cons_zero, List.set_cons_succ, i64_w, i32_w]
         rfl
        refine pure_ (i := 5) (N := some 20) (v := ?_) (a' := ?_) #[true, true, true, false, true, true, false, false, false, false] rfl rfl (any_of HT_.out (by kernel_rfl)) (fun _ _ _ h => h) (Or.inl ⟨by rfl, ?_⟩) ?_ ?_
        rotate_left
        ·intro w'
         go_simp
         with_reducible rfl
        rotate_left
        ·simp only [Act.put, List.setIfInBounds_toArray, List.set_cons_zero, List.set_cons_succ, i64_w, i32_w]
         rfl
        refine pure_ (i := 6) (N := some 21) (v := ?_) (a' := ?_) #[true, true, true, false, true, true, true, false, false, false] rfl rfl (any_of HT_.out (by kernel_rfl)) (fun _ _ _ h => h) (Or.inl ⟨by rfl, ?_⟩) ?_ ?_
        rotate_left
        ·intro w'
         go_simp
         with_reducible rfl
        rotate_left
        ·simp only [Act.put, List.setIfInBounds_toArray, List.set_cons_zero, List.set_cons_succ, i64_w, i32_w]
         rfl
        refine take_ (i := 3) (N := some 18) (v := ?_) (a' := ?_) #[true, true, true, true, true, true, true, false, false, false] rfl rfl (take_ofW HT_.out HW_.out (by kernel_rfl)) (fun _ _ _ h => h) (Or.inl ⟨by rfl, ?_⟩) hHeld ?_ ?_
        rotate_left
        ·rintro w' ⟨s0, s1, s2, s3, s4, s5⟩
         go_simp
         with_reducible rfl
        rotate_left
        ·simp only [Act.put, List.setIfInBounds_toArray, List.set_cons_zero, List.set_cons_succ, i64_w, i32_w]
         rfl
        refine take_ (i := 7) (N := some 22) (v := ?_) (a' := ?_) #[true, true, true, true, true, true, true, true, false, false] rfl rfl (take_ofW HT_.out HW_.out (by kernel_rfl)) (fun _ _ _ h => h) (Or.inl ⟨by rfl, ?_⟩) hHeld ?_ ?_
        rotate_left
        ·rintro w' ⟨s0, s1, s2, s3, s4, s5⟩
         go_simp
         with_reducible rfl
        rotate_left
        ·simp only [Act.put, List.setIfInBounds_toArray, List.set_cons_zero, List.set_cons_succ, i64_w, i32_w]
         rfl
        refine one_ (i := 8) (N := some 23) #[true, true, true, true, true, true, true, true, true, false] rfl rfl (one_of HT_.out (by kernel_rfl)) (by decide) (fun K hK => ?_)
        refine goes_ Try.func54 (by kernel_rfl) rfl #[.agg #[.bool ((rd_T28 l0 x12_1).isSym), .string ((rd_T28 l0 x12_1).sym), .int .i64 ((rd_T28 l0 x12_1).n)], .agg #[.bool ((rd_T28 l1 x12_1).isSym), .string ((rd_T28 l1 x12_1).sym), .int .i64 ((rd_T28 l1 x12_1).n)]] (by rfl) rfl rfl (by (try simp only [List.map_toArray, List.map_cons, List.map_nil]); first | done | rfl | (simp only [List.length_drop, List.length_take]; rfl)) ?_
        with_reducible refine (value_Compare.calls k1 ((rd_T28 l0 x12_1).isSym) ((rd_T28 l0 x12_1).sym) ((rd_T28 l0 x12_1).n) ((rd_T28 l1 x12_1).isSym) ((rd_T28 l1 x12_1).sym) ((rd_T28 l1 x12_1).n) t103 _ A8.out).mono ?_
        rintro e w13 ⟨rfl, hb⟩
        refine ⟨_, rfl, ?_⟩
        have n0_ := Aside0.mk (below_step (by repeat (first | (with_reducible first | exact HB.out | apply below_alloc | apply pw_below_drewN | apply below_drew1) | exact HB.out)) hb)
        clear HB
        have HB := n0_
        clear n0_
        (try clear hb)
        (try clear hb2)
        (try clear hk)
        (try clear hi)
        refine hK.out _ _ ⟨((HB.out.cell (blt_ hw101_0)).trans hw101_0), ((HB.out.cell (blt_ hw101_1)).trans hw101_1), ((HB.out.cell (blt_ hw101_2)).trans hw101_2), ((HB.out.cell (blt_ hw102_0)).trans hw102_0), ((HB.out.cell (blt_ hw102_1)).trans hw102_1), ((HB.out.cell (blt_ hw102_2)).trans hw102_2)⟩ (fun hHeld => ?_)
        clear hK K
        refine norm_ (a' := ?_) ?_ ?_
        rotate_left
        ·show Act.put _ (some 23) _ = _
         simp only [Act.put, List.setIfInBounds_toArray, List.set_cons_zero, List.set_cons_succ, i64_w, i32_w]
         rfl
        refine pure_ (i := 9) (N := some 6) (v := ?_) (a' := ?_) #[true, true, true, true, true, true, true, true, true, true] rfl rfl (any_of HT_.out (by kernel_rfl)) (fun _ _ _ h => h) (Or.inl ⟨by rfl, ?_⟩) ?_ ?_
        rotate_left
        ·intro w'
         go_simp
         with_reducible rfl
        rotate_left
        ·simp only [Act.put, List.setIfInBounds_toArray, List.set_cons_zero, List.set_cons_succ, i64_w, i32_w]
         rfl
        refine done_ (done_of HT_.out (by kernel_rfl)) ?_
        try go_wp2
        go_ret
        exact ⟨by first | rfl | (simp [errW_none, errW_some] <;> rfl) | (simp only [← hji3]; first | rfl | (simp [errW_none, errW_some] <;> rfl)) | (simp [*, errW_none, errW_some] <;> rfl), by repeat (first | (with_reducible first | exact HB.out | apply below_alloc | apply pw_below_drewN | apply below_drew1) | exact HB.out)⟩
      ·rw [if_neg c7] at H
       exact absurd H (by simp)
     ·rw [if_neg c6] at H
      exact absurd H (by simp)
    ·rw [if_neg c5] at H
     exact absurd H (by simp)
   ·rw [if_neg c4] at H
    have c4b0 : decide (x12_1 < ji3) = false := decide_eq_false c4
    clear c4
    replace H := Option.bind_eq_some_iff.mp H
    obtain ⟨t104, A140, H⟩ := H
    replace H : (some t104) = some r := H
    have A14 := Aside0.mk A140
    clear A140
    obtain rfl := Option.some.inj H
    go_wp2_with (first | ((with_reducible refine gate_callee (f := 55) rfl ?_); refine goesL_ (some 32) rfl rfl Try.func55 (by kernel_rfl) rfl #[.int .i64 (l0.length : Int), .int .i64 (l1.length : Int)] rfl (by (try simp only [List.map_toArray, List.map_cons, List.map_nil]); first | done | rfl | (simp only [List.length_drop, List.length_take]; rfl)) ?_; (with_reducible refine (cmp_Compare_int.calls (l0.length : Int) (l1.length : Int) t104 _ A14.out).mono ?_); rintro e w' ⟨rfl, ⟨nd, rfl⟩⟩; refine ⟨_, rfl, ?_⟩))
    go_ret
    exact ⟨by first | rfl | (simp [errW_none, errW_some] <;> rfl) | (simp only [← hji3]; first | rfl | (simp [errW_none, errW_some] <;> rfl)) | (simp [*, errW_none, errW_some] <;> rfl), by repeat (first | (with_reducible first | exact HB.out | apply below_alloc | apply pw_below_drewN | apply below_drew1) | exact HB.out)⟩
end Go.Proofs.Ytoekfmdcplphmaa.H
namespace Go.Proofs.Ytoekfmdcplphmaa.H
open Go.RowKit Go.Proofs.YtoekfmdcplphmaaW.PrintWords Go.Proofs.YtoekfmdcplphmaaW.PrintLast Go.Proofs.YtoekfmdcplphmaaW.PrintMore
attribute [local go_sem] max2_int min2_int max_two min_two max_three min_three max_four min_four
def join_Compare.f (k : Nat) (a0_0 : ByteArray) (l0_1 : List (Val)) (a1_0 : ByteArray) (l1_1 : List (Val)) : Option (Int) := (cmp_Compare_string.f a0_0 a1_0).bind fun t103 => ((tuple_Compare.f k l0_1 l1_1).bind fun t104 => ((cmp_Or_int.f k (([t103, t104] : List Int))).bind fun t108 => (some t108)))
theorem join_Compare.mono : ∀ a0 a1 a2 a3 k, LeO (join_Compare.f k a0 a1 a2 a3) (join_Compare.f (k + 1) a0 a1 a2 a3) := by
 intro a0 a1 a2 a3 k
 unfold join_Compare.f
 repeat' first
   | (with_reducible exact cmp_Or_int.mono _ _)
   | (with_reducible exact tuple_Compare.mono _ _ _)
   | (with_reducible exact LeO.refl _)
   | (with_reducible exact LeO.none _)
   | (with_reducible refine LeO.ite ?_ ?_)
   | (with_reducible refine LeO.bind ?_ (fun _ => ?_))
   | exact cmp_Or_int.mono _ _
   | exact tuple_Compare.mono _ _ _
   | exact LeO.none _
   | refine LeO.ite ?_ ?_
   | refine LeO.bind ?_ (fun _ => ?_)
def join_Compare.T1 : Bool × List (List Nat × List Nat) := (true, [([], []), ([0], [0]), ([], []), ([2], [2]), ([1, 3], [1, 3]), ([], []), ([5], [5]), ([], []), ([7], [7]), ([6, 8, 4], [6, 8]), ([4, 9], [4, 9]), ([10, 9], [10]), ([11, 11, 0, 1, 2, 3, 4, 5, 6, 7, 8, 9, 10, 11], [11])])
def join_Compare.B1 : List Nat := [0, 1, 0, 4, 15, 0, 32, 0, 128, 511, 1023, 2047, 4095]
theorem join_Compare.tab1 : rtab .any (opsOf Try.f23 1) = join_Compare.T1 := by kernel_rfl
theorem join_Compare.bits1 : waitsOk join_Compare.T1.2 join_Compare.B1 = true := by kernel_rfl
set_option maxHeartbeats 8000000 in
set_option maxRecDepth 100000 in
theorem join_Compare.calls (k : Nat) (a0_0 : ByteArray) (A0_1 : Option Addr) (c0_1 : Nat) (l0_1 : List (Val)) (a1_0 : ByteArray) (A1_1 : Option Addr) (c1_1 : Nat) (l1_1 : List (Val)) (r : Int) (w : World) (hr0_1 : Kd.C k28 w A0_1 l0_1.length l0_1) (hc0_1 : l0_1.length ≤ c0_1) (hr1_1 : Kd.C k28 w A1_1 l1_1.length l1_1) (hc1_1 : l1_1.length ≤ c1_1) (h : join_Compare.f k a0_0 l0_1 a1_0 l1_1 = some r) :
  Calls Try.prog 23 #[.agg #[.string a0_0, .slice A0_1 l0_1.length c0_1], .agg #[.string a1_0, .slice A1_1 l1_1.length c1_1]] w fun e w' => e = .returned (.int .i64 r) ∧ Below w.heap.size w w' := by
 have hu44 := Try.underlying44
 have HR0_1 := Aside0.mk hr0_1
 have HC0_1 := Aside0.mk hc0_1
 clear hr0_1 hc0_1
 have HR1_1 := Aside0.mk hr1_1
 have HC1_1 := Aside0.mk hc1_1
 clear hr1_1 hc1_1
 have HB := Aside0.mk (Below.refl w.heap.size w)
 have H : ((cmp_Compare_string.f a0_0 a1_0).bind fun t103 => ((tuple_Compare.f k l0_1 l1_1).bind fun t104 => ((cmp_Or_int.f k (([t103, t104] : List Int))).bind fun t108 => (some t108)))) = some r := h
 clear h
 replace H := Option.bind_eq_some_iff.mp H
 obtain ⟨t103, A30, H⟩ := H
 replace H : ((tuple_Compare.f k l0_1 l1_1).bind fun t104 => ((cmp_Or_int.f k (([t103, t104] : List Int))).bind fun t108 => (some t108))) = some r := H
 have A3 := Aside0.mk A30
 clear A30
 replace H := Option.bind_eq_some_iff.mp H
 obtain ⟨t104, A40, H⟩ := H
 replace H : ((cmp_Or_int.f k (([t103, t104] : List Int))).bind fun t108 => (some t108)) = some r := H
 have A4 := Aside0.mk A40
 clear A40
 obtain ⟨y105, hy105⟩ : ∃ y_ : List Int, y_ = (([t103, t104] : List Int)) := ⟨_, rfl⟩
 replace H : ((cmp_Or_int.f k y105).bind fun t108 => (some t108)) = some r := by first | (rw [hy105]; with_reducible exact H) | (have H2_ := (Option.bind_some _ _).symm.trans H; rw [hy105]; with_reducible exact H2_) | (have H2_ := (Option.bind_some _ _).symm.trans H; with_reducible exact H2_) | with_reducible exact H | (rw [hy105]; exact H) | exact H
 have Ny105 := Aside0.mk hy105
 clear hy105
 replace H := Option.bind_eq_some_iff.mp H
 obtain ⟨t108, A50, H⟩ := H
 replace H : (some t108) = some r := H
 have A5 := Aside0.mk A50
 clear A50
 obtain rfl := Option.some.inj H
 go_enter Try.func23, Try.ntmps23
 try go_wp2_with (first | ((with_reducible refine gate_dst (N := 2) rfl ?_); refine box_event ?hg (N := 2) ?hd (cs := #[.string a0_0, .slice A0_1 l0_1.length c0_1]) (t := 44) ?hr ?_; (case hd => rfl); (case hg => rfl); (case hr => first | (go_simp; done) | (go_simp; rfl)); intro gb101 hg w6 hbox hb; have n0_ := Aside0.mk (below_step (by repeat (first | (with_reducible first | exact HB.out | apply below_alloc | apply pw_below_drewN | apply below_drew1) | exact HB.out)) hb); have n1_ := Aside0.mk (hbox); have n2_ := Aside0.mk ((by rw [hg]; exact (below_size (by repeat (first | (with_reducible first | exact HB.out | apply below_alloc | apply pw_below_drewN | apply below_drew1) | exact HB.out))) : w.heap.size ≤ gb101)); have n3_ := Aside0.mk ((by rw [hg]; exact (below_size (by repeat (first | (with_reducible first | exact HB.out | apply below_alloc | apply pw_below_drewN | apply below_drew1) | exact HB.out))) : w.heap.size ≤ gb101)); clear HB; have HB := n0_; have BK101 := n1_; have GW101 := n2_; have GE101 := n3_; clear n0_ n1_ n2_ n3_; clear hb hbox hg) | ((with_reducible refine gate_dst (N := 3) rfl ?_); refine box_event ?hg (N := 3) ?hd (cs := #[.string a1_0, .slice A1_1 l1_1.length c1_1]) (t := 44) ?hr ?_; (case hd => rfl); (case hg => rfl); (case hr => first | (go_simp; done) | (go_simp; rfl)); intro gb102 hg w7 hbox hb; have n0_ := Aside0.mk (blk_below (g := gb101) (o := .cells #[.string a0_0, .slice A0_1 l0_1.length c0_1] 44 (0, 0)) (by (with_reducible repeat (first | refine blk_drewN ?_ _ | refine blk_drew ?_ | refine blk_alloc ?_ _)); exact BK101.out) hb); have n1_ := Aside0.mk (below_step (by repeat (first | (with_reducible first | exact HB.out | apply below_alloc | apply pw_below_drewN | apply below_drew1 | refine below_set ?_ GE101.out) | exact HB.out)) hb); have n2_ := Aside0.mk (hbox); have n3_ := Aside0.mk ((by rw [hg]; exact (below_size (by repeat (first | (with_reducible first | exact HB.out | apply below_alloc | apply pw_below_drewN | apply below_drew1 | refine below_set ?_ GE101.out) | exact HB.out))) : w.heap.size ≤ gb102)); have n4_ := Aside0.mk ((by rw [hg]; exact (below_size (by repeat (first | (with_reducible first | exact HB.out | apply below_alloc | apply pw_below_drewN | apply below_drew1 | refine below_set ?_ GE101.out) | exact HB.out))) : w.heap.size ≤ gb102)); have n5_ := Aside0.mk ((by rw [hg]; exact Nat.ne_of_lt (blk_lt (g := gb101) (o := .cells #[.string a0_0, .slice A0_1 l0_1.length c0_1] 44 (0, 0)) (by (with_reducible repeat (first | refine blk_drewN ?_ _ | refine blk_drew ?_ | refine blk_alloc ?_ _)); exact BK101.out)) : gb101 ≠ gb102)); have n6_ := Aside0.mk ((by rw [hg]; exact Nat.ne_of_gt (blk_lt (g := gb101) (o := .cells #[.string a0_0, .slice A0_1 l0_1.length c0_1] 44 (0, 0)) (by (with_reducible repeat (first | refine blk_drewN ?_ _ | refine blk_drew ?_ | refine blk_alloc ?_ _)); exact BK101.out)) : gb102 ≠ gb101)); clear BK101; clear HB; have BK101 := n0_; have HB := n1_; have BK102 := n2_; have GW102 := n3_; have GE102 := n4_; have NB101_102 := n5_; have NB102_101 := n6_; clear n0_ n1_ n2_ n3_ n4_ n5_ n6_; clear hb hbox hg))
 have n0_ := Aside0.mk (blk_drew BK101.out)
 have n1_ := Aside0.mk (blk_drew BK102.out)
 have n2_ := Aside0.mk (below_drew1 HB.out)
 clear BK101
 clear BK102
 clear HB
 have BK101 := n0_
 have BK102 := n1_
 have HB := n2_
 clear n0_ n1_ n2_
 refine start_ (n := 13) (S := fun w' => w'.cell? ⟨gb101, 0, none⟩ = some (.string a0_0) ∧ w'.cell? ⟨gb101, 1, none⟩ = some (.slice A0_1 l0_1.length c0_1) ∧ w'.cell? ⟨gb102, 0, none⟩ = some (.string a1_0) ∧ w'.cell? ⟨gb102, 1, none⟩ = some (.slice A1_1 l1_1.length c1_1)) (ds := []) #[false, false, false, false, false, false, false, false, false, false, false, false, false] (by kernel_rfl) rfl rfl ⟨(blk_cell BK101.out 0).trans rfl, (blk_cell BK101.out 1).trans rfl, (blk_cell BK102.out 0).trans rfl, (blk_cell BK102.out 1).trans rfl⟩ (fun hHeld => ?_); refine with_tabW join_Compare.tab1 join_Compare.bits1 (fun HT_ HW_ => ?_)
 generalize w7.drew = w8 at BK101 BK102 HB hHeld ⊢
 refine pure_ (i := 0) (N := some 5) (v := ?_) (a' := ?_) #[true, false, false, false, false, false, false, false, false, false, false, false, false] rfl rfl (any_of HT_.out (by kernel_rfl)) (fun _ _ _ h => h) (Or.inl ⟨by rfl, ?_⟩) ?_ ?_
 rotate_left
 ·intro w'
  go_simp
  with_reducible rfl
 rotate_left
 ·simp only [Act.put, List.setIfInBounds_toArray, List.set_cons_zero, List.set_cons_succ, i64_w, i32_w]
  rfl
 refine pure_ (i := 2) (N := some 7) (v := ?_) (a' := ?_) #[true, false, true, false, false, false, false, false, false, false, false, false, false] rfl rfl (any_of HT_.out (by kernel_rfl)) (fun _ _ _ h => h) (Or.inl ⟨by rfl, ?_⟩) ?_ ?_
 rotate_left
 ·intro w'
  go_simp
  with_reducible rfl
 rotate_left
 ·simp only [Act.put, List.setIfInBounds_toArray, List.set_cons_zero, List.set_cons_succ, i64_w, i32_w]
  rfl
 refine pure_ (i := 5) (N := some 10) (v := ?_) (a' := ?_) #[true, false, true, false, false, true, false, false, false, false, false, false, false] rfl rfl (any_of HT_.out (by kernel_rfl)) (fun _ _ _ h => h) (Or.inl ⟨by rfl, ?_⟩) ?_ ?_
 rotate_left
 ·intro w'
  go_simp
  with_reducible rfl
 rotate_left
 ·simp only [Act.put, List.setIfInBounds_toArray, List.set_cons_zero, List.set_cons_succ, i64_w, i32_w]
  rfl
 refine pure_ (i := 7) (N := some 12) (v := ?_) (a' := ?_) #[true, false, true, false, false, true, false, true, false, false, false, false, false] rfl rfl (any_of HT_.out (by kernel_rfl)) (fun _ _ _ h => h) (Or.inl ⟨by rfl, ?_⟩) ?_ ?_
 rotate_left
 ·intro w'
  go_simp
  with_reducible rfl
 rotate_left
 ·simp only [Act.put, List.setIfInBounds_toArray, List.set_cons_zero, List.set_cons_succ, i64_w, i32_w]
  rfl
 refine take_ (i := 1) (N := some 6) (v := ?_) (a' := ?_) #[true, true, true, false, false, true, false, true, false, false, false, false, false] rfl rfl (take_ofW HT_.out HW_.out (by kernel_rfl)) (fun _ _ _ h => h) (Or.inl ⟨by rfl, ?_⟩) hHeld ?_ ?_
 rotate_left
 ·rintro w' ⟨s0, s1, s2, s3⟩
  go_simp
  with_reducible rfl
 rotate_left
 ·simp only [Act.put, List.setIfInBounds_toArray, List.set_cons_zero, List.set_cons_succ, i64_w, i32_w]
  rfl
 refine take_ (i := 3) (N := some 8) (v := ?_) (a' := ?_) #[true, true, true, true, false, true, false, true, false, false, false, false, false] rfl rfl (take_ofW HT_.out HW_.out (by kernel_rfl)) (fun _ _ _ h => h) (Or.inl ⟨by rfl, ?_⟩) hHeld ?_ ?_
 rotate_left
 ·rintro w' ⟨s0, s1, s2, s3⟩
  go_simp
  with_reducible rfl
 rotate_left
 ·simp only [Act.put, List.setIfInBounds_toArray, List.set_cons_zero, List.set_cons_succ, i64_w, i32_w]
  rfl
 refine take_ (i := 6) (N := some 11) (v := ?_) (a' := ?_) #[true, true, true, true, false, true, true, true, false, false, false, false, false] rfl rfl (take_ofW HT_.out HW_.out (by kernel_rfl)) (fun _ _ _ h => h) (Or.inl ⟨by rfl, ?_⟩) hHeld ?_ ?_
 rotate_left
 ·rintro w' ⟨s0, s1, s2, s3⟩
  go_simp
  with_reducible rfl
 rotate_left
 ·simp only [Act.put, List.setIfInBounds_toArray, List.set_cons_zero, List.set_cons_succ, i64_w, i32_w]
  rfl
 refine take_ (i := 8) (N := some 13) (v := ?_) (a' := ?_) #[true, true, true, true, false, true, true, true, true, false, false, false, false] rfl rfl (take_ofW HT_.out HW_.out (by kernel_rfl)) (fun _ _ _ h => h) (Or.inl ⟨by rfl, ?_⟩) hHeld ?_ ?_
 rotate_left
 ·rintro w' ⟨s0, s1, s2, s3⟩
  go_simp
  with_reducible rfl
 rotate_left
 ·simp only [Act.put, List.setIfInBounds_toArray, List.set_cons_zero, List.set_cons_succ, i64_w, i32_w]
  rfl
 refine one_ (i := 4) (N := some 9) #[true, true, true, true, true, true, true, true, true, false, false, false, false] rfl rfl (one_of HT_.out (by kernel_rfl)) (by decide) (fun K hK => ?_)
 refine goes_ Try.func39 (by kernel_rfl) rfl #[.string a0_0, .string a1_0] (by rfl) rfl rfl (by (try simp only [List.map_toArray, List.map_cons, List.map_nil]); first | done | rfl | (simp only [List.length_drop, List.length_take]; rfl)) ?_
 with_reducible refine (cmp_Compare_string.calls a0_0 a1_0 t103 _ A3.out).mono ?_
 rintro e w' ⟨rfl, ⟨nd, rfl⟩⟩
 refine ⟨_, rfl, ?_⟩
 refine hK.out _ _ ⟨(blk_cell BK101.out 0).trans rfl, (blk_cell BK101.out 1).trans rfl, (blk_cell BK102.out 0).trans rfl, (blk_cell BK102.out 1).trans rfl⟩ (fun hHeld => ?_)
 clear hK K
 refine norm_ (a' := ?_) ?_ ?_
 rotate_left
 ·show Act.put _ (some 9) _ = _
  simp only [Act.put, List.setIfInBounds_toArray, List.set_cons_zero, List.set_cons_succ, i64_w, i32_w]
  rfl
 refine one_ (i := 9) (N := some 14) #[true, true, true, true, true, true, true, true, true, true, false, false, false] rfl rfl (one_of HT_.out (by kernel_rfl)) (by decide) (fun K hK => ?_)
 refine goes_ Try.func40 (by kernel_rfl) rfl #[.slice A0_1 l0_1.length c0_1, .slice A1_1 l1_1.length c1_1] (by rfl) rfl rfl (by (try simp only [List.map_toArray, List.map_cons, List.map_nil]); first | done | rfl | (simp only [List.length_drop, List.length_take]; rfl)) ?_
 with_reducible refine (tuple_Compare.calls k _ _ l0_1 _ _ l1_1 t104 _ ?side1 ?side2 ?side3 ?side4 A4.out).mono ?_
 (case side1 => repeat (first | exact (Kd.C_below HR0_1.out (by repeat (first | (with_reducible first | exact HB.out | apply below_alloc | apply pw_below_drewN | apply below_drew1 | refine below_set ?_ GE101.out | refine below_set ?_ GE102.out) | exact HB.out))) | (with_reducible refine Kd.C_alloc ?_ _) | (with_reducible refine Kd.C_drewN ?_ _) | (with_reducible refine Kd.C_drew ?_)))
 (case side2 => exact HC0_1.out)
 (case side3 => repeat (first | exact (Kd.C_below HR1_1.out (by repeat (first | (with_reducible first | exact HB.out | apply below_alloc | apply pw_below_drewN | apply below_drew1 | refine below_set ?_ GE101.out | refine below_set ?_ GE102.out) | exact HB.out))) | (with_reducible refine Kd.C_alloc ?_ _) | (with_reducible refine Kd.C_drewN ?_ _) | (with_reducible refine Kd.C_drew ?_)))
 (case side4 => exact HC1_1.out)
 rintro e w9 ⟨rfl, hb⟩
 refine ⟨_, rfl, ?_⟩
 have n0_ := Aside0.mk (blk_below (g := gb101) (o := .cells #[.string a0_0, .slice A0_1 l0_1.length c0_1] 44 (0, 0)) (by (with_reducible repeat (first | refine blk_drewN ?_ _ | refine blk_drew ?_ | refine blk_alloc ?_ _)); exact BK101.out) hb)
 have n1_ := Aside0.mk (blk_below (g := gb102) (o := .cells #[.string a1_0, .slice A1_1 l1_1.length c1_1] 44 (0, 0)) (by (with_reducible repeat (first | refine blk_drewN ?_ _ | refine blk_drew ?_ | refine blk_alloc ?_ _)); exact BK102.out) hb)
 have n2_ := Aside0.mk (below_step (by repeat (first | (with_reducible first | exact HB.out | apply below_alloc | apply pw_below_drewN | apply below_drew1 | refine below_set ?_ GE101.out | refine below_set ?_ GE102.out) | exact HB.out)) hb)
 clear BK101
 clear BK102
 clear HB
 have BK101 := n0_
 have BK102 := n1_
 have HB := n2_
 clear n0_ n1_ n2_
 (try clear hb)
 (try clear hb2)
 (try clear hk)
 (try clear hi)
 refine hK.out _ _ ⟨(blk_cell BK101.out 0).trans rfl, (blk_cell BK101.out 1).trans rfl, (blk_cell BK102.out 0).trans rfl, (blk_cell BK102.out 1).trans rfl⟩ (fun hHeld => ?_)
 clear hK K
 refine norm_ (a' := ?_) ?_ ?_
 rotate_left
 ·show Act.put _ (some 14) _ = _
  simp only [Act.put, List.setIfInBounds_toArray, List.set_cons_zero, List.set_cons_succ, i64_w, i32_w]
  rfl
 refine one_ (i := 10) (N := some 15) #[true, true, true, true, true, true, true, true, true, true, true, false, false] rfl rfl (one_of HT_.out (by kernel_rfl)) (by decide) (fun K hK => ?_)
 refine Kd.R_lit_step (Kd.int .i64) _ 3 ?hg (N := 15) ?hd (xs := ([t103, t104] : List Int)) (inner := [.int .i64 t103, .int .i64 t104]) (ok := fun _ => True) (okp := fun _ => True) ?hr ?hp (fun _ hk => hk) trivial (Below.refl _ _) (Nat.le_refl _) (by simp) ?_; (case hd => rfl); (case hg => rfl); (case hr => first | (go_simp; done) | (go_simp; rfl)); (case hp => exact (Reps.one (show Kd.M (Kd.int .i64) _ _ _ t103 [.int .i64 t103] from rfl) (Reps.one (show Kd.M (Kd.int .i64) _ _ _ t104 [.int .i64 t104] from rfl) (Reps.none _ _))))
 intro v106 w10 ho11 hb hg_ hnew_
 clear hg_ hnew_
 (first | rw [← Ny105.out] at ho11 | (simp only [Int.reduceToNat] at ho11; rw [← Ny105.out] at ho11))
 have n0_ := Aside0.mk (Kd.R_lower ho11 (below_size (by repeat (first | (with_reducible first | exact HB.out | apply below_alloc | apply pw_below_drewN | apply below_drew1 | refine below_set ?_ GE101.out | refine below_set ?_ GE102.out) | exact HB.out))))
 have n1_ := Aside0.mk (blk_below (g := gb101) (o := .cells #[.string a0_0, .slice A0_1 l0_1.length c0_1] 44 (0, 0)) (by (with_reducible repeat (first | refine blk_drewN ?_ _ | refine blk_drew ?_ | refine blk_alloc ?_ _)); exact BK101.out) hb)
 have n2_ := Aside0.mk (blk_below (g := gb102) (o := .cells #[.string a1_0, .slice A1_1 l1_1.length c1_1] 44 (0, 0)) (by (with_reducible repeat (first | refine blk_drewN ?_ _ | refine blk_drew ?_ | refine blk_alloc ?_ _)); exact BK102.out) hb)
 have n3_ := Aside0.mk (below_step (by repeat (first | (with_reducible first | exact HB.out | apply below_alloc | apply pw_below_drewN | apply below_drew1 | refine below_set ?_ GE101.out | refine below_set ?_ GE102.out) | exact HB.out)) hb)
 clear BK101
 clear BK102
 clear HB
 have HO107 := n0_
 have BK101 := n1_
 have BK102 := n2_
 have HB := n3_
 clear n0_ n1_ n2_ n3_
 clear hb ho11
 obtain ⟨Ao12, co12, eo12⟩ := Kd.R_slice HO107.out
 (first | subst eo12 | (injection eo12 with f1_ f2_ f3_; have f4_ := f1_.symm; have f5_ := f3_.symm; clear f1_ f2_ f3_; subst f4_; subst f5_))
 refine hK.out _ _ ⟨(blk_cell BK101.out 0).trans rfl, (blk_cell BK101.out 1).trans rfl, (blk_cell BK102.out 0).trans rfl, (blk_cell BK102.out 1).trans rfl⟩ (fun hHeld => ?_)
 clear hK K
 refine norm_ (a' := ?_) ?_ ?_
 rotate_left
 ·show Act.put _ (some 15) _ = _
  simp only [Act.put, List.setIfInBounds_toArray, List.set_cons_zero, List.set_cons_succ, i64_w, i32_w]
  rfl
 refine one_ (i := 11) (N := some 16) #[true, true, true, true, true, true, true, true, true, true, true, true, false] rfl rfl (one_of HT_.out (by kernel_rfl)) (by decide) (fun K hK => ?_)
 refine goes_ Try.func38 (by kernel_rfl) rfl #[.slice Ao12 y105.length co12] (by rfl) rfl rfl (by (try simp only [List.map_toArray, List.map_cons, List.map_nil]); first | done | rfl | (simp only [List.length_drop, List.length_take]; rfl)) ?_
 with_reducible refine (cmp_Or_int.calls k _ _ y105 t108 _ ?side1 ?side2 A5.out).mono ?_
 (case side1 => repeat (first | exact (Kd.R_reads' HO107.out).2.2 | (with_reducible refine Kd.C_alloc ?_ _) | (with_reducible refine Kd.C_drewN ?_ _) | (with_reducible refine Kd.C_drew ?_)))
 (case side2 => exact (Kd.R_reads' HO107.out).2.1)
 rintro e w' ⟨rfl, ⟨nd, rfl⟩⟩
 refine ⟨_, rfl, ?_⟩
 refine hK.out _ _ ⟨(blk_cell BK101.out 0).trans rfl, (blk_cell BK101.out 1).trans rfl, (blk_cell BK102.out 0).trans rfl, (blk_cell BK102.out 1).trans rfl⟩ (fun hHeld => ?_)
 clear hK K
 refine norm_ (a' := ?_) ?_ ?_
 rotate_left
 ·show Act.put _ (some 16) _ = _
  simp only [Act.put, List.setIfInBounds_toArray, List.set_cons_zero, List.set_cons_succ, i64_w, i32_w]
  rfl
 refine pure_ (i := 12) (N := some 4) (v := ?_) (a' := ?_) #[true, true, true, true, true, true, true, true, true, true, true, true, true] rfl rfl (any_of HT_.out (by kernel_rfl)) (fun _ _ _ h => h) (Or.inl ⟨by rfl, ?_⟩) ?_ ?_
 rotate_left
 ·intro w'
  go_simp
  with_reducible rfl
 rotate_left
 ·simp only [Act.put, List.setIfInBounds_toArray, List.set_cons_zero, List.set_cons_succ, i64_w, i32_w]
  rfl
 refine done_ (done_of HT_.out (by kernel_rfl)) ?_
 try go_wp2
 go_ret
 exact ⟨by first | rfl | (simp [errW_none, errW_some] <;> rfl) | (simp [*, errW_none, errW_some] <;> rfl), by repeat (first | (with_reducible first | exact HB.out | apply below_alloc | apply pw_below_drewN | apply below_drew1 | refine below_set ?_ GE101.out | refine below_set ?_ GE102.out) | exact HB.out)⟩
end Go.Proofs.Ytoekfmdcplphmaa.H
/- join.Compare answers as the plain order -/
namespace Go.Proofs.Ytoekfmdcplphmaa.H
open Go.RowKit Go.Proofs.YtoekfmdcplphmaaW.PrintWords Go.Proofs.YtoekfmdcplphmaaW.PrintLast Go.Proofs.YtoekfmdcplphmaaW.PrintMore
theorem cmpS_f (a b : ByteArray) : cmp_Compare_string.f a b = some (cmpS a b) := by
  unfold cmp_Compare_string.f cmp_isNaN_string.f cmpS
  have h1 : (a.toList != a.toList) = false := by simp
  have h2 : (b.toList != b.toList) = false := by simp
  simp only [h1, h2, Option.bind_some]
  rw [if_neg (by decide), if_neg (by decide)]
  by_cases p : toL a < toL b
  · rw [if_pos ((ord_less a b).2 p), if_pos p]
  · rw [if_neg (fun q => p ((ord_less a b).1 q)), if_neg p]
    by_cases q : toL b < toL a
    · rw [if_pos ((ord_less b a).2 q), if_pos q]
    · rw [if_neg (fun r => q ((ord_less b a).1 r)), if_neg q]
theorem cmpI_f (a b : Int) : cmp_Compare_int.f a b = some (cmpI a b) := by
  unfold cmp_Compare_int.f cmp_isNaN_int.f cmpI
  simp
  repeat' split
  all_goals first | rfl | omega
theorem cmpI64_f (a b : Int) : cmp_Compare_int64.f a b = some (cmpI a b) := by
  unfold cmp_Compare_int64.f cmp_isNaN_int64.f cmpI
  simp
  repeat' split
  all_goals first | rfl | omega
theorem cmpV_ev (a b : Val) : Ev (fun k => value_Compare.f k a.isSym a.sym a.n b.isSym b.sym b.n) (cmpV a b) := by
  obtain ⟨s, t, n⟩ := a
  obtain ⟨s', t', n'⟩ := b
  unfold value_Compare.f cmpV
  cases s <;> cases s'
  · refine Ev.neg (by simp) ?_
    refine Ev.step (fun k => by rw [value_Compare.j0]) ?_
    refine Ev.neg (by simp) ?_
    refine Ev.neg (by simp) ?_
    refine Ev.neg (by simp) ?_
    exact Ev.pure (cmpI64_f n n') (Ev.now _)
  · refine Ev.neg (by simp) ?_
    refine Ev.step (fun k => by rw [value_Compare.j0]) ?_
    refine Ev.neg (by simp) ?_
    refine Ev.neg (by simp) ?_
    refine Ev.pos rfl ?_
    exact Ev.now _
  · refine Ev.pos rfl ?_
    refine Ev.step (fun k => by rw [value_Compare.j0]) ?_
    refine Ev.neg (by simp) ?_
    refine Ev.pos rfl ?_
    exact Ev.now _
  · refine Ev.pos rfl ?_
    refine Ev.step (fun k => by rw [value_Compare.j0]) ?_
    refine Ev.pos rfl ?_
    exact Ev.pure (cmpS_f t t') (Ev.now _)
theorem cmpR_l0 (a b : List Val) (ha : a.length ≤ 9223372036854775807) (hb : b.length ≤ 9223372036854775807) : ∀ (r : List Val) (i : Nat), a.drop i = r → i ≤ a.length → i ≤ b.length →
    Ev (fun k => tuple_Compare.l0 k a b (mn (a.length : Int) (b.length : Int)) i) (cmpR r (b.drop i))
  | [], i, h, hia, hib => by
    have e := drop_end h
    refine Ev.step (fun k => by rw [tuple_Compare.l0]) (Ev.neg (by unfold mn; split <;> omega) ?_)
    refine Ev.pure (cmpI_f _ _) (Ev.some ?_)
    cases hd : b.drop i with
    | nil =>
      have e2 := drop_end hd
      rw [cmpR]
      exact cmpI_zero.2 (by omega)
    | cons y m =>
      have := (drop_more hd hb).1
      rw [cmpR]
      unfold cmpI
      rw [if_pos (by omega)]
  | x :: r, i, h, hia, hib => by
    obtain ⟨g1, g2, g3, g4, g5⟩ := drop_more h ha
    cases hd : b.drop i with
    | nil =>
      have e2 := drop_end hd
      refine Ev.step (fun k => by rw [tuple_Compare.l0]) (Ev.neg (by unfold mn; split <;> omega) ?_)
      refine Ev.pure (cmpI_f _ _) (Ev.some ?_)
      rw [cmpR]
      unfold cmpI
      rw [if_neg (by omega), if_pos (by omega)]
    | cons y m =>
      obtain ⟨f1, f2, f3, f4, f5⟩ := drop_more hd hb
      refine Ev.step (fun k => by rw [tuple_Compare.l0]) (Ev.pos (by unfold mn; split <;> omega) (Ev.pos g2 (Ev.pos g1 (Ev.pos f1 ?_))))
      rw [show rd_T28 a i = x from g3 _, show rd_T28 b i = y from f3 _, g5, cmpR]
      refine Ev.bind (cmpV_ev x y) ?_
      by_cases c : cmpV x y = 0
      · refine Ev.pos c ?_
        rw [lex2, if_pos c, ← f4]
        exact cmpR_l0 a b ha hb r (i + 1) g4 (by omega) (by omega)
      · refine Ev.neg c (Ev.some ?_)
        rw [lex2, if_neg c]
theorem cmpR_ev (a b : List Val) (ha : a.length ≤ 9223372036854775807) (hb : b.length ≤ 9223372036854775807) : Ev (fun k => tuple_Compare.f k a b) (cmpR a b) := by
  unfold tuple_Compare.f
  exact cmpR_l0 a b ha hb a 0 rfl (by omega) (by omega)
theorem or2_ev (a b : Int) : Ev (fun k => cmp_Or_int.f k [a, b]) (lex2 a b) := by
  unfold cmp_Or_int.f lex2
  refine Ev.step (fun k => by rw [cmp_Or_int.l0]) (Ev.pos (by simp) (Ev.pos (by decide) (Ev.pos (by simp) ?_)))
  rw [show rd [a, b] 0 = a from rfl, show wrap64 (0 + 1) = 1 from by unfold wrap64; omega]
  by_cases c : a = 0
  · refine Ev.pos c ?_
    rw [if_pos c]
    refine Ev.step (fun k => by rw [cmp_Or_int.l0]) (Ev.pos (by simp) (Ev.pos (by decide) (Ev.pos (by simp) ?_)))
    rw [show rd [a, b] 1 = b from rfl, show wrap64 (1 + 1) = 2 from by unfold wrap64; omega]
    by_cases d : b = 0
    · refine Ev.pos d ?_
      refine Ev.step (fun k => by rw [cmp_Or_int.l0]) (Ev.neg (by simp) (Ev.some d.symm))
    · exact Ev.neg d (Ev.now _)
  · refine Ev.neg c (Ev.some ?_)
    rw [if_neg c]
theorem cmpF_ev (f g : Fact) (hf : f.args.length ≤ 9223372036854775807) (hg : g.args.length ≤ 9223372036854775807) : Ev (fun k => join_Compare.f k f.pred f.args g.pred g.args) (cmpF f g) := by
  unfold join_Compare.f cmpF
  refine Ev.pure (cmpS_f _ _) ?_
  refine Ev.bind (cmpR_ev _ _ hf hg) ?_
  exact Ev.bind (or2_ev _ _) (Ev.now _)
end Go.Proofs.Ytoekfmdcplphmaa.H
/- value.Compare, tuple.Compare, told with the world that they leave: some draws on, some blocks behind -/
namespace Go.Proofs.Ytoekfmdcplphmaa.H
open Go.RowKit Go.Sort Go.Proofs.YtoekfmdcplphmaaW.PrintWords Go.Proofs.YtoekfmdcplphmaaW.PrintLast Go.Proofs.YtoekfmdcplphmaaW.PrintMore
attribute [local go_sem] min2_mn min_two
theorem drawn_grow {w w' : World} (h : Drawn0 w w') : ∃ m, w' = w.drewN m := by
  obtain ⟨m, rfl⟩ := h
  exact ⟨m, rfl⟩
set_option maxHeartbeats 4000000 in
set_option maxRecDepth 100000 in
theorem valueCmp (x y : Val) (W : World) :
    Calls Try.prog 54 #[.agg #[.bool x.isSym, .string x.sym, .int .i64 x.n], .agg #[.bool y.isSym, .string y.sym, .int .i64 y.n]] W fun e w' => e = .returned (.int .i64 (cmpV x y)) ∧ GrW W w' := by
  have hu := Try.underlying28
  obtain ⟨s, t, n⟩ := x
  obtain ⟨s', t', n'⟩ := y
  unfold cmpV
  have h1 := cmpS_f t t'
  have h2 := cmpI64_f n n'
  generalize cmpS t t' = r1 at h1 ⊢
  generalize cmpI n n' = r2 at h2 ⊢
  have H1 := Aside0.mk h1
  have H2 := Aside0.mk h2
  clear h1 h2
  cases s <;> cases s'
  all_goals dsimp only [Bool.false_eq_true, if_true, if_false]
  all_goals go_enter Try.func54, Try.ntmps54
  all_goals go_wp2_with (first | (go_at_call 39; refine (cmp_Compare_string.calls t t' r1 _ H1.out).mono ?_; rintro e w2 ⟨rfl, hd⟩; obtain ⟨m, rfl⟩ := drawn_grow hd; clear hd) | (go_at_call 68; refine (cmp_Compare_int64.calls n n' r2 _ H2.out).mono ?_; rintro e w2 ⟨rfl, hd⟩; obtain ⟨m, rfl⟩ := drawn_grow hd; clear hd))
  all_goals go_ret
  all_goals exact ⟨rfl, by repeat (first | exact GrW.refl _ | refine GrW.drewN ?_ _ | refine GrW.drew ?_ | refine GrW.alloc ?_ _)⟩
theorem cmpR_at {l0 l1 : List Val} {kk : Nat} {x y : Val} (hx : l0[kk]? = some x) (hy : l1[kk]? = some y) : cmpR (l0.drop kk) (l1.drop kk) = lex2 (cmpV x y) (cmpR (l0.drop (kk + 1)) (l1.drop (kk + 1))) := by
  rw [drop_cons hx, drop_cons hy, cmpR]
set_option maxHeartbeats 4000000 in
set_option maxRecDepth 100000 in
theorem tupleCmp (A0 : Option Addr) (c0 : Nat) (l0 : List Val) (A1 : Option Addr) (c1 : Nat) (l1 : List Val) (W : World) (hr0 : Kd.C k28 W A0 l0.length l0) (hr1 : Kd.C k28 W A1 l1.length l1) :
    Calls Try.prog 40 #[.slice A0 l0.length c0, .slice A1 l1.length c1] W fun e w' => e = .returned (.int .i64 (cmpR l0 l1)) ∧ GrW W w' := by
  have hu := Try.underlying28
  have hl0 : l0.length ≤ 9223372036854775807 := hr0.2.1
  have hl1 : l1.length ≤ 9223372036854775807 := hr1.2.1
  have HR0 := Aside0.mk hr0
  have HR1 := Aside0.mk hr1
  clear hr0 hr1
  have mixed : Try.prog.follows .mixedOrders = true := by kernel_rfl
  obtain ⟨m, hm⟩ : ∃ m : Int, mn (l0.length : Int) (l1.length : Int) = m := ⟨_, rfl⟩
  have hm1 : m = l0.length ∨ m = l1.length := by rw [← hm]; unfold mn; split <;> omega
  have hm2 : m ≤ l0.length := by rw [← hm]; unfold mn; split <;> omega
  have hm3 : m ≤ l1.length := by rw [← hm]; unfold mn; split <;> omega
  go_enter Try.func40, Try.ntmps40
  go_wp2
  go_loopg [12] l0.length (fun gg s12 wr => ∃ kk : Nat, s12 = .int .i64 kk ∧ kk ≤ l0.length ∧ kk ≤ l1.length ∧ (kk : Int) ≤ m ∧ l0.length - kk ≤ gg ∧ Aside0 (GrW W wr) ∧ Aside0 (cmpR l0 l1 = cmpR (l0.drop kk) (l1.drop kk)))
  case atStart => exact ⟨0, rfl, by omega, by omega, by omega, by omega, ⟨GrW.refl W⟩, ⟨rfl⟩⟩
  case round =>
    obtain ⟨kk, rfl, hk0, hk1, hkm, hgg, HG, HA⟩ := hrel
    by_cases hlt : (kk : Int) < m
    · have h0 : kk < l0.length := by omega
      have h1 : kk < l1.length := by omega
      have h0z : (kk : Int) < (l0.length : Int) := by omega
      have h1z : (kk : Int) < (l1.length : Int) := by omega
      obtain ⟨x, hx⟩ := at_some h0
      obtain ⟨y, hy⟩ := at_some h1
      have hx' := at_Val HR0.out hx
      have hy' := at_Val HR1.out hy
      have HX := Aside0.mk (HA.out.trans (cmpR_at hx hy))
      clear HA hx hy
      obtain ⟨ad, e1, hx0, hx1, hx2⟩ := hx'
      obtain ⟨iad, ie1, ihx0, ihx1, ihx2⟩ := hy'
      cases e1
      cases ie1
      replace hx0 := GrW.old HG.out hx0
      replace hx1 := GrW.old HG.out hx1
      replace hx2 := GrW.old HG.out hx2
      replace ihx0 := GrW.old HG.out ihx0
      replace ihx1 := GrW.old HG.out ihx1
      replace ihx2 := GrW.old HG.out ihx2
      obtain ⟨r, hr⟩ : ∃ r : Int, cmpV x y = r := ⟨_, rfl⟩
      rw [hr] at HX
      have HV := Aside0.mk (fun W => hr ▸ valueCmp x y W)
      by_cases hq : r = 0
      · have e0 : (decide (r = 0)) = true := decide_eq_true hq
        subst hq
        go_wp2
        go_quiet_grown (first | (go_at_call 54; refine Calls.grown_of (HV.out _)))
        go_wp2
        go_roundg (l0.length - (kk + 1))
        case measure => omega
        case rel => exact ⟨kk + 1, by go_num, by omega, by omega, by omega, by omega, ⟨HG.out.grow _ _⟩, ⟨HX.out.trans (by rw [lex2, if_pos rfl])⟩⟩
      · go_wp2
        go_quiet_grown (first | (go_at_call 54; refine Calls.grown_of (HV.out _)))
        go_wp2
        go_ret
        exact ⟨by rw [HX.out, lex2, if_neg hq]; rfl, HG.out.grow _ _⟩
    · have hz : cmpI l0.length l1.length = cmpR (l0.drop kk) (l1.drop kk) := by
        rcases hm1 with e | e
        · have e0 : kk = l0.length := by omega
          subst e0
          rw [List.drop_length]
          rcases Nat.lt_or_ge l0.length l1.length with h | h
          · obtain ⟨y, r, hd, _⟩ := at_more h
            rw [hd, cmpR]; unfold cmpI; rw [if_pos (by omega)]
          · rw [List.drop_eq_nil_of_le h, cmpR]; exact cmpI_zero.2 (by omega)
        · have e0 : kk = l1.length := by omega
          subst e0
          rw [List.drop_length]
          rcases Nat.lt_or_ge l1.length l0.length with h | h
          · obtain ⟨y, r, hd, _⟩ := at_more h
            rw [hd, cmpR]; unfold cmpI; rw [if_neg (by omega), if_pos (by omega)]
          · rw [List.drop_eq_nil_of_le h, cmpR]; exact cmpI_zero.2 (by omega)
      have HZ := Aside0.mk (hz.trans HA.out.symm)
      have HI := Aside0.mk (cmpI_f l0.length l1.length)
      clear hz
      go_wp2_with (go_at_call 55; refine (cmp_Compare_int.calls _ _ _ _ HI.out).mono ?_; rintro e w2 ⟨rfl, hd⟩; obtain ⟨m2, rfl⟩ := drawn_grow hd; clear hd)
      go_ret
      exact ⟨by rw [HZ.out]; rfl, HG.out.drewN _⟩
end Go.Proofs.Ytoekfmdcplphmaa.H
/- join.Compare, told with the world that it leaves (made by wip/gen/gjoincmp.py) -/
namespace Go.Proofs.Ytoekfmdcplphmaa.H
open Go.RowKit Go.Sort Go.Proofs.YtoekfmdcplphmaaW.PrintWords Go.Proofs.YtoekfmdcplphmaaW.PrintLast Go.Proofs.YtoekfmdcplphmaaW.PrintMore
set_option maxHeartbeats 4000000 in
set_option maxRecDepth 100000 in
theorem joinCmp (x y : Fact) (A0 : Option Addr) (c0 : Nat) (A1 : Option Addr) (c1 : Nat) (W : World) (hr0 : Kd.C k28 W A0 x.args.length x.args) (hr1 : Kd.C k28 W A1 y.args.length y.args) :
    Calls Try.prog 23 #[.agg #[.string x.pred, .slice A0 x.args.length c0], .agg #[.string y.pred, .slice A1 y.args.length c1]] W fun e w' => e = .returned (.int .i64 (cmpF x y)) ∧ GrW W w' := by
  have HC1 := Aside0.mk (cmpS_f x.pred y.pred)
  have HR0 := Aside0.mk hr0
  have HR1 := Aside0.mk hr1
  unfold cmpF
  obtain ⟨r1, hr1_⟩ : ∃ r : Int, cmpS x.pred y.pred = r := ⟨_, rfl⟩
  obtain ⟨r2, hr2_⟩ : ∃ r : Int, cmpR x.args y.args = r := ⟨_, rfl⟩
  rw [hr1_] at HC1 ⊢
  have HC2 := Aside0.mk (fun W2 h0 h1 => hr2_ ▸ tupleCmp A0 c0 x.args A1 c1 y.args W2 h0 h1)
  rw [hr2_]
  obtain ⟨k3, hk3⟩ := Ev.rounds (or2_ev r1 r2)
  have HC3 := Aside0.mk hk3
  clear hr0 hr1 hr1_ hr2_ hk3
  go_enter Try.func23, Try.ntmps23
  go_wp2
  obtain ⟨ww, hww⟩ : ∃ ww, ww = ((W.alloc (.cells #[.string x.pred, .slice A0 x.args.length c0] 44)).alloc (.cells #[.string y.pred, .slice A1 y.args.length c1] 44)).drew := ⟨_, rfl⟩
  have G0 := Aside0.mk (show GrW W ww from hww ▸ (((GrW.refl W).alloc _).alloc _).drew)
  have g0 : ww.heap[W.heap.size]? = some (.cells #[.string x.pred, .slice A0 x.args.length c0] 44 (0, 0)) := hww ▸ blk_alloc (blk_new W _) _
  have g1 : ww.heap[W.heap.size + 1]? = some (.cells #[.string y.pred, .slice A1 y.args.length c1] 44 (0, 0)) := by
    have := blk_new (W.alloc (.cells #[.string x.pred, .slice A0 x.args.length c0] 44)) (.cells #[.string y.pred, .slice A1 y.args.length c1] 44)
    rw [show (W.alloc (.cells #[.string x.pred, .slice A0 x.args.length c0] 44)).heap.size = W.heap.size + 1 by simp] at this
    exact hww ▸ this
  have hS0 : (ww.cell? ⟨W.heap.size, 0, none⟩ = some (.string x.pred) ∧ ww.cell? ⟨W.heap.size, 1, none⟩ = some (.slice A0 x.args.length c0)) ∧ (ww.cell? ⟨W.heap.size + 1, 0, none⟩ = some (.string y.pred) ∧ ww.cell? ⟨W.heap.size + 1, 1, none⟩ = some (.slice A1 y.args.length c1)) := ⟨⟨(blk_cell g0 0).trans rfl, (blk_cell g0 1).trans rfl⟩, ⟨(blk_cell g1 0).trans rfl, (blk_cell g1 1).trans rfl⟩⟩
  have HS : Aside0 (∀ w', GrW ww w' → (w'.cell? ⟨W.heap.size, 0, none⟩ = some (.string x.pred) ∧ w'.cell? ⟨W.heap.size, 1, none⟩ = some (.slice A0 x.args.length c0)) ∧ (w'.cell? ⟨W.heap.size + 1, 0, none⟩ = some (.string y.pred) ∧ w'.cell? ⟨W.heap.size + 1, 1, none⟩ = some (.slice A1 y.args.length c1))) := ⟨fun w' h => ⟨⟨Below.old h.below hS0.1.1, Below.old h.below hS0.1.2⟩, ⟨Below.old h.below hS0.2.1, Below.old h.below hS0.2.2⟩⟩⟩
  have HWW := Aside0.mk hww
  have hS := hS0
  rw [hww] at hS
  clear hww g0 g1 hS0
  refine start_ (n := 13) (S := fun w' => (w'.cell? ⟨W.heap.size, 0, none⟩ = some (.string x.pred) ∧ w'.cell? ⟨W.heap.size, 1, none⟩ = some (.slice A0 x.args.length c0)) ∧ (w'.cell? ⟨W.heap.size + 1, 0, none⟩ = some (.string y.pred) ∧ w'.cell? ⟨W.heap.size + 1, 1, none⟩ = some (.slice A1 y.args.length c1))) (ds := []) (bl 13 0) (by kernel_rfl) rfl rfl hS (fun hHeld => ?_)
  clear hS
  rw [← HWW.out] at hHeld ⊢
  clear HWW
  refine pure_ (i := 0) (N := some 5) (v := ?_) (a' := ?_) (bl 13 1) rfl rfl (by kernel_rfl) (fun _ _ _ h => h) (Or.inl ⟨by rfl, ?_⟩) ?_ ?_
  rotate_left
  · intro w'
    go_simp
    with_reducible rfl
  rotate_left
  · simp only [Act.put, sA, sZ, sS]
    rfl
  refine pure_ (i := 2) (N := some 7) (v := ?_) (a' := ?_) (bl 13 5) rfl rfl (by kernel_rfl) (fun _ _ _ h => h) (Or.inl ⟨by rfl, ?_⟩) ?_ ?_
  rotate_left
  · intro w'
    go_simp
    with_reducible rfl
  rotate_left
  · simp only [Act.put, sA, sZ, sS]
    rfl
  refine pure_ (i := 5) (N := some 10) (v := ?_) (a' := ?_) (bl 13 37) rfl rfl (by kernel_rfl) (fun _ _ _ h => h) (Or.inl ⟨by rfl, ?_⟩) ?_ ?_
  rotate_left
  · intro w'
    go_simp
    with_reducible rfl
  rotate_left
  · simp only [Act.put, sA, sZ, sS]
    rfl
  refine pure_ (i := 7) (N := some 12) (v := ?_) (a' := ?_) (bl 13 165) rfl rfl (by kernel_rfl) (fun _ _ _ h => h) (Or.inl ⟨by rfl, ?_⟩) ?_ ?_
  rotate_left
  · intro w'
    go_simp
    with_reducible rfl
  rotate_left
  · simp only [Act.put, sA, sZ, sS]
    rfl
  refine take_ (i := 1) (N := some 6) (v := ?_) (a' := ?_) (bl 13 167) rfl rfl (by kernel_rfl) (fun _ _ _ h => h) (Or.inl ⟨by rfl, ?_⟩) hHeld ?_ ?_
  rotate_left
  · intro w' hSw
    (try dsimp only at hSw)
    go_split_ands
    go_simp
    with_reducible rfl
  rotate_left
  · simp only [Act.put, sA, sZ, sS]
    rfl
  refine take_ (i := 3) (N := some 8) (v := ?_) (a' := ?_) (bl 13 175) rfl rfl (by kernel_rfl) (fun _ _ _ h => h) (Or.inl ⟨by rfl, ?_⟩) hHeld ?_ ?_
  rotate_left
  · intro w' hSw
    (try dsimp only at hSw)
    go_split_ands
    go_simp
    with_reducible rfl
  rotate_left
  · simp only [Act.put, sA, sZ, sS]
    rfl
  refine take_ (i := 6) (N := some 11) (v := ?_) (a' := ?_) (bl 13 239) rfl rfl (by kernel_rfl) (fun _ _ _ h => h) (Or.inl ⟨by rfl, ?_⟩) hHeld ?_ ?_
  rotate_left
  · intro w' hSw
    (try dsimp only at hSw)
    go_split_ands
    go_simp
    with_reducible rfl
  rotate_left
  · simp only [Act.put, sA, sZ, sS]
    rfl
  refine take_ (i := 8) (N := some 13) (v := ?_) (a' := ?_) (bl 13 495) rfl rfl (by kernel_rfl) (fun _ _ _ h => h) (Or.inl ⟨by rfl, ?_⟩) hHeld ?_ ?_
  rotate_left
  · intro w' hSw
    (try dsimp only at hSw)
    go_split_ands
    go_simp
    with_reducible rfl
  rotate_left
  · simp only [Act.put, sA, sZ, sS]
    rfl
  refine one_ (i := 4) (N := some 9) (bl 13 511) rfl rfl (by kernel_rfl) (by decide) (fun K hK => ?_)
  refine goes_ Try.func39 (by kernel_rfl) rfl #[.string x.pred, .string y.pred] (by rfl) rfl rfl (by (try simp only [List.map_toArray, List.map_cons, List.map_nil]); first | done | rfl) ?_
  refine (cmp_Compare_string.calls _ _ _ _ HC1.out).mono ?_
  rintro e w1 ⟨rfl, hd⟩
  refine ⟨_, rfl, ?_⟩
  have G1 := Aside0.mk (show GrW ww w1 from by obtain ⟨m, rfl⟩ := drawn_grow hd; exact (GrW.refl _).drewN m)
  clear hd
  refine hK.out _ _ (HS.out _ G1.out) (fun hHeld => ?_)
  clear hK K
  refine norm_ (a' := ?_) ?_ ?_
  rotate_left
  · show Act.put _ (some 9) _ = _
    simp only [Act.put, sA, sZ, sS]
    rfl
  refine one_ (i := 9) (N := some 14) (bl 13 1023) rfl rfl (by kernel_rfl) (by decide) (fun K hK => ?_)
  refine goes_ Try.func40 (by kernel_rfl) rfl #[.slice A0 x.args.length c0, .slice A1 y.args.length c1] (by rfl) rfl rfl (by (try simp only [List.map_toArray, List.map_cons, List.map_nil]); first | done | rfl) ?_
  refine (HC2.out _ (Kd.C_below HR0.out (G0.out.trans G1.out).below) (Kd.C_below HR1.out (G0.out.trans G1.out).below)).mono ?_
  rintro e w2 ⟨rfl, hd⟩
  refine ⟨_, rfl, ?_⟩
  have G2 := Aside0.mk (G1.out.trans hd)
  clear hd
  refine hK.out _ _ (HS.out _ G2.out) (fun hHeld => ?_)
  clear hK K
  refine norm_ (a' := ?_) ?_ ?_
  rotate_left
  · show Act.put _ (some 14) _ = _
    simp only [Act.put, sA, sZ, sS]
    rfl
  refine one_ (i := 10) (N := some 15) (bl 13 2047) rfl rfl (by kernel_rfl) (by decide) (fun K hK => ?_)
  refine value_ (v := .slice (some ⟨w2.heap.size, 0, none⟩) 2 2) (w1 := w2.alloc (.cells #[.int .i64 r1, .int .i64 r2] 3)) (by rfl) rfl ?_ ?_
  · go_simp
  refine hK.out _ _ (HS.out _ (G2.out.alloc _)) (fun hHeld => ?_)
  clear hK K
  refine norm_ (a' := ?_) ?_ ?_
  rotate_left
  · show Act.put _ (some 15) _ = _
    simp only [Act.put, sA, sZ, sS]
    rfl
  refine one_ (i := 11) (N := some 16) (bl 13 4095) rfl rfl (by kernel_rfl) (by decide) (fun K hK => ?_)
  refine goes_ Try.func38 (by kernel_rfl) rfl #[.slice (some ⟨w2.heap.size, 0, none⟩) 2 2] (by rfl) rfl rfl (by (try simp only [List.map_toArray, List.map_cons, List.map_nil]); first | done | rfl) ?_
  refine (cmp_Or_int.calls k3 _ 2 [r1, r2] _ _ (C_cells (blk_new _ _) (Kd.reps_scalar [r1, r2]) (by simp)) (by simp) HC3.out).mono ?_
  rintro e w4 ⟨rfl, hd⟩
  refine ⟨_, rfl, ?_⟩
  have G4 := Aside0.mk (show GrW ww w4 from by obtain ⟨m, rfl⟩ := drawn_grow hd; exact (G2.out.alloc _).drewN m)
  clear hd
  refine hK.out _ _ (HS.out _ G4.out) (fun hHeld => ?_)
  clear hK K
  refine norm_ (a' := ?_) ?_ ?_
  rotate_left
  · show Act.put _ (some 16) _ = _
    simp only [Act.put, sA, sZ, sS]
    rfl
  refine pure_ (i := 12) (N := some 4) (v := ?_) (a' := ?_) (bl 13 8191) rfl rfl (by kernel_rfl) (fun _ _ _ h => h) (Or.inl ⟨by rfl, ?_⟩) ?_ ?_
  rotate_left
  · intro w'
    go_simp
    with_reducible rfl
  rotate_left
  · simp only [Act.put, sA, sZ, sS]
    rfl
  refine done_ (by kernel_rfl) ?_
  go_wp2
  go_ret
  exact ⟨rfl, G0.out.trans G4.out⟩
end Go.Proofs.Ytoekfmdcplphmaa.H
/- slices.CompactFunc at facts, with join.Sort's closure -/
namespace Go.Proofs.Ytoekfmdcplphmaa.H
open Go.RowKit Go.Sort Go.Proofs.YtoekfmdcplphmaaW.PrintWords Go.Proofs.YtoekfmdcplphmaaW.PrintLast Go.Proofs.YtoekfmdcplphmaaW.PrintMore
theorem old_grow {w : World} {a : Addr} {v : Value} (h : w.cell? a = some v) : ∀ n os, (grow (w.drewN n) os).cell? a = some v := GrW.old (GrW.refl w) h
set_option maxRecDepth 100000 in
theorem eqFact (x y : Fact) (A0 : Option Addr) (c0 : Nat) (A1 : Option Addr) (c1 : Nat) (b : Bool) (W : World) (hb : b = decide (cmpF x y = 0)) (hr0 : Kd.C k28 W A0 x.args.length x.args) (hr1 : Kd.C k28 W A1 y.args.length y.args) :
    Calls Try.prog 36 #[.agg #[.string x.pred, .slice A0 x.args.length c0], .agg #[.string y.pred, .slice A1 y.args.length c1]] W fun e w' => e = .returned (.bool b) ∧ GrW W w' := by
  have HG := Aside0.mk (((GrW.refl W).alloc (.cells #[.string x.pred, .slice A0 x.args.length c0] 44)).alloc (.cells #[.string y.pred, .slice A1 y.args.length c1] 44))
  have HK := Aside0.mk (joinCmp x y A0 c0 A1 c1 _ (Kd.C_below hr0 HG.out.below) (Kd.C_below hr1 HG.out.below))
  clear hr0 hr1
  obtain ⟨r, hr⟩ : ∃ r : Int, cmpF x y = r := ⟨_, rfl⟩
  rw [hr] at HK hb
  clear hr
  by_cases hz : r = 0
  · have e : b = true := by rw [hb]; exact decide_eq_true hz
    subst hz
    subst e
    clear hb
    go_enter Try.func36, Try.ntmps36
    go_wp2_with (go_at_call 23; refine HK.out.mono ?_; rintro e w2 ⟨rfl, hg⟩; have HH := Aside0.mk hg; clear hg)
    go_ret
    exact ⟨rfl, HG.out.trans HH.out⟩
  · have e : b = false := by rw [hb]; exact decide_eq_false hz
    subst e
    clear hb
    go_enter Try.func36, Try.ntmps36
    go_wp2_with (go_at_call 23; refine HK.out.mono ?_; rintro e w2 ⟨rfl, hg⟩; have HH := Aside0.mk hg; clear hg)
    go_ret
    exact ⟨by simp [hz], HG.out.trans HH.out⟩
def GCompactFact.f (l : List Fact) : Option (List Fact) := if bareL l = true then some (dd l) else none
theorem eq_bare {l : List Fact} (h : bareL l = true) {x y : Fact} {i j : Nat} (hx : l[i]? = some x) (hy : l[j]? = some y) : cmpF x y = 0 ↔ x = y := by
  unfold bareL at h
  rw [List.all_eq_true] at h
  exact cmpF_zero (h x (List.mem_of_getElem? hx)) (h y (List.mem_of_getElem? hy))
theorem two_cells {w : World} {b i : Nat} {u v : Value} (h0 : w.cell? ⟨b, i, none⟩ = some u) (h1 : w.cell? ⟨b, i + 1, none⟩ = some v) : ∀ j z, [u, v][j]? = some z → w.cell? ⟨b, i + j, none⟩ = some z := by
  intro j z hj
  rcases j with _ | _ | j
  · simp at hj; subst hj; simpa using h0
  · simp at hj; subst hj; exact h1
  · simp at hj
set_option maxHeartbeats 8000000 in
set_option maxRecDepth 100000 in
theorem CompactFact (base : Nat) (ok : Nat → Prop) (v : Value) (l : List Fact) (w : World) (ho : Kd.R k44 44 w base ok v l) (hbare : bareL l = true) :
    Calls Try.prog 35 #[v, .func (.func 36) #[] #[]] w fun e w' => ∃ v', e = .returned v' ∧ Kd.R k44 44 w' base ok v' (dd l) ∧ w.grownBy w' v.ownBlock ∧ v'.ownBlock = v.ownBlock := by
  have hu := Try.underlying44
  have mixed : Try.prog.follows .mixedOrders = true := by kernel_rfl
  obtain ⟨A, c, rfl, hlc, hC⟩ := Kd.R_reads ho
  have hl : l.length ≤ 9223372036854775807 := hC.2.1
  have HBARE := Aside0.mk hbare
  clear hbare
  by_cases h2 : l.length < 2
  · have hd : dd l = l := by
      rcases l with _ | ⟨a, _ | ⟨b, l⟩⟩
      · rfl
      · rfl
      · rw [List.length_cons, List.length_cons] at h2; omega
    have h2z : (l.length : Int) < 2 := by omega
    have HO := Aside0.mk ho
    have HD := Aside0.mk hd
    clear ho hC hd
    go_enter Try.func35, Try.ntmps35
    go_wp2
    go_ret
    exact ⟨_, rfl, by rw [HD.out]; exact HO.out, World.grownBy.refl _ _, rfl⟩
  · have h2z : ¬ (l.length : Int) < 2 := by omega
    obtain ⟨b, cap, e2, hbb, hbl, cells0, hcells0⟩ := Kd.R_form ho (by omega)
    cases e2
    have HO := Aside0.mk ho
    clear ho hC hcells0
    go_enter Try.func35, Try.ntmps35
    go_wp2
    go_loopg [5] l.length (fun gg s5 wr => ∃ (k : Nat), s5 = .int .i64 k ∧ 1 ≤ k ∧ k ≤ l.length ∧ l.length - k ≤ gg ∧ Aside0 (Apt l k) ∧ Aside0 (Kd.R k44 44 wr base ok (.slice (some ⟨b, 0, none⟩) l.length c) l) ∧ Aside0 (w.grownBy wr (some b)))
    case atStart => exact ⟨1, rfl, by omega, by omega, by omega, ⟨fun i x y hi => by omega⟩, HO, ⟨World.grownBy.refl _ _⟩⟩
    case round =>
      clear HO
      obtain ⟨k, rfl, hk1, hkl, hgg, HI, HO, HG⟩ := hrel
      by_cases hlt : k < l.length
      · have hltz : (k : Int) < (l.length : Int) := by omega
        obtain ⟨y, hy⟩ := at_some hlt
        obtain ⟨x, hx⟩ := at_some (l := l) (k := k - 1) (by omega)
        obtain ⟨-, -, hC⟩ := Kd.R_reads' HO.out
        have hyc := at_Fact hC hy
        have hxc := at_Fact hC hx
        have hyx := eq_bare HBARE.out hy hx
        have HY := Aside0.mk hy
        have HX := Aside0.mk hx
        clear hy hx hC
        obtain ⟨ad, A1, c1, e1, hx0, hx1, l1, g1⟩ := hyc
        cases e1
        obtain ⟨iad, iA1, ic1, ie1, ihx0, ihx1, il1, ig1⟩ := hxc
        cases ie1
        simp only [add_plain] at hx0 hx1 ihx0 ihx1
        have hw : IntKind.i64.wrap ((k : Int) - 1) = ((k - 1 : Nat) : Int) := by rw [i64_w]; unfold wrap64; omega
        have hk3 : (0 : Int) ≤ ((k - 1 : Nat) : Int) := by omega
        have hk4 : ((k - 1 : Nat) : Int) < (l.length : Int) := by omega
        obtain ⟨bb, hbb2⟩ : ∃ bb : Bool, bb = decide (cmpF y x = 0) := ⟨_, rfl⟩
        have HV := Aside0.mk (fun W2 (h : Below wr.heap.size wr W2) => eqFact y x A1 c1 iA1 ic1 bb W2 hbb2 (Kd.C_below g1 h) (Kd.C_below ig1 h))
        replace hx0 := old_grow hx0
        replace hx1 := old_grow hx1
        replace ihx0 := old_grow ihx0
        replace ihx1 := old_grow ihx1
        clear g1 ig1
        by_cases hq : y = x
        · obtain rfl : bb = true := by rw [hbb2]; exact decide_eq_true (hyx.2 hq)
          have HQ := Aside0.mk hq
          clear hq hbb2 hyx
          go_wp2
          go_quiet_grown (first | (go_at_call 36; refine Calls.grown_of (HV.out _ (GrW.below ((GrW.refl _).grow _ _)))))
          have hne : ¬ c = k := by omega
          obtain ⟨i0, hi0, -, hsz0, -⟩ := info_parts info44
          have hcut := cut_from (P := Try.prog) 24 44 .i64 Try.underlying24 hi0 2 hsz0 (some ⟨b, 0, none⟩) l.length c k (by omega) (by omega)
          simp only [Int.toNat_natCast, if_neg hne, Option.map_some, add_plain] at hcut
          have HI2 : Aside0 (CmpIv l (k + 1) k l) := ⟨CmpIv.start HI.out (by omega) HX.out (by rw [HY.out, HQ.out])⟩
          have HO2 := Aside0.mk (Kd.R_below HO.out (GrW.below ((GrW.refl wr).grow nq osq)))
          have HG2 := Aside0.mk (grown_trans HG.out (grown_of_below (GrW.below ((GrW.refl wr).grow nq osq)) (some b)))
          clear HO HG HI HX HY HQ HV hx0 hx1 ihx0 ihx1 hw hi0 hsz0
          go_wp2
          obtain ⟨wo, hwo⟩ : ∃ wo : World, wo = grow (wr.drewN nq) osq := ⟨_, rfl⟩
          rw [← hwo] at HO2 HG2 ⊢
          clear hwo
          go_loopg [5, 7] l.length (fun gg s5 s7 wx => ∃ (kk j : Nat) (ys : List Fact), s5 = .int .i64 kk ∧ s7 = .int .i64 j ∧ 1 ≤ j ∧ k + j ≤ l.length ∧ l.length - (k + j) ≤ gg ∧ kk < k + j ∧ ys.length = l.length ∧ Aside0 (CmpIv l (k + j) kk ys) ∧ Aside0 (Kd.R k44 44 wx base ok (.slice (some ⟨b, 0, none⟩) l.length c) ys) ∧ Aside0 (w.grownBy wx (some b)))
          case atStart => exact ⟨k, 1, l, rfl, rfl, by omega, by omega, by omega, by omega, rfl, HI2, HO2, HG2⟩
          case round =>
            clear HI2 HO2 HG2
            obtain ⟨kk, j, ys, rfl, rfl, hj1, hjl, hgg2, hkk, hyl, HI, HO, HG⟩ := hrel
            by_cases hlt2 : k + j < l.length
            · have hltz2 : (j : Int) < ((l.length - k : Nat) : Int) := by omega
              have hj0 : (0 : Int) ≤ (j : Int) := by omega
              have hj3 : (0 : Int) ≤ ((j - 1 : Nat) : Int) := by omega
              have hj4 : ((j - 1 : Nat) : Int) < ((l.length - k : Nat) : Int) := by omega
              obtain ⟨y, hy⟩ := at_some hlt2
              obtain ⟨x, hx⟩ := at_some (l := l) (k := k + (j - 1)) (by omega)
              obtain ⟨z, hz⟩ := at_some (l := ys) (k := kk) (by omega)
              have hyy := (HI.out.high (k + j) (by omega)).trans hy
              have hxx := (HI.out.high (k + (j - 1)) (by omega)).trans hx
              have hyx := eq_bare HBARE.out hy hx
              have HYY := Aside0.mk hyy
              obtain ⟨-, -, hC⟩ := Kd.R_reads' HO.out
              have hyc := at_Fact hC hyy
              have hxc := at_Fact hC hxx
              have hzc := at_Fact hC hz
              have HY := Aside0.mk hy
              have HX : Aside0 (l[k + j - 1]? = some x) := ⟨by rw [show k + j - 1 = k + (j - 1) by omega]; exact hx⟩
              clear hy hx hC hz hyy hxx
              obtain ⟨ad, A1, c1, e1, hx0, hx1, l1, g1⟩ := hyc
              cases e1
              obtain ⟨iad, iA1, ic1, ie1, ihx0, ihx1, il1, ig1⟩ := hxc
              cases ie1
              obtain ⟨qad, qA1, qc1, qe1, qhx0, qhx1, ql1, qg1⟩ := hzc
              cases qe1
              simp only [add_plain, Nat.add_mul] at hx0 hx1 ihx0 ihx1 qhx0 qhx1
              have hw : IntKind.i64.wrap ((j : Int) - 1) = ((j - 1 : Nat) : Int) := by rw [i64_w]; unfold wrap64; omega
              obtain ⟨bb, hbb2⟩ : ∃ bb : Bool, bb = decide (cmpF y x = 0) := ⟨_, rfl⟩
              have HV := Aside0.mk (fun W2 (h : Below wr.heap.size wr W2) => eqFact y x A1 c1 iA1 ic1 bb W2 hbb2 (Kd.C_below g1 h) (Kd.C_below ig1 h))
              have H0 := Aside0.mk hx0
              have H1 := Aside0.mk hx1
              have Q0 := Aside0.mk qhx0
              have Q1 := Aside0.mk qhx1
              replace hx0 := old_grow hx0
              replace hx1 := old_grow hx1
              replace ihx0 := old_grow ihx0
              replace ihx1 := old_grow ihx1
              clear g1 ig1 qhx0 qhx1
              by_cases hq : y = x
              · obtain rfl : bb = true := by rw [hbb2]; exact decide_eq_true (hyx.2 hq)
                have HQ := Aside0.mk hq
                clear hq hbb2 hyx
                go_wp2
                go_quiet_grown (first | (go_at_call 36; refine Calls.grown_of (HV.out _ (GrW.below ((GrW.refl _).grow _ _)))))
                go_wp2
                go_roundg (l.length - (k + j + 1))
                case measure => omega
                case rel => exact ⟨kk, j + 1, ys, rfl, by go_num, by omega, by omega, by omega, by omega, hyl, ⟨HI.out.skip HX.out (by rw [HY.out, HQ.out])⟩, ⟨Kd.R_below HO.out (GrW.below ((GrW.refl _).grow nq osq))⟩, ⟨grown_trans HG.out (grown_of_below (GrW.below ((GrW.refl _).grow nq osq)) (some b))⟩⟩
              · obtain rfl : bb = false := by rw [hbb2]; exact decide_eq_false (fun e => hq (hyx.1 e))
                have HQ := Aside0.mk hq
                clear hq hbb2 hyx
                go_wp2
                go_quiet_grown (first | (go_at_call 36; refine Calls.grown_of (HV.out _ (GrW.below ((GrW.refl _).grow _ _)))))
                have HW := Aside0.mk ((GrW.refl wr).grow nq osq)
                have HO3 := Aside0.mk (Kd.R_below HO.out HW.out.below)
                have HG3 := Aside0.mk (grown_trans HG.out (grown_of_below HW.out.below (some b)))
                obtain ⟨wo, hwo⟩ : ∃ wo : World, wo = grow (wr.drewN nq) osq := ⟨_, rfl⟩
                rw [← hwo] at HO3 HG3 HW ⊢
                clear hwo hx0 hx1 ihx0 ihx1 HV
                have hx0 := Below.old HW.out.below H0.out
                have hx1 := Below.old HW.out.below H1.out
                have qhx0 := Below.old HW.out.below Q0.out
                have qhx1 := Below.old HW.out.below Q1.out
                obtain ⟨cells, hcells⟩ := R_blk HO3.out
                have f0 := blk_frozen hcells (kk * 2)
                have f1 := blk_frozen hcells (kk * 2 + 1)
                have hkl2 : (kk : Int) < (l.length : Int) := by omega
                have HP := Aside0.mk (R_copy HO3.out (by decide) HYY.out (by omega : kk < ys.length) (cs := [.string y.pred, .slice A1 y.args.length c1]) rfl (two_cells (i := (k + j) * 2) (by rw [Nat.add_mul]; exact hx0) (by rw [Nat.add_mul]; exact hx1)))
                clear hcells
                go_wp2
                go_roundg (l.length - (k + j + 1))
                case measure => omega
                case rel => exact ⟨kk + 1, j + 1, ys.set kk y, by go_num, by go_num, by omega, by omega, by omega, by omega, by simpa using hyl, ⟨HI.out.keep HX.out HY.out (fun e => HQ.out e.symm)⟩, ⟨HP.out.1⟩, ⟨grown_trans HG3.out HP.out.2⟩⟩
            · have hltz2 : ¬ (j : Int) < ((l.length - k : Nat) : Int) := by omega
              have hkl2 : kk ≤ l.length := by omega
              obtain ⟨cells, hcells⟩ := R_blk HO.out
              have hsz := R_size HO.out hcells
              have hsz3 : cells.size = c * 2 := hsz.1
              obtain ⟨vs, hclr⟩ := run_clear_row (P := Try.prog) wr 24 44 0 (.agg #[.string ⟨#[]⟩, .slice none 0 0]) Try.underlying24 (fun w => by kernel_rfl) (by decide) b (kk * 2) (l.length - kk) (c - kk) cells hcells (by rw [hsz3, show (Value.agg #[.string ⟨#[]⟩, .slice none 0 0]).cells.size = 2 from rfl]; omega)
              obtain ⟨cur', h1, h2', h3, h4⟩ := setCells_rowH vs (kk * 2) wr cells hcells
              have HR := Aside0.mk (R_cut HO.out (by omega : kk ≤ ys.length) h4 hcells h1 h2' h3)
              have HG4 := Aside0.mk h4
              have hlow := HI.out.low
              rw [show k + j = l.length by omega, List.take_length] at hlow
              have HL := Aside0.mk hlow
              clear h1 h2' h3 h4 hsz hsz3 hcells hlow
              go_wp2
              go_ret
              exact ⟨_, rfl, by rw [← HL.out]; exact HR.out, grown_trans HG.out HG4.out, rfl⟩
        · obtain rfl : bb = false := by rw [hbb2]; exact decide_eq_false (fun e => hq (hyx.1 e))
          have HQ := Aside0.mk hq
          clear hq hbb2 hyx
          go_wp2
          go_quiet_grown (first | (go_at_call 36; refine Calls.grown_of (HV.out _ (GrW.below ((GrW.refl _).grow _ _)))))
          go_wp2
          go_roundg (l.length - (k + 1))
          case measure => omega
          case rel => exact ⟨k + 1, by go_num, by omega, by omega, by omega, ⟨HI.out.more (by omega) HX.out HY.out (fun e => HQ.out e.symm)⟩, ⟨Kd.R_below HO.out (GrW.below ((GrW.refl _).grow nq osq))⟩, ⟨grown_trans HG.out (grown_of_below (GrW.below ((GrW.refl _).grow nq osq)) (some b))⟩⟩
      · have hltz : ¬ (k : Int) < (l.length : Int) := by omega
        obtain rfl : k = l.length := by omega
        go_wp2
        go_ret
        exact ⟨_, rfl, by have := Apt.dd (Nat.le_refl _) HI.out; rw [List.take_length] at this; rw [this]; exact HO.out, HG.out, rfl⟩
theorem GCompactFact.calls (P0_ : Nat → Prop) (u9000_ : Value) (l0 r : List Fact) (w0 w : World) (hB : Below w0.heap.size w0 w) (ho0 : Kd.R k44 44 w w0.heap.size P0_ u9000_ l0) (h : GCompactFact.f l0 = some r) :
    Calls Try.prog 35 #[u9000_, .func (.func 36) #[] #[]] w fun e w' => ∃ v0_ : Value, e = .returned v0_ ∧ Kd.R k44 44 w' w0.heap.size (fun k_ => (P0_ k_ ∨ w.heap.size ≤ k_)) v0_ r ∧ Below w0.heap.size w0 w' ∧ Kept w w' (fun k_ => P0_ k_) := by
  unfold GCompactFact.f at h
  split at h
  case isFalse => cases h
  rename_i hz
  obtain rfl := Option.some.inj h
  refine (CompactFact w0.heap.size P0_ u9000_ l0 w ho0 hz).mono ?_
  rintro e w' ⟨v, rfl, hR, hg, hv⟩
  exact ⟨v, rfl, Kd.R_mono hR (fun k hk => .inl hk), pw_below_grown hB _ hB.size hg (fun k hk => Kd.R_base ho0 k hk), ⟨hg.size, fun i hi hn => hg.block i hi (fun e => hn (ho0.1 i e.symm))⟩⟩
end Go.Proofs.Ytoekfmdcplphmaa.H
/- slices.SortFunc at facts, with join.Compare -/
namespace Go.Proofs.Ytoekfmdcplphmaa.H
open Go.RowKit Go.Sort Go.Shelf Go.Proofs.YtoekfmdcplphmaaW.PrintWords Go.Proofs.YtoekfmdcplphmaaW.PrintLast Go.Proofs.YtoekfmdcplphmaaW.PrintMore
def GSortFact.f (l : List Fact) : Option (List Fact) := if l.length < 4611686018427387904 ∧ bareL l = true then some (sortF l) else none
theorem joinCmpK (W : World) (x y : Fact) (cx cy : List Value) (hx : k44.K W x cx) (hy : k44.K W y cy) :
    Calls Try.prog 23 #[.agg cx.toArray, .agg cy.toArray] W fun e w' => e = .returned (.int .i64 (cmpF x y)) ∧ ∃ q os', w' = grow (W.drewN q) os' := by
  obtain ⟨A0, c0, rfl, l0, g0⟩ := k44_open hx
  obtain ⟨A1, c1, rfl, l1, g1⟩ := k44_open hy
  exact joinCmp x y A0 c0 A1 c1 W g0 g1
theorem GSortFact.calls (P0_ : Nat → Prop) (u9000_ : Value) (l0 r : List Fact) (w0 w : World) (hB : Below w0.heap.size w0 w) (ho0 : Kd.R k44 44 w w0.heap.size P0_ u9000_ l0) (h : GSortFact.f l0 = some r) :
    Calls Try.prog 34 #[u9000_, .func (.func 23) #[] #[]] w fun e w' => e = .returned (.tuple #[]) ∧ Kd.R k44 44 w' w0.heap.size (fun k_ => (P0_ k_ ∨ w.heap.size ≤ k_)) u9000_ r ∧ Below w0.heap.size w0 w' ∧ Kept w w' (fun k_ => P0_ k_) := by
  unfold GSortFact.f at h
  split at h
  case isFalse => cases h
  rename_i hz
  obtain rfl := Option.some.inj h
  have hO : ∀ x y : Fact, cmpF y x = - cmpF x y := ordF.anti
  refine (rowSort (d := k44) Try.laysSlF06_f34 (fun w => by kernel_rfl) (fun w => by kernel_rfl) (by decide) 44 w0.heap.size P0_ u9000_ l0 w ho0 hz.1 cmpF
    (fun x _ => by have := ordF.self x; omega) (fun x _ y _ z _ h1 h2 => ordF.lt' h1 (by omega)) (fun x _ y _ z _ h1 h2 h3 => by
      have a := hO x y
      have b := hO y z
      have d := ordF.le z y x (by omega) (by omega)
      have e := hO x z
      omega) 23 (fun args w => enters_ Try.func23 (by kernel_rfl) rfl args w) (fun W x y cx cy _ _ _ hx hy => joinCmpK W x y cx cy hx hy)).mono ?_
  rintro e w' ⟨rfl, l', hR, hp, hs, hg⟩
  obtain rfl := sortF_eq hz.2 hp hs
  exact ⟨rfl, Kd.R_mono hR (fun k hk => .inl hk), pw_below_grown hB _ hB.size hg (fun k hk => Kd.R_base ho0 k hk), ⟨hg.size, fun i hi hn => hg.block i hi (fun e => hn (ho0.1 i e.symm))⟩⟩
end Go.Proofs.Ytoekfmdcplphmaa.H
namespace Go.Proofs.Ytoekfmdcplphmaa.H
open Go.RowKit Go.Proofs.YtoekfmdcplphmaaW.PrintWords Go.Proofs.YtoekfmdcplphmaaW.PrintLast Go.Proofs.YtoekfmdcplphmaaW.PrintMore
attribute [local go_sem] max2_int min2_int max_two min_two max_three min_three max_four min_four
def join_Sort.l0 : Nat → List (Fact) → List (Fact) → Int → Int → Option ((List (Fact)))
 | 0, _, _, _, _ => none
 | k + 1, x3, x6, x7, x8 => if x8 < x7 then (if 0 ≤ x8 then (if x8 < (x6.length : Int) then ((tuple_Of.f k ((rd_T44 x6 x8).args)).bind fun t103 => (if x3.length < 3518437208883 then (join_Sort.l0 k (x3 ++ [(⟨(rd_T44 x6 x8).pred, t103⟩ : Fact)]) x6 x7 (wrap64 (x8 + 1))) else (none))) else (none)) else (none)) else ((GSortFact.f x3).bind fun t109 => ((GCompactFact.f t109).bind fun t110 => (some t110)))
def join_Sort.f (k : Nat) (l0 : List (Fact)) : Option ((List (Fact))) := join_Sort.l0 k ([] : List (Fact)) l0 (l0.length : Int) 0
theorem join_Sort.mono_l : ∀ k, (∀ y0 y1 y2 y3, LeO (join_Sort.l0 k y0 y1 y2 y3) (join_Sort.l0 (k + 1) y0 y1 y2 y3))
 | 0 => fun _ _ _ _ r h => by simp [join_Sort.l0] at h
 | k + 1 => by
  have ih0 := join_Sort.mono_l k
  ·intro y0 y1 y2 y3
   unfold join_Sort.l0
   repeat' first
   | (with_reducible exact ih0 _ _ _ _)
   | (with_reducible exact tuple_Of.mono _ _)
   | (with_reducible exact LeO.refl _)
   | (with_reducible exact LeO.none _)
   | (with_reducible refine LeO.ite ?_ ?_)
   | (with_reducible refine LeO.bind ?_ (fun _ => ?_))
   | exact ih0 _ _ _ _
   | exact tuple_Of.mono _ _
   | exact LeO.none _
   | refine LeO.ite ?_ ?_
   | refine LeO.bind ?_ (fun _ => ?_)
theorem join_Sort.mono : ∀ a0 k, LeO (join_Sort.f k a0) (join_Sort.f (k + 1) a0) := by
 intro a0 k
 have ih0 := join_Sort.mono_l k
 unfold join_Sort.f
 repeat' first
   | (with_reducible exact ih0 _ _ _ _)
   | (with_reducible exact tuple_Of.mono _ _)
   | (with_reducible exact LeO.refl _)
   | (with_reducible exact LeO.none _)
   | (with_reducible refine LeO.ite ?_ ?_)
   | (with_reducible refine LeO.bind ?_ (fun _ => ?_))
   | exact ih0 _ _ _ _
   | exact tuple_Of.mono _ _
   | exact LeO.none _
   | refine LeO.ite ?_ ?_
   | refine LeO.bind ?_ (fun _ => ?_)
def join_Sort.T5 : Bool × List (List Nat × List Nat) := (true, [([], []), ([], []), ([1], [1]), ([], []), ([3], [3]), ([4], [4]), ([2, 5], [2, 5]), ([6], [6]), ([0, 7, 5], [0, 7]), ([8, 8, 0, 1, 2, 3, 4, 5, 6, 7, 8], [0, 8])])
def join_Sort.B5 : List Nat := [0, 0, 2, 0, 8, 24, 62, 126, 255, 511]
theorem join_Sort.tab5 : rtab .any (opsOf Try.f19 5) = join_Sort.T5 := by kernel_rfl
theorem join_Sort.bits5 : waitsOk join_Sort.T5.2 join_Sort.B5 = true := by kernel_rfl
set_option maxHeartbeats 8000000 in
set_option maxRecDepth 100000 in
theorem join_Sort.calls (k : Nat) (A0 : Option Addr) (c0 : Nat) (l0 : List (Fact)) (r : List (Fact)) (w : World) (hr0 : Kd.C k44 w A0 l0.length l0) (hc0 : l0.length ≤ c0) (h : join_Sort.f k l0 = some r) :
  Calls Try.prog 19 #[.slice A0 l0.length c0] w fun e w' => ∃ v0_ : Value, e = .returned (v0_) ∧ Kd.R k44 44 w' w.heap.size (fun _ => True) v0_ r ∧ Below w.heap.size w w' := by
 have hu44 := Try.underlying44
 have HR0 := Aside0.mk hr0
 have HC0 := Aside0.mk hc0
 clear hr0 hc0
 have HB := Aside0.mk (Below.refl w.heap.size w)
 have H : (join_Sort.l0 k ([] : List (Fact)) l0 (l0.length : Int) 0) = some r := h
 clear h
 have H' := Aside0.mk H
 clear H
 go_enter Try.func19, Try.ntmps19
 go_wp2
 go_loopg [3, 8] k (fun kq v3 v8 w' => ∃ (x3_1 : List (Fact)) (x8_1 : Int), v8 = .int .i64 x8_1 ∧ Aside0 (join_Sort.l0 kq x3_1 l0 (l0.length : Int) x8_1 = some r) ∧ Aside0 (kq ≤ k) ∧ Aside0 (Kd.R k44 44 w' w.heap.size (fun _ => True) v3 x3_1) ∧ Aside0 (Below w.heap.size w w'))
 case atStart => exact ⟨(([] : List (Fact))), (0), (by first | rfl | (simp; done) | (simp [*]; done)), H', ⟨Nat.le_refl _⟩, ⟨by first | exact Kd.R_nil _ _ _ _ _ | exact Kd.N_nil _ _ _ _ _ | exact Kd.V_nil _ _ _ _ _ | exact Kd.Q_nil _ _ _ _ _ | exact Kd.S_nil _ _ _ _ _⟩, ⟨by repeat (first | (with_reducible first | exact HB.out | apply below_alloc | apply pw_below_drewN | apply below_drew1) | exact HB.out)⟩⟩
 case round =>
  clear H'
  try clear c1
  obtain ⟨x3_1, x8_1, rfl, HA, HK1, HO_3, HB⟩ := hrel
  cases gk with
  | zero => exact absurd HA.out (by simp [join_Sort.l0])
  | succ k1 =>
   have H := HA.out
   clear HA
   simp only [join_Sort.l0] at H
   by_cases c2 : x8_1 < (l0.length : Int)
   ·rw [if_pos c2] at H
    have c2b0 : decide (x8_1 < (l0.length : Int)) = true := decide_eq_true c2
    clear c2
    by_cases c3 : 0 ≤ x8_1
    ·rw [if_pos c3] at H
     have c3b0 : decide (0 ≤ x8_1) = true := decide_eq_true c3
     clear c3
     by_cases c4 : x8_1 < (l0.length : Int)
     ·rw [if_pos c4] at H
      have c4b0 : decide (x8_1 < (l0.length : Int)) = true := decide_eq_true c4
      clear c4
      replace H := Option.bind_eq_some_iff.mp H
      obtain ⟨t103, A50, H⟩ := H
      replace H : (if x3_1.length < 3518437208883 then (join_Sort.l0 k1 (x3_1 ++ [(⟨(rd_T44 l0 x8_1).pred, t103⟩ : Fact)]) l0 (l0.length : Int) (wrap64 (x8_1 + 1))) else (none)) = some r := H
      have A5 := Aside0.mk A50
      clear A50
      by_cases c6 : x3_1.length < 3518437208883
      ·rw [if_pos c6] at H
       have LMc6 := Aside0.mk c6
       clear c6
       obtain ⟨y106, hy106⟩ : ∃ y_ : List (Fact), y_ = (x3_1 ++ [(⟨(rd_T44 l0 x8_1).pred, t103⟩ : Fact)]) := ⟨_, rfl⟩
       replace H : (join_Sort.l0 k1 y106 l0 (l0.length : Int) (wrap64 (x8_1 + 1))) = some r := by first | (rw [hy106]; with_reducible exact H) | (have H2_ := (Option.bind_some _ _).symm.trans H; rw [hy106]; with_reducible exact H2_) | (have H2_ := (Option.bind_some _ _).symm.trans H; with_reducible exact H2_) | with_reducible exact H | (rw [hy106]; exact H) | exact H
       have Ny106 := Aside0.mk hy106
       clear hy106
       have H' := Aside0.mk H
       clear H
       have p101 : 0 ≤ (x8_1 : Int) := of_decide_eq_true (by first | (with_reducible assumption) | assumption)
       have q101 : x8_1 < (l0.length : Int) := of_decide_eq_true (by first | (with_reducible assumption) | assumption)
       obtain ⟨ad101, A101_1, c101_1, e101, hx101_0, hx101_1, hl101_1, hi101_1⟩ := at_T44 HR0.out x8_1 p101 q101
       cases e101
       replace hx101_0 := (HB.out.cell (blt_ hx101_0)).trans hx101_0
       replace hx101_1 := (HB.out.cell (blt_ hx101_1)).trans hx101_1
       have HR101_1 := Aside0.mk hi101_1
       have HC101_1 := Aside0.mk hl101_1
       clear hi101_1 hl101_1
       replace p101 := eq_true p101
       replace q101 := eq_true q101
       try go_wp2_with (first | ((with_reducible refine gate_dst (N := 5) rfl ?_); refine box_event ?hg (N := 5) ?hd (cs := #[.string (⟨#[]⟩ : ByteArray), .slice none 0 0]) (t := 44) ?hr ?_; (case hd => rfl); (case hg => rfl); (case hr => first | (go_simp; done) | (go_simp; rfl)); intro gb102 hg w7 hbox hb; have n0_ := Aside0.mk (Kd.R_below (Kd.R_elderB (by (with_reducible repeat (first | apply Kd.R_alloc | apply Kd.R_drewN | apply Kd.R_drew)); exact HO_3.out) gb102 (Nat.le_of_eq hg.symm)) hb); have n1_ := Aside0.mk (below_step (by repeat (first | (with_reducible first | exact HB.out | apply below_alloc | apply pw_below_drewN | apply below_drew1) | exact HB.out)) hb); have n2_ := Aside0.mk (hbox); have n3_ := Aside0.mk ((by rw [hg]; exact (below_size (by repeat (first | (with_reducible first | exact HB.out | apply below_alloc | apply pw_below_drewN | apply below_drew1) | exact HB.out))) : w.heap.size ≤ gb102)); have n4_ := Aside0.mk ((by rw [hg]; exact (below_size (by repeat (first | (with_reducible first | exact HB.out | apply below_alloc | apply pw_below_drewN | apply below_drew1) | exact HB.out))) : w.heap.size ≤ gb102)); clear HO_3; clear HB; have HO_3 := n0_; have HB := n1_; have BK102 := n2_; have GW102 := n3_; have GE102 := n4_; clear n0_ n1_ n2_ n3_ n4_; clear hb hbox hg; have hcz8_0 : w7.cell? ⟨gb102, 0, none⟩ = some (.string (⟨#[]⟩ : ByteArray)) := (blk_cell BK102.out 0).trans rfl; have hcz8_1 : w7.cell? ⟨gb102, 1, none⟩ = some (.slice none 0 0) := (blk_cell BK102.out 1).trans rfl; have hfz8_0 := blk_frozen BK102.out 0; have hfz8_1 := blk_frozen BK102.out 1))
       have n0_ : Aside0 (Kd.R k44 44 ((w7.setCell ⟨gb102, 0, none⟩ (.string ((rd_T44 l0 x8_1).pred))).setCell ⟨gb102, 1, none⟩ (.slice A101_1 ((rd_T44 l0 x8_1).args).length c101_1)) w.heap.size (fun k_ => k_ ≠ gb102) u3 x3_1) := ⟨by (with_reducible repeat (first | apply Kd.R_alloc | apply Kd.R_drewN | apply Kd.R_drew)); exact Kd.R_mono (Kd.R_far (p := ⟨gb102, 1, none⟩) (Kd.R_far (p := ⟨gb102, 0, none⟩) (Kd.R_mono HO_3.out (fun k_ hk => (⟨hk, hk.2⟩ : _ ∧ k_ ≠ gb102))) (fun _ hk => hk.2) _) (fun _ hk => hk.2) _) (fun _ hk => hk.1.2)⟩
       have n1_ : Aside0 (((w7.setCell ⟨gb102, 0, none⟩ (.string ((rd_T44 l0 x8_1).pred))).setCell ⟨gb102, 1, none⟩ (.slice A101_1 ((rd_T44 l0 x8_1).args).length c101_1)).heap[gb102]? = some (.cells #[.string ((rd_T44 l0 x8_1).pred), .slice A101_1 ((rd_T44 l0 x8_1).args).length c101_1] 44 (0, 0))) := ⟨by (with_reducible repeat (first | refine blk_drewN ?_ _ | refine blk_drew ?_ | refine blk_alloc ?_ _)); refine blk_put (cs := #[.string ((rd_T44 l0 x8_1).pred), .slice none 0 0]) ?_ 1 _ rfl; (with_reducible repeat (first | refine blk_drewN ?_ _ | refine blk_drew ?_ | refine blk_alloc ?_ _)); refine blk_put (cs := #[.string (⟨#[]⟩ : ByteArray), .slice none 0 0]) ?_ 0 _ rfl; (with_reducible repeat (first | refine blk_drewN ?_ _ | refine blk_drew ?_ | refine blk_alloc ?_ _)); exact BK102.out⟩
       have n2_ : Aside0 (Below w.heap.size w ((w7.setCell ⟨gb102, 0, none⟩ (.string ((rd_T44 l0 x8_1).pred))).setCell ⟨gb102, 1, none⟩ (.slice A101_1 ((rd_T44 l0 x8_1).args).length c101_1))) := ⟨by repeat (first | (with_reducible first | exact HB.out | apply below_alloc | apply pw_below_drewN | apply below_drew1 | refine below_set ?_ GE102.out) | exact HB.out)⟩
       (try clear HO_3)
       (try clear BK102)
       (try clear HB)
       generalize ((w7.setCell ⟨gb102, 0, none⟩ (.string ((rd_T44 l0 x8_1).pred))).setCell ⟨gb102, 1, none⟩ (.slice A101_1 ((rd_T44 l0 x8_1).args).length c101_1)) = w9 at n0_ n1_ n2_ ⊢
       have HO_3 := n0_
       have BK102 := n1_
       have HB := n2_
       clear n0_ n1_ n2_
       have n0_ := Aside0.mk (Kd.R_drew HO_3.out)
       have n1_ := Aside0.mk (blk_drew BK102.out)
       have n2_ := Aside0.mk (below_drew1 HB.out)
       clear HO_3
       clear BK102
       clear HB
       have HO_3 := n0_
       have BK102 := n1_
       have HB := n2_
       clear n0_ n1_ n2_
       refine start_ (n := 10) (S := fun w' => w'.cell? ⟨gb102, 0, none⟩ = some (.string ((rd_T44 l0 x8_1).pred)) ∧ w'.cell? ⟨gb102, 1, none⟩ = some (.slice A101_1 ((rd_T44 l0 x8_1).args).length c101_1)) (ds := []) #[false, false, false, false, false, false, false, false, false, false] (by kernel_rfl) rfl rfl ⟨(blk_cell BK102.out 0).trans rfl, (blk_cell BK102.out 1).trans rfl⟩ (fun hHeld => ?_); refine with_tabW join_Sort.tab5 join_Sort.bits5 (fun HT_ HW_ => ?_)
       generalize w9.drew = w10 at HO_3 BK102 HB hHeld ⊢
       refine pure_ (i := 0) (N := some 12) (v := ?_) (a' := ?_) #[true, false, false, false, false, false, false, false, false, false] rfl rfl (any_of HT_.out (by kernel_rfl)) (fun _ _ _ h => h) (Or.inl ⟨by rfl, ?_⟩) ?_ ?_
       rotate_left
       ·intro w'
        go_simp
        with_reducible rfl
       rotate_left
       ·simp only [Act.put, List.setIfInBounds_toArray, List.set_cons_zero, List.set_cons_succ, i64_w, i32_w]
        rfl
       refine pure_ (i := 1) (N := some 13) (v := ?_) (a' := ?_) #[true, true, false, false, false, false, false, false, false, false] rfl rfl (any_of HT_.out (by kernel_rfl)) (fun _ _ _ h => h) (Or.inl ⟨by rfl, ?_⟩) ?_ ?_
       rotate_left
       ·intro w'
        go_simp
        with_reducible rfl
       rotate_left
       ·simp only [Act.put, List.setIfInBounds_toArray, List.set_cons_zero, List.set_cons_succ, i64_w, i32_w]
        rfl
       refine pure_ (i := 3) (N := some 15) (v := ?_) (a' := ?_) #[true, true, false, true, false, false, false, false, false, false] rfl rfl (any_of HT_.out (by kernel_rfl)) (fun _ _ _ h => h) (Or.inl ⟨by rfl, ?_⟩) ?_ ?_
       rotate_left
       ·intro w'
        go_simp
        with_reducible rfl
       rotate_left
       ·simp only [Act.put, List.setIfInBounds_toArray, List.set_cons_zero, List.set_cons_succ, i64_w, i32_w]
        rfl
       refine take_ (i := 2) (N := some 14) (v := ?_) (a' := ?_) #[true, true, true, true, false, false, false, false, false, false] rfl rfl (take_ofW HT_.out HW_.out (by kernel_rfl)) (fun _ _ _ h => h) (Or.inl ⟨by rfl, ?_⟩) hHeld ?_ ?_
       rotate_left
       ·rintro w' ⟨s0, s1⟩
        go_simp
        with_reducible rfl
       rotate_left
       ·simp only [Act.put, List.setIfInBounds_toArray, List.set_cons_zero, List.set_cons_succ, i64_w, i32_w]
        rfl
       refine take_ (i := 4) (N := some 16) (v := ?_) (a' := ?_) #[true, true, true, true, true, false, false, false, false, false] rfl rfl (take_ofW HT_.out HW_.out (by kernel_rfl)) (fun _ _ _ h => h) (Or.inl ⟨by rfl, ?_⟩) hHeld ?_ ?_
       rotate_left
       ·rintro w' ⟨s0, s1⟩
        go_simp
        with_reducible rfl
       rotate_left
       ·simp only [Act.put, List.setIfInBounds_toArray, List.set_cons_zero, List.set_cons_succ, i64_w, i32_w]
        rfl
       refine one_ (i := 5) (N := some 17) #[true, true, true, true, true, true, false, false, false, false] rfl rfl (one_of HT_.out (by kernel_rfl)) (by decide) (fun K hK => ?_)
       refine goes_ Try.func33 (by kernel_rfl) rfl #[.slice A101_1 ((rd_T44 l0 x8_1).args).length c101_1] (by rfl) rfl rfl (by (try simp only [List.map_toArray, List.map_cons, List.map_nil]); first | done | rfl | (simp only [List.length_drop, List.length_take]; rfl)) ?_
       with_reducible refine (tuple_Of.calls k1 _ _ ((rd_T44 l0 x8_1).args) t103 _ ?side1 ?side2 A5.out).mono ?_
       (case side1 => repeat (first | exact (Kd.C_below HR101_1.out HB.out) | (with_reducible refine Kd.C_alloc ?_ _) | (with_reducible refine Kd.C_drewN ?_ _) | (with_reducible refine Kd.C_drew ?_)))
       (case side2 => exact HC101_1.out)
       rintro e w11 ⟨v104, rfl, ho0, hb⟩
       refine ⟨_, rfl, ?_⟩
       have n0_ := Aside0.mk (Kd.R_elder' (by (with_reducible repeat (first | apply Kd.R_alloc | apply Kd.R_drewN | apply Kd.R_drew)); exact HO_3.out) (Kd.R_base ho0) hb)
       have n1_ := Aside0.mk (Kd.R_lower ho0 (below_size (by repeat (first | (with_reducible first | exact HB.out | apply below_alloc | apply pw_below_drewN | apply below_drew1 | refine below_set ?_ GE102.out) | exact HB.out))))
       have n2_ := Aside0.mk (blk_below (g := gb102) (o := .cells #[.string ((rd_T44 l0 x8_1).pred), .slice A101_1 ((rd_T44 l0 x8_1).args).length c101_1] 44 (0, 0)) (by (with_reducible repeat (first | refine blk_drewN ?_ _ | refine blk_drew ?_ | refine blk_alloc ?_ _)); exact BK102.out) hb)
       have n3_ := Aside0.mk (below_step (by repeat (first | (with_reducible first | exact HB.out | apply below_alloc | apply pw_below_drewN | apply below_drew1 | refine below_set ?_ GE102.out) | exact HB.out)) hb)
       clear HO_3
       clear BK102
       clear HB
       have HO_3 := n0_
       have HO105 := n1_
       have BK102 := n2_
       have HB := n3_
       clear n0_ n1_ n2_ n3_
       (try clear hb)
       (try clear hb2)
       (try clear hk)
       (try clear hi)
       (try clear ho0)
       obtain ⟨Ao12, co12, eo12⟩ := Kd.R_slice HO105.out
       (first | subst eo12 | (injection eo12 with f1_ f2_ f3_; have f4_ := f1_.symm; have f5_ := f3_.symm; clear f1_ f2_ f3_; subst f4_; subst f5_))
       refine hK.out _ _ ⟨(blk_cell BK102.out 0).trans rfl, (blk_cell BK102.out 1).trans rfl⟩ (fun hHeld => ?_)
       clear hK K
       refine norm_ (a' := ?_) ?_ ?_
       rotate_left
       ·show Act.put _ (some 17) _ = _
        simp only [Act.put, List.setIfInBounds_toArray, List.set_cons_zero, List.set_cons_succ, i64_w, i32_w]
        rfl
       refine pure_ (i := 6) (N := some 18) (v := ?_) (a' := ?_) #[true, true, true, true, true, true, true, false, false, false] rfl rfl (any_of HT_.out (by kernel_rfl)) (fun _ _ _ h => h) (Or.inl ⟨by rfl, ?_⟩) ?_ ?_
       rotate_left
       ·intro w'
        go_simp
        with_reducible rfl
       rotate_left
       ·simp only [Act.put, List.setIfInBounds_toArray, List.set_cons_zero, List.set_cons_succ, i64_w, i32_w]
        rfl
       refine one_ (i := 7) (N := some 19) #[true, true, true, true, true, true, true, true, false, false] rfl rfl (one_of HT_.out (by kernel_rfl)) (by decide) (fun K hK => ?_)
       refine value_ (w1 := ?_) (v := ?_) (by rfl) rfl ?_ ?_
       rotate_left 2
       ·go_simp
        constructor
        ·rfl
        ·rfl
       refine hK.out _ _ ⟨(blk_cell (blk_alloc BK102.out _) 0).trans rfl, (blk_cell (blk_alloc BK102.out _) 1).trans rfl⟩ (fun hHeld => ?_)
       clear hK K
       refine norm_ (a' := ?_) ?_ ?_
       rotate_left
       ·show Act.put _ (some 19) _ = _
        simp only [Act.put, List.setIfInBounds_toArray, List.set_cons_zero, List.set_cons_succ, i64_w, i32_w]
        rfl
       refine one_ (i := 8) (N := some 20) #[true, true, true, true, true, true, true, true, true, false] rfl rfl (one_of HT_.out (by kernel_rfl)) (by decide) (fun K hK => ?_)
       refine Kd.R_append_step k44 (w0 := w) w.heap.size (by rfl) (.tmp 12) (.tmp 19) 24 44 (.agg #[(.string ⟨#[]⟩), (.slice none 0 0)]) 40 rfl Try.underlying24 info44 rfl (by decide) (by omega) u3 x3_1 (⟨(rd_T44 l0 x8_1).pred, t103⟩ : Fact) [.string ((rd_T44 l0 x8_1).pred), .slice Ao12 t103.length co12] (fun k_ => k_ ≠ gb102) (fun k_ => ((fun k_ => k_ ≠ gb102)) k_ ∧ some k_ ≠ (u3 : Value).ownBlock) rfl rfl ?aP (fun _ hk => hk) ?aF ?aO ?aB ?aS ?aL ?_
       (case aP => exact k44_mkM _ _ _ (⟨(rd_T44 l0 x8_1).pred, t103⟩ : Fact) (Kd.R_mono (Kd.R_types (Kd.R_apart' (HO105.out) (Kd.R_typed HO_3.out) (by decide)) BK102.out (by decide)) (fun k_ hk => ⟨hk.2, hk.1.2⟩)))
       (case aB => exact (by repeat (first | (with_reducible first | exact HB.out | apply below_alloc | apply pw_below_drewN | apply below_drew1 | refine below_set ?_ GE102.out) | exact HB.out)))
       (case aF => exact (fun k_ hk => Kd.freshB (g := gb102) (o := .cells #[.string ((rd_T44 l0 x8_1).pred), .slice A101_1 ((rd_T44 l0 x8_1).args).length c101_1] 44 (0, 0)) (by (with_reducible repeat (first | refine blk_drewN ?_ _ | refine blk_drew ?_ | refine blk_alloc ?_ _)); exact BK102.out) k_ hk))
       (case aO => exact (by (with_reducible repeat (first | apply Kd.R_alloc | apply Kd.R_drewN | apply Kd.R_drew)); exact Kd.R_mono HO_3.out (fun _ hk => hk.1)))
       (case aS => exact (below_size (by repeat (first | (with_reducible first | exact HB.out | apply below_alloc | apply pw_below_drewN | apply below_drew1 | refine below_set ?_ GE102.out) | exact HB.out))))
       (case aL => have := LMc6.out; omega)
       intro v107 w13 ho hb hg hat
       rw [← Ny106.out] at ho
       have n0_ := Aside0.mk (blk_grown (g := gb102) (o := .cells #[.string ((rd_T44 l0 x8_1).pred), .slice A101_1 ((rd_T44 l0 x8_1).args).length c101_1] 44 (0, 0)) (by (with_reducible repeat (first | refine blk_drewN ?_ _ | refine blk_drew ?_ | refine blk_alloc ?_ _)); exact BK102.out) hg (Kd.R_away HO_3.out (fun _ hk => hk.1)))
       have n1_ := Aside0.mk (hb)
       have n2_ := Aside0.mk (ho)
       clear BK102
       clear HB
       clear HO_3
       clear HO105
       have BK102 := n0_
       have HB := n1_
       have HO108 := n2_
       clear n0_ n1_ n2_
       clear ho hb hg hat
       refine hK.out _ _ ⟨(blk_cell BK102.out 0).trans rfl, (blk_cell BK102.out 1).trans rfl⟩ (fun hHeld => ?_)
       clear hK K
       refine norm_ (a' := ?_) ?_ ?_
       rotate_left
       ·show Act.put _ (some 20) _ = _
        simp only [Act.put, List.setIfInBounds_toArray, List.set_cons_zero, List.set_cons_succ, i64_w, i32_w]
        rfl
       refine pure_ (i := 9) (N := some 3) (v := ?_) (a' := ?_) #[true, true, true, true, true, true, true, true, true, true] rfl rfl (any_of HT_.out (by kernel_rfl)) (fun _ _ _ h => h) (Or.inl ⟨by rfl, ?_⟩) ?_ ?_
       rotate_left
       ·intro w'
        go_simp
        with_reducible rfl
       rotate_left
       ·simp only [Act.put, List.setIfInBounds_toArray, List.set_cons_zero, List.set_cons_succ, i64_w, i32_w]
        rfl
       refine done_ (done_of HT_.out (by kernel_rfl)) ?_
       try go_wp2
       go_roundg k1
       case measure => have := HK1.out; omega
       case rel => exact ⟨(y106), (wrap64 (x8_1 + 1)), (by first | rfl | (simp; done) | (simp [*]; done)), H', ⟨by have := HK1.out; omega⟩, ⟨by (with_reducible repeat (first | apply Kd.R_alloc | apply Kd.R_drewN | apply Kd.R_drew)); exact Kd.R_mono HO108.out (fun _ hk => trivial)⟩, ⟨by repeat (first | (with_reducible first | exact HB.out | apply below_alloc | apply pw_below_drewN | apply below_drew1 | refine below_set ?_ GE102.out) | exact HB.out)⟩⟩
      ·rw [if_neg c6] at H
       exact absurd H (by simp)
     ·rw [if_neg c4] at H
      exact absurd H (by simp)
    ·rw [if_neg c3] at H
     exact absurd H (by simp)
   ·rw [if_neg c2] at H
    have c2b0 : decide (x8_1 < (l0.length : Int)) = false := decide_eq_false c2
    clear c2
    replace H := Option.bind_eq_some_iff.mp H
    obtain ⟨t109, A140, H⟩ := H
    replace H : ((GCompactFact.f t109).bind fun t110 => (some t110)) = some r := H
    have A14 := Aside0.mk A140
    clear A140
    replace H := Option.bind_eq_some_iff.mp H
    obtain ⟨t110, A150, H⟩ := H
    replace H : (some t110) = some r := H
    have A15 := Aside0.mk A150
    clear A150
    obtain rfl := Option.some.inj H
    obtain ⟨Ao16, co16, eo16⟩ := Kd.R_slice HO_3.out
    subst eo16
    go_wp2_with (first | ((with_reducible refine gate_callee (f := 34) rfl ?_); refine goesL_ (some 23) rfl rfl Try.func34 (by kernel_rfl) rfl #[.slice Ao16 x3_1.length co16, .func (.func 23) #[] #[]] rfl (by (try simp only [List.map_toArray, List.map_cons, List.map_nil]); first | done | rfl | (simp only [List.length_drop, List.length_take]; rfl)) ?_; (refine (GSortFact.calls (fun _ => True) (.slice Ao16 x3_1.length co16) x3_1 t109 w _ ?side1 ?side2 A14.out).mono ?_); (case side1 => repeat (first | (with_reducible first | exact HB.out | apply below_alloc | apply pw_below_drewN | apply below_drew1) | exact HB.out)); (case side2 => exact Kd.R_mono HO_3.out (fun _ _ => trivial)); rintro e w17 ⟨rfl, hy0, hb, hkp⟩; refine ⟨_, rfl, ?_⟩; have n0_ := Aside0.mk (Kd.R_mono (ok' := fun _ => True) hy0 (fun _ _ => trivial)); have n1_ := Aside0.mk (hb); clear HO_3; clear HB; have HO_3 := n0_; have HB := n1_; clear n0_ n1_; (try clear hb); (try clear hkp); (try clear hy0)) | ((with_reducible refine gate_callee (f := 35) rfl ?_); refine goesL_ (some 25) rfl rfl Try.func35 (by kernel_rfl) rfl #[.slice Ao16 x3_1.length co16, .func (.func 36) #[] #[]] rfl (by (try simp only [List.map_toArray, List.map_cons, List.map_nil]); first | done | rfl | (simp only [List.length_drop, List.length_take]; rfl)) ?_; (refine (GCompactFact.calls (fun _ => True) (.slice Ao16 x3_1.length co16) t109 t110 w _ ?side1 ?side2 A15.out).mono ?_); (case side1 => repeat (first | (with_reducible first | exact HB.out | apply below_alloc | apply pw_below_drewN | apply below_drew1) | exact HB.out)); (case side2 => exact Kd.R_mono HO_3.out (fun _ _ => trivial)); rintro e w18 ⟨v111, rfl, ho0, hb, hkp⟩; refine ⟨_, rfl, ?_⟩; have n0_ := Aside0.mk (Kd.R_mono (ok' := fun k_ => True) ho0 (fun k_ hk_ => trivial)); have n1_ := Aside0.mk (hb); clear HB; clear HO_3; have HO112 := n0_; have HB := n1_; clear n0_ n1_; (try clear hb); (try clear hkp); (try clear ho0)))
    go_ret
    exact ⟨_, by first | rfl | (simp [errW_none, errW_some] <;> rfl) | (simp [*, errW_none, errW_some] <;> rfl), by (with_reducible repeat (first | apply Kd.R_alloc | apply Kd.R_drewN | apply Kd.R_drew)); exact HO112.out, by repeat (first | (with_reducible first | exact HB.out | apply below_alloc | apply pw_below_drewN | apply below_drew1) | exact HB.out)⟩
def facts_Of.l0 : Nat → List (Stmt) → List (Fact) → Int → Int → Option ((List (Fact)))
 | 0, _, _, _, _ => none
 | k + 1, x0, x3, x6, x7 => if x7 < x6 then ((facts_one.f k x0 x7).bind fun t101 => (if x3.length + t101.length < 3518437208883 then (facts_Of.l0 k x0 (x3 ++ t101) x6 (wrap64 (x7 + 1))) else (none))) else ((join_Sort.f k x3).bind fun t107 => (some t107))
def facts_Of.f (k : Nat) (l0 : List (Stmt)) : Option ((List (Fact))) := facts_Of.l0 k l0 ([] : List (Fact)) (l0.length : Int) 0
theorem facts_Of.mono_l : ∀ k, (∀ y0 y1 y2 y3, LeO (facts_Of.l0 k y0 y1 y2 y3) (facts_Of.l0 (k + 1) y0 y1 y2 y3))
 | 0 => fun _ _ _ _ r h => by simp [facts_Of.l0] at h
 | k + 1 => by
  have ih0 := facts_Of.mono_l k
  ·intro y0 y1 y2 y3
   unfold facts_Of.l0
   repeat' first
   | (with_reducible exact ih0 _ _ _ _)
   | (with_reducible exact facts_one.mono _ _ _)
   | (with_reducible exact join_Sort.mono _ _)
   | (with_reducible exact LeO.refl _)
   | (with_reducible exact LeO.none _)
   | (with_reducible refine LeO.ite ?_ ?_)
   | (with_reducible refine LeO.bind ?_ (fun _ => ?_))
   | exact ih0 _ _ _ _
   | exact facts_one.mono _ _ _
   | exact join_Sort.mono _ _
   | exact LeO.none _
   | refine LeO.ite ?_ ?_
   | refine LeO.bind ?_ (fun _ => ?_)
theorem facts_Of.mono : ∀ a0 k, LeO (facts_Of.f k a0) (facts_Of.f (k + 1) a0) := by
 intro a0 k
 have ih0 := facts_Of.mono_l k
 unfold facts_Of.f
 repeat' first
   | (with_reducible exact ih0 _ _ _ _)
   | (with_reducible exact facts_one.mono _ _ _)
   | (with_reducible exact join_Sort.mono _ _)
   | (with_reducible exact LeO.refl _)
   | (with_reducible exact LeO.none _)
   | (with_reducible refine LeO.ite ?_ ?_)
   | (with_reducible refine LeO.bind ?_ (fun _ => ?_))
   | exact ih0 _ _ _ _
   | exact facts_one.mono _ _ _
   | exact join_Sort.mono _ _
   | exact LeO.none _
   | refine LeO.ite ?_ ?_
   | refine LeO.bind ?_ (fun _ => ?_)
set_option maxHeartbeats 8000000 in
set_option maxRecDepth 100000 in
theorem facts_Of.calls (k : Nat) (A0 : Option Addr) (c0 : Nat) (l0 : List (Stmt)) (r : List (Fact)) (w : World) (hr0 : Kd.C k33 w A0 l0.length l0) (hc0 : l0.length ≤ c0) (h : facts_Of.f k l0 = some r) :
  Calls Try.prog 8 #[.slice A0 l0.length c0] w fun e w' => ∃ v0_ : Value, e = .returned (v0_) ∧ Kd.N k44 44 w' w.heap.size (fun k_ => (w.heap.size ≤ k_)) v0_ r ∧ Below w.heap.size w w' := by
 have HR0 := Aside0.mk hr0
 have HC0 := Aside0.mk hc0
 clear hr0 hc0
 have HB := Aside0.mk (Below.refl w.heap.size w)
 have H : (facts_Of.l0 k l0 ([] : List (Fact)) (l0.length : Int) 0) = some r := h
 clear h
 have H' := Aside0.mk H
 clear H
 go_enter Try.func8, Try.ntmps8
 go_wp2
 go_loopg [3, 7] k (fun kq v3 v7 w' => ∃ (x3_1 : List (Fact)) (x7_1 : Int), v7 = .int .i64 x7_1 ∧ Aside0 (facts_Of.l0 kq l0 x3_1 (l0.length : Int) x7_1 = some r) ∧ Aside0 (kq ≤ k) ∧ Aside0 (Kd.N k44 44 w' w.heap.size (fun k_ => (w.heap.size ≤ k_)) v3 x3_1) ∧ Aside0 (Below w.heap.size w w'))
 case atStart => exact ⟨(([] : List (Fact))), (0), (by first | rfl | (simp; done) | (simp [*]; done)), H', ⟨Nat.le_refl _⟩, ⟨by first | exact Kd.R_nil _ _ _ _ _ | exact Kd.N_nil _ _ _ _ _ | exact Kd.V_nil _ _ _ _ _ | exact Kd.Q_nil _ _ _ _ _ | exact Kd.S_nil _ _ _ _ _⟩, ⟨by repeat (first | (with_reducible first | exact HB.out | apply below_alloc | apply pw_below_drewN | apply below_drew1) | exact HB.out)⟩⟩
 case round =>
  clear H'
  obtain ⟨x3_1, x7_1, rfl, HA, HK1, HO_3, HB⟩ := hrel
  cases gk with
  | zero => exact absurd HA.out (by simp [facts_Of.l0])
  | succ k1 =>
   have H := HA.out
   clear HA
   simp only [facts_Of.l0] at H
   by_cases c2 : x7_1 < (l0.length : Int)
   ·rw [if_pos c2] at H
    have c2b0 : decide (x7_1 < (l0.length : Int)) = true := decide_eq_true c2
    clear c2
    replace H := Option.bind_eq_some_iff.mp H
    obtain ⟨t101, A30, H⟩ := H
    replace H : (if x3_1.length + t101.length < 3518437208883 then (facts_Of.l0 k1 l0 (x3_1 ++ t101) (l0.length : Int) (wrap64 (x7_1 + 1))) else (none)) = some r := H
    have A3 := Aside0.mk A30
    clear A30
    by_cases c4 : x3_1.length + t101.length < 3518437208883
    ·rw [if_pos c4] at H
     have LMc4 := Aside0.mk c4
     clear c4
     obtain ⟨y104, hy104⟩ : ∃ y_ : List (Fact), y_ = (x3_1 ++ t101) := ⟨_, rfl⟩
     replace H : (facts_Of.l0 k1 l0 y104 (l0.length : Int) (wrap64 (x7_1 + 1))) = some r := by first | (rw [hy104]; with_reducible exact H) | (have H2_ := (Option.bind_some _ _).symm.trans H; rw [hy104]; with_reducible exact H2_) | (have H2_ := (Option.bind_some _ _).symm.trans H; with_reducible exact H2_) | with_reducible exact H | (rw [hy104]; exact H) | exact H
     have Ny104 := Aside0.mk hy104
     clear hy104
     have H' := Aside0.mk H
     clear H
     go_wp2_with (first | ((with_reducible refine gate_callee (f := 18) rfl ?_); refine goesL_ (some 13) rfl rfl Try.func18 (by kernel_rfl) rfl #[.slice A0 l0.length c0, .int .i64 x7_1] rfl (by (try simp only [List.map_toArray, List.map_cons, List.map_nil]); first | done | rfl | (simp only [List.length_drop, List.length_take]; rfl)) ?_; (with_reducible refine (facts_one.calls k1 _ _ l0 x7_1 t101 _ ?side1 ?side2 A3.out).mono ?_); (case side1 => repeat (first | exact (Kd.C_below HR0.out HB.out) | (with_reducible refine Kd.C_alloc ?_ _) | (with_reducible refine Kd.C_drewN ?_ _) | (with_reducible refine Kd.C_drew ?_))); (case side2 => exact HC0.out); rintro e w5 ⟨v102, rfl, ho0, hb⟩; refine ⟨_, rfl, ?_⟩; have n0_ := Aside0.mk (Kd.N_elder' (by (with_reducible repeat (first | apply Kd.N_alloc | apply Kd.N_drewN | apply Kd.N_drew)); exact HO_3.out) (by first | exact Kd.N_base ho0 | exact Kd.R_base ho0) hb); have n1_ := Aside0.mk (Kd.N_lower (Kd.N_mono (ok' := fun k_ => (w.heap.size ≤ k_) ∧ some k_ ≠ (u3 : Value).ownBlock) ho0 (fun k_ hk_ => ⟨(Nat.le_trans (below_size (by repeat (first | (with_reducible first | exact HB.out | apply below_alloc | apply pw_below_drewN | apply below_drew1) | exact HB.out))) hk_), (Kd.fresh' (Kd.N_lt (by (with_reducible repeat (first | apply Kd.N_alloc | apply Kd.N_drewN | apply Kd.N_drew)); exact HO_3.out)) k_ hk_)⟩)) (below_size (by repeat (first | (with_reducible first | exact HB.out | apply below_alloc | apply pw_below_drewN | apply below_drew1) | exact HB.out)))); have n2_ := Aside0.mk (below_step (by repeat (first | (with_reducible first | exact HB.out | apply below_alloc | apply pw_below_drewN | apply below_drew1) | exact HB.out)) hb); clear HO_3; clear HB; have HO_3 := n0_; have HO103 := n1_; have HB := n2_; clear n0_ n1_ n2_; (try clear hb); (try clear hb2); (try clear hk); (try clear hi); (try clear ho0); obtain ⟨Ao7, co7, eo7⟩ := Kd.N_slice HO103.out; subst eo7) | ((with_reducible refine gate_builtin (b := .append) (xs := #[.tmp 10, .tmp 13]) rfl ?_); at_builtin; refine Kd.N_append_rows k44 (w0 := w) w.heap.size rfl (.tmp 10) (.tmp 13) 24 44 (.agg #[(.string ⟨#[]⟩), (.slice none 0 0)]) 40 rfl Try.underlying24 info44 rfl (by decide) (by omega) u3 x3_1 t101 _ _ _ (fun k_ => (w.heap.size ≤ k_)) (fun k_ => ((fun k_ => (w.heap.size ≤ k_))) k_ ∧ some k_ ≠ (u3 : Value).ownBlock) rfl rfl ?aO ?aR (fun _ hk => hk) ?aF ?aB ?aS ?aL ?_; (case aR => exact (by skip; exact Kd.N_F (Kd.N_mono (ok' := (fun k_ => ((fun k_ => (w.heap.size ≤ k_))) k_ ∧ some k_ ≠ (u3 : Value).ownBlock)) (HO103.out) (fun k_ hk => ⟨hk.1, hk.2⟩)))); (case aB => exact (by repeat (first | (with_reducible first | exact HB.out | apply below_alloc | apply pw_below_drewN | apply below_drew1) | exact HB.out))); (case aF => exact (fun k_ hk => (Nat.le_trans (below_size (by repeat (first | (with_reducible first | exact HB.out | apply below_alloc | apply pw_below_drewN | apply below_drew1) | exact HB.out))) hk))); (case aO => exact (by (with_reducible repeat (first | apply Kd.N_alloc | apply Kd.N_drewN | apply Kd.N_drew)); exact Kd.N_mono HO_3.out (fun _ hk => hk.1))); (case aS => exact (below_size (by repeat (first | (with_reducible first | exact HB.out | apply below_alloc | apply pw_below_drewN | apply below_drew1) | exact HB.out)))); (case aL => have := LMc4.out; omega); intro v105 w6 ho hb hg hat; rw [← Ny104.out] at ho; have n0_ := Aside0.mk (Kd.N_afterv (ok := (fun k_ => (w.heap.size ≤ k_))) (by (with_reducible repeat (first | apply Kd.N_alloc | apply Kd.N_drewN | apply Kd.N_drew)); exact HO103.out) hg hat); have n1_ := Aside0.mk (hb); have n2_ := Aside0.mk (ho); clear HO103; clear HB; clear HO_3; have HO103 := n0_; have HB := n1_; have HO106 := n2_; clear n0_ n1_ n2_; clear ho hb hg hat))
     go_roundg k1
     case measure => have := HK1.out; omega
     case rel => exact ⟨(y104), (wrap64 (x7_1 + 1)), (by first | rfl | (simp; done) | (simp [*]; done)), H', ⟨by have := HK1.out; omega⟩, ⟨by (with_reducible repeat (first | apply Kd.N_alloc | apply Kd.N_drewN | apply Kd.N_drew)); exact HO106.out⟩, ⟨by repeat (first | (with_reducible first | exact HB.out | apply below_alloc | apply pw_below_drewN | apply below_drew1) | exact HB.out)⟩⟩
    ·rw [if_neg c4] at H
     exact absurd H (by simp)
   ·rw [if_neg c2] at H
    have c2b0 : decide (x7_1 < (l0.length : Int)) = false := decide_eq_false c2
    clear c2
    replace H := Option.bind_eq_some_iff.mp H
    obtain ⟨t107, A80, H⟩ := H
    replace H : (some t107) = some r := H
    have A8 := Aside0.mk A80
    clear A80
    obtain rfl := Option.some.inj H
    obtain ⟨Ao9, co9, eo9⟩ := Kd.N_slice HO_3.out
    subst eo9
    go_wp2_with (first | ((with_reducible refine gate_callee (f := 19) rfl ?_); refine goesL_ (some 17) rfl rfl Try.func19 (by kernel_rfl) rfl #[.slice Ao9 x3_1.length co9] rfl (by (try simp only [List.map_toArray, List.map_cons, List.map_nil]); first | done | rfl | (simp only [List.length_drop, List.length_take]; rfl)) ?_; (with_reducible refine (join_Sort.calls k1 _ _ x3_1 t107 _ ?side1 ?side2 A8.out).mono ?_); (case side1 => repeat (first | exact (Kd.N_reads' HO_3.out).2.2 | (with_reducible refine Kd.C_alloc ?_ _) | (with_reducible refine Kd.C_drewN ?_ _) | (with_reducible refine Kd.C_drew ?_))); (case side2 => exact (Kd.N_reads' HO_3.out).2.1); rintro e w10 ⟨v108, rfl, ho0, hb⟩; refine ⟨_, rfl, ?_⟩; have n0_ := Aside0.mk (Kd.N_elder' (by (with_reducible repeat (first | apply Kd.N_alloc | apply Kd.N_drewN | apply Kd.N_drew)); exact HO_3.out) (by first | exact Kd.N_base ho0 | exact Kd.R_base ho0) hb); have n1_ := Aside0.mk (Kd.N_lower (Kd.N_mono (ok' := fun k_ => (w.heap.size ≤ k_) ∧ some k_ ≠ (.slice Ao9 x3_1.length co9 : Value).ownBlock) (Kd.R_N (Kd.R_bound ho0)) (fun k_ hk_ => ⟨(Nat.le_trans (below_size (by repeat (first | (with_reducible first | exact HB.out | apply below_alloc | apply pw_below_drewN | apply below_drew1) | exact HB.out))) hk_.2.1), (Kd.fresh' (Kd.N_lt (by (with_reducible repeat (first | apply Kd.N_alloc | apply Kd.N_drewN | apply Kd.N_drew)); exact HO_3.out)) k_ hk_.2.1)⟩)) (below_size (by repeat (first | (with_reducible first | exact HB.out | apply below_alloc | apply pw_below_drewN | apply below_drew1) | exact HB.out)))); have n2_ := Aside0.mk (below_step (by repeat (first | (with_reducible first | exact HB.out | apply below_alloc | apply pw_below_drewN | apply below_drew1) | exact HB.out)) hb); clear HO_3; clear HB; have HO_3 := n0_; have HO109 := n1_; have HB := n2_; clear n0_ n1_ n2_; (try clear hb); (try clear hb2); (try clear hk); (try clear hi); (try clear ho0)))
    go_ret
    exact ⟨_, by first | rfl | (simp [errW_none, errW_some] <;> rfl) | (simp [*, errW_none, errW_some] <;> rfl), by (with_reducible repeat (first | apply Kd.N_alloc | apply Kd.N_drewN | apply Kd.N_drew)); exact Kd.N_mono HO109.out (fun _ hk => hk.1), by repeat (first | (with_reducible first | exact HB.out | apply below_alloc | apply pw_below_drewN | apply below_drew1) | exact HB.out)⟩
end Go.Proofs.Ytoekfmdcplphmaa.H
/- facts.Has: slices.ContainsFunc at facts with its closure -/
namespace Go.Proofs.Ytoekfmdcplphmaa.H
open Go.RowKit Go.Proofs.YtoekfmdcplphmaaW.PrintWords Go.Proofs.YtoekfmdcplphmaaW.PrintLast Go.Proofs.YtoekfmdcplphmaaW.PrintMore
set_option maxHeartbeats 4000000 in
/-- slices.IndexFunc at lambrequin/api.Fact, a struct -/
theorem IndexFuncFact (g : Nat) (lb : Array Value) (eg : ∀ args w, (callFunc g args).run Try.prog w = .ok (.enter g args) w) (p : Fact → Bool)
    (A0 : Option Addr) (c0 : Nat) (l0 : List Fact) (w : World) (hr0 : Kd.C k44 w A0 l0.length l0) (hp : PredA Try.prog g lb k44 p w l0) :
    Calls Try.prog 37 #[.slice A0 l0.length c0, .func (.func g) #[] lb] w fun e w' => e = .returned (.int .i64 (idxP p l0 0)) ∧ Below w.heap.size w w' := by
  have HR := Aside0.mk hr0
  have HP := Aside0.mk hp
  have hl : l0.length ≤ 9223372036854775807 := hr0.2.1
  clear hr0 hp
  go_enter Try.func37, Try.ntmps37
  go_wp2
  go_loopg [5, 8] l0.length (fun gg _ s8 wr => ∃ kk : Nat, kk ≤ l0.length ∧ l0.length - kk ≤ gg ∧ s8 = .int .i64 kk ∧ Aside0 (Below w.heap.size w wr) ∧ Aside0 (idxP p l0 0 = idxP p (l0.drop kk) kk))
  case atStart => exact ⟨0, Nat.zero_le _, by omega, rfl, ⟨Below.refl _ w⟩, ⟨rfl⟩⟩
  case round =>
    obtain ⟨kk, hkk, hg, rfl, BW, A⟩ := hrel
    by_cases hlt : kk < l0.length
    · have hltz : (kk : Int) < (l0.length : Int) := by omega
      obtain ⟨y, hy⟩ := at_some hlt
      have hat := at_Fact HR.out hy
      have HA := Aside0.mk (A.out.trans (by rw [drop_cons hy]))
      have hym := List.mem_of_getElem? hy
      clear A hy
      obtain ⟨ad, A1, c1, e1, hx0, hx1, l1, g1⟩ := hat
      cases e1
      replace hx0 := Below.old BW.out hx0; replace hx1 := Below.old BW.out hx1
      have hcall := HP.out wr y [.string y.pred, .slice A1 y.args.length c1] hym BW.out (k44_mk wr y l1 (Kd.C_below g1 BW.out))
      cases hq : p y with
      | true =>
        rw [hq] at hcall
        go_wp2_with (go_at_fn g; refine hcall.mono ?_; rintro e w' ⟨rfl, hb'⟩)
        go_ret
        exact ⟨by rw [HA.out, idxP, if_pos hq]; rfl, Below.then BW.out hb'⟩
      | false =>
        rw [hq] at hcall
        go_wp2_with (go_at_fn g; refine hcall.mono ?_; rintro e w' ⟨rfl, hb'⟩)
        go_roundg (l0.length - (kk + 1))
        case measure => omega
        case rel => exact ⟨kk + 1, by omega, by omega, by go_num, ⟨Below.then BW.out hb'⟩, ⟨by rw [HA.out, idxP, if_neg (by rw [hq]; decide)]⟩⟩
    · have hltz : ¬ (kk : Int) < (l0.length : Int) := by omega
      obtain rfl : kk = l0.length := by omega
      go_wp2
      go_ret
      exact ⟨by rw [A.out]; simp [idxP], BW.out⟩
/-- slices.ContainsFunc at lambrequin/api.Fact -/
theorem ContainsFuncFact (g : Nat) (lb : Array Value) (eg : ∀ args w, (callFunc g args).run Try.prog w = .ok (.enter g args) w) (p : Fact → Bool)
    (A0 : Option Addr) (c0 : Nat) (l0 : List Fact) (w : World) (hr0 : Kd.C k44 w A0 l0.length l0) (hp : PredA Try.prog g lb k44 p w l0) :
    Calls Try.prog 21 #[.slice A0 l0.length c0, .func (.func g) #[] lb] w fun e w' => e = .returned (.bool (l0.any p)) ∧ Below w.heap.size w w' := by
  have HR := Aside0.mk hr0
  have HP := Aside0.mk hp
  clear hr0 hp
  go_enter Try.func21, Try.ntmps21
  go_wp2_with (go_at_call 37; go_must (refine (IndexFuncFact g lb eg p _ _ _ _ HR.out HP.out).mono ?_); rintro e w' ⟨rfl, hb⟩)
  go_ret
  exact ⟨by rw [← idxP_any]; rfl, hb⟩
def hasF (l : List Fact) (x : Fact) : Bool := l.any fun f => decide (cmpF f x = 0)
def GHasFact.f (l : List Fact) (p : ByteArray) (q : List Val) : Option Bool := some (hasF l ⟨p, q⟩)
set_option maxRecDepth 100000 in
theorem hasOne (W : World) (x : Fact) (cs : List Value) (p : ByteArray) (A1 : Option Addr) (c1 : Nat) (l1 : List Val) (gb : Nat) (hx : k44.K W x cs) (hr1 : Kd.C k28 W A1 l1.length l1) (hb : W.heap[gb]? = some (.cells #[.string p, .slice A1 l1.length c1] 44 (0, 0))) :
    Calls Try.prog 22 #[.agg cs.toArray, .pointer (some ⟨gb, 0, none⟩)] W fun e w' => e = .returned (.bool (decide (cmpF x ⟨p, l1⟩ = 0))) ∧ Below W.heap.size W w' := by
  obtain ⟨A0, c0, rfl, l0, g0⟩ := k44_open hx
  have h0 : W.cell? ⟨gb, 0, none⟩ = some (.string p) := (blk_cell hb 0).trans rfl
  have h1 : W.cell? ⟨gb, 1, none⟩ = some (.slice A1 l1.length c1) := (blk_cell hb 1).trans rfl
  have HK := Aside0.mk (fun W2 (h : Below W.heap.size W W2) => joinCmp x ⟨p, l1⟩ A0 c0 A1 c1 W2 (Kd.C_below g0 h) (Kd.C_below hr1 h))
  have HB := Aside0.mk (below_alloc (Below.refl W.heap.size W) (.cells #[.string x.pred, .slice A0 x.args.length c0] 44))
  have e0 := Below.old HB.out h0
  have e1 := Below.old HB.out h1
  clear hx hr1 hb g0 h0 h1
  obtain ⟨r, hr⟩ : ∃ r : Int, cmpF x ⟨p, l1⟩ = r := ⟨_, rfl⟩
  rw [hr] at HK ⊢
  clear hr
  by_cases hz : r = 0
  · subst hz
    go_enter Try.func22, Try.ntmps22
    go_wp2_with (go_at_call 23; refine (HK.out _ HB.out).mono ?_; rintro e w2 ⟨rfl, hg⟩; have HG := Aside0.mk hg; clear hg)
    go_ret
    exact ⟨rfl, Below.then HB.out (GrW.below HG.out)⟩
  · have hd : decide (r = 0) = false := decide_eq_false hz
    rw [hd]
    go_enter Try.func22, Try.ntmps22
    go_wp2_with (go_at_call 23; refine (HK.out _ HB.out).mono ?_; rintro e w2 ⟨rfl, hg⟩; have HG := Aside0.mk hg; clear hg)
    go_ret
    exact ⟨by simp [hz], Below.then HB.out (GrW.below HG.out)⟩
theorem GHasFact.calls (A0 : Option Addr) (c0 : Nat) (l0 : List Fact) (p : ByteArray) (A1 : Option Addr) (c1 : Nat) (l1 : List Val) (r : Bool) (w : World) {gb : Nat} (hr0 : Kd.C k44 w A0 l0.length l0) (hc0 : l0.length ≤ c0) (hr1 : Kd.C k28 w A1 l1.length l1) (hc1 : l1.length ≤ c1)
    (hb : w.heap[gb]? = some (.cells #[.string p, .slice A1 l1.length c1] 44 (0, 0))) (h : GHasFact.f l0 p l1 = some r) :
    Calls Try.prog 21 #[.slice A0 l0.length c0, .func (.func 22) #[] #[.pointer (some ⟨gb, 0, none⟩)]] w fun e w' => e = .returned (.bool r) ∧ Below w.heap.size w w' := by
  obtain rfl := Option.some.inj h
  exact ContainsFuncFact 22 _ (enters_of Try.func22 (by kernel_rfl) rfl) (fun f => decide (cmpF f ⟨p, l1⟩ = 0)) A0 c0 l0 w hr0 (fun W x cs _ hB hx => hasOne W x cs p A1 c1 l1 gb hx (Kd.C_below hr1 hB) (blk_below hb hB))
end Go.Proofs.Ytoekfmdcplphmaa.H
namespace Go.Proofs.Ytoekfmdcplphmaa.H
open Go.RowKit Go.Proofs.YtoekfmdcplphmaaW.PrintWords Go.Proofs.YtoekfmdcplphmaaW.PrintLast Go.Proofs.YtoekfmdcplphmaaW.PrintMore
attribute [local go_sem] max2_int min2_int max_two min_two max_three min_three max_four min_four
def facts_Has.f (l0 : List (Fact)) (a1 : ByteArray) (l2 : List (Val)) : Option (Bool) := (facts_fact.f a1 l2).bind fun bt101 => ((GHasFact.f l0 bt101.1 bt101.2).bind fun t106 => (some t106))
set_option maxHeartbeats 8000000 in
set_option maxRecDepth 100000 in
theorem facts_Has.calls (A0 : Option Addr) (c0 : Nat) (l0 : List (Fact)) (a1 : ByteArray) (A2 : Option Addr) (c2 : Nat) (l2 : List (Val)) (r : Bool) (w : World) (hr0 : Kd.C k44 w A0 l0.length l0) (hc0 : l0.length ≤ c0) (hr2 : Kd.C k28 w A2 l2.length l2) (hc2 : l2.length ≤ c2) (h : facts_Has.f l0 a1 l2 = some r) :
  Calls Try.prog 9 #[.slice A0 l0.length c0, .string a1, .slice A2 l2.length c2] w fun e w' => e = .returned (.bool r) ∧ Below w.heap.size w w' := by
 have hu44 := Try.underlying44
 have HR0 := Aside0.mk hr0
 have HC0 := Aside0.mk hc0
 clear hr0 hc0
 have HR2 := Aside0.mk hr2
 have HC2 := Aside0.mk hc2
 clear hr2 hc2
 have HB := Aside0.mk (Below.refl w.heap.size w)
 have H : ((facts_fact.f a1 l2).bind fun bt101 => ((GHasFact.f l0 bt101.1 bt101.2).bind fun t106 => (some t106))) = some r := h
 clear h
 replace H := Option.bind_eq_some_iff.mp H
 obtain ⟨⟨t101, t102⟩, A40, H⟩ := H
 replace H : ((GHasFact.f l0 t101 t102).bind fun t106 => (some t106)) = some r := H
 have A4 := Aside0.mk A40
 clear A40
 replace H := Option.bind_eq_some_iff.mp H
 obtain ⟨t106, A50, H⟩ := H
 replace H : (some t106) = some r := H
 have A5 := Aside0.mk A50
 clear A50
 obtain rfl := Option.some.inj H
 go_enter Try.func9, Try.ntmps9
 go_wp2_with (first | ((with_reducible refine gate_callee (f := 20) rfl ?_); refine goesL_ (some 10) rfl rfl Try.func20 (by kernel_rfl) rfl #[.string a1, .slice A2 l2.length c2] rfl (by (try simp only [List.map_toArray, List.map_cons, List.map_nil]); first | done | rfl | (simp only [List.length_drop, List.length_take]; rfl)) ?_; (with_reducible refine (facts_fact.calls a1 (fun k_ => k_ < w.heap.size) _ _ l2 t101 t102 _ ?side1 A4.out).mono ?_); (case side1 => exact Kd.V_mk HC2.out (Kd.F_below (Kd.C_F k28_heap HR2.out) (by repeat (first | (with_reducible first | exact HB.out | apply below_alloc | apply pw_below_drewN | apply below_drew1) | exact HB.out)))); rintro e w6 ⟨v103, rfl, ho0, hb⟩; refine ⟨_, rfl, ?_⟩; have n0_ := Aside0.mk (Kd.V_lower (Kd.V_mono (ok' := fun k_ => True) ho0 (fun k_ hk_ => trivial)) (below_size (by repeat (first | (with_reducible first | exact HB.out | apply below_alloc | apply pw_below_drewN | apply below_drew1) | exact HB.out)))); have n1_ := Aside0.mk (below_step (by repeat (first | (with_reducible first | exact HB.out | apply below_alloc | apply pw_below_drewN | apply below_drew1) | exact HB.out)) hb); clear HB; have HO104 := n0_; have HB := n1_; clear n0_ n1_; (try clear hb); (try clear hb2); (try clear hk); (try clear hi); (try clear ho0)) | ((with_reducible refine gate_dst (N := 7) rfl ?_); refine box_event ?hg (N := 7) ?hd (cs := #[.string (⟨#[]⟩ : ByteArray), .slice none 0 0]) (t := 44) ?hr ?_; (case hd => rfl); (case hg => rfl); (case hr => first | (go_simp; done) | (go_simp; rfl)); intro gb105 hg w7 hbox hb; have n0_ := Aside0.mk (Kd.V_below (Kd.V_elderB (by (with_reducible repeat (first | apply Kd.V_alloc | apply Kd.V_drewN | apply Kd.V_drew)); exact HO104.out) gb105 (Nat.le_of_eq hg.symm)) hb); have n1_ := Aside0.mk (below_step (by repeat (first | (with_reducible first | exact HB.out | apply below_alloc | apply pw_below_drewN | apply below_drew1) | exact HB.out)) hb); have n2_ := Aside0.mk (hbox); have n3_ := Aside0.mk ((by rw [hg]; exact (below_size (by repeat (first | (with_reducible first | exact HB.out | apply below_alloc | apply pw_below_drewN | apply below_drew1) | exact HB.out))) : w.heap.size ≤ gb105)); have n4_ := Aside0.mk ((by rw [hg]; exact (below_size (by repeat (first | (with_reducible first | exact HB.out | apply below_alloc | apply pw_below_drewN | apply below_drew1) | exact HB.out))) : w.heap.size ≤ gb105)); clear HO104; clear HB; have HO104 := n0_; have HB := n1_; have BK105 := n2_; have GW105 := n3_; have GE105 := n4_; clear n0_ n1_ n2_ n3_ n4_; clear hb hbox hg; have hcz8_0 : w7.cell? ⟨gb105, 0, none⟩ = some (.string (⟨#[]⟩ : ByteArray)) := (blk_cell BK105.out 0).trans rfl; have hcz8_1 : w7.cell? ⟨gb105, 1, none⟩ = some (.slice none 0 0) := (blk_cell BK105.out 1).trans rfl; have hfz8_0 := blk_frozen BK105.out 0; have hfz8_1 := blk_frozen BK105.out 1; obtain ⟨Ao9, co9, eo9⟩ := Kd.V_slice HO104.out; subst eo9) | ((with_reducible refine gate_callee (f := 21) rfl ?_); refine goesL_ (some 13) rfl rfl Try.func21 (by kernel_rfl) rfl #[.slice A0 l0.length c0, .func (.func 22) #[] #[.pointer (some ⟨gb105, 0, none⟩)]] rfl (by (try simp only [List.map_toArray, List.map_cons, List.map_nil]); first | done | rfl | (simp only [List.length_drop, List.length_take]; rfl)) ?_; (refine (GHasFact.calls _ _ l0 t101 Ao9 co9 t102 t106 _ ?side1 ?side2 ?side3 ?side4 ?side5 A5.out).mono ?_); (case side1 => exact Kd.C_below HR0.out (by repeat (first | (with_reducible first | exact HB.out | apply below_alloc | apply pw_below_drewN | apply below_drew1 | refine below_set ?_ GE105.out) | exact HB.out))); (case side2 => exact HC0.out); (case side3 => refine (Kd.V_reads' (e := 28) (base := w.heap.size) (ok := fun k_ => (True ∧ k_ ≠ gb105)) (n := t102.length) (c := co9) ?_).2.2; exact (by (with_reducible repeat (first | apply Kd.V_alloc | apply Kd.V_drewN | apply Kd.V_drew)); exact (Kd.V_mono (Kd.V_far (p := ⟨gb105, 1, none⟩) (Kd.V_far (p := ⟨gb105, 0, none⟩) (Kd.V_mono HO104.out (fun k_ hk => (⟨hk, hk.2⟩ : _ ∧ k_ ≠ gb105))) (fun _ hk => hk.2) _) (fun _ hk => hk.2) _) (fun _ h_ => h_.1)))); (case side4 => exact (Kd.V_reads' HO104.out).2.1); (case side5 => (with_reducible repeat (first | refine blk_drewN ?_ _ | refine blk_drew ?_ | refine blk_alloc ?_ _)); refine blk_put (cs := #[.string t101, .slice none 0 0]) ?_ 1 _ rfl; (with_reducible repeat (first | refine blk_drewN ?_ _ | refine blk_drew ?_ | refine blk_alloc ?_ _)); refine blk_put (cs := #[.string (⟨#[]⟩ : ByteArray), .slice none 0 0]) ?_ 0 _ rfl; (with_reducible repeat (first | refine blk_drewN ?_ _ | refine blk_drew ?_ | refine blk_alloc ?_ _)); exact BK105.out); rintro e w10 ⟨rfl, hb⟩; refine ⟨_, rfl, ?_⟩; have n0_ := Aside0.mk (Kd.V_below (by (with_reducible repeat (first | apply Kd.V_alloc | apply Kd.V_drewN | apply Kd.V_drew)); exact (Kd.V_mono (Kd.V_far (p := ⟨gb105, 1, none⟩) (Kd.V_far (p := ⟨gb105, 0, none⟩) (Kd.V_mono HO104.out (fun k_ hk => (⟨hk, hk.2⟩ : _ ∧ k_ ≠ gb105))) (fun _ hk => hk.2) _) (fun _ hk => hk.2) _) (fun _ h_ => h_.1))) hb); have n1_ := Aside0.mk (blk_below (g := gb105) (o := .cells #[.string t101, .slice Ao9 t102.length co9] 44 (0, 0)) (by (with_reducible repeat (first | refine blk_drewN ?_ _ | refine blk_drew ?_ | refine blk_alloc ?_ _)); refine blk_put (cs := #[.string t101, .slice none 0 0]) ?_ 1 _ rfl; (with_reducible repeat (first | refine blk_drewN ?_ _ | refine blk_drew ?_ | refine blk_alloc ?_ _)); refine blk_put (cs := #[.string (⟨#[]⟩ : ByteArray), .slice none 0 0]) ?_ 0 _ rfl; (with_reducible repeat (first | refine blk_drewN ?_ _ | refine blk_drew ?_ | refine blk_alloc ?_ _)); exact BK105.out) hb); have n2_ := Aside0.mk (below_step (by repeat (first | (with_reducible first | exact HB.out | apply below_alloc | apply pw_below_drewN | apply below_drew1 | refine below_set ?_ GE105.out) | exact HB.out)) hb); clear HO104; clear BK105; clear HB; have HO104 := n0_; have BK105 := n1_; have HB := n2_; clear n0_ n1_ n2_; (try clear hb); (try clear hb2); (try clear hk); (try clear hi)))
 go_ret
 exact ⟨by first | rfl | (simp [errW_none, errW_some] <;> rfl) | (simp [*, errW_none, errW_some] <;> rfl), by repeat (first | (with_reducible first | exact HB.out | apply below_alloc | apply pw_below_drewN | apply below_drew1 | refine below_set ?_ GE105.out) | exact HB.out)⟩
end Go.Proofs.Ytoekfmdcplphmaa.H
/- a flow's facts, in plain words -/
namespace Go.Proofs.Ytoekfmdcplphmaa.H
open Go.RowKit Go.Proofs.YtoekfmdcplphmaaW.PrintWords
def bareVal (v : Val) : Val := if v.isSym = true then symV v.sym else numV v.n
theorem bareVal_id {v : Val} (h : bareV v = true) : bareVal v = v := by
  obtain ⟨s, t, n⟩ := v
  cases s <;> simp [bareV, bareVal] at h ⊢
  · subst h; rfl
  · subst h; rfl
theorem bare_eq (v : Val) : tuple_bare.f v.isSym v.sym v.n = some ((bareVal v).isSym, (bareVal v).sym, (bareVal v).n) := by
  unfold tuple_bare.f bareVal
  by_cases h : v.isSym = true
  · rw [if_pos h, if_pos h]; rfl
  · rw [if_neg h, if_neg h]; rfl
theorem tuple_l0 (l : List Val) (hl : l.length ≤ 1000) : ∀ (r : List Val) (i : Nat) (acc : List Val), l.drop i = r → acc.length + r.length ≤ 1000 → Ev (fun k => tuple_Of.l0 k acc l (l.length : Int) i) (acc ++ r.map bareVal)
  | [], i, acc, h, ha => by
    refine Ev.step (fun k => by rw [tuple_Of.l0]) ?_
    refine Ev.neg (drop_end h) ?_
    exact Ev.some (by simp)
  | y :: r, i, acc, h, ha => by
    obtain ⟨g1, g2, g3, g4, g5⟩ := drop_more h (by omega)
    refine Ev.step (fun k => by rw [tuple_Of.l0]) ?_
    refine Ev.pos g1 ?_
    refine Ev.pos g2 ?_
    refine Ev.pos g1 ?_
    rw [show rd_T28 l i = y from g3 _, g5]
    refine Ev.pure (bare_eq y) ?_
    refine Ev.pos (by simp at ha ⊢; omega) ?_
    exact Ev.iff (tuple_l0 l hl r (i + 1) (acc ++ [bareVal y]) g4 (by simp at ha ⊢; omega)) (by simp)
theorem tuple_ev {l : List Val} (hl : l.length ≤ 1000) (hb : l.all bareV = true) : Ev (fun k => tuple_Of.f k l) l := by
  unfold tuple_Of.f
  refine Ev.iff (tuple_l0 l hl l 0 [] rfl (by simpa using hl)) ?_
  rw [List.all_eq_true] at hb
  rw [List.nil_append]
  conv => rhs; rw [← List.map_id l]
  exact List.map_congr_left fun x hx => bareVal_id (hb x hx)
section
variable (l : List Fact) (hl : l.length ≤ 100000) (hb : bareL l = true) (ha : ∀ f ∈ l, f.args.length ≤ 1000)
include hl hb ha
theorem join_l0 : ∀ (r : List Fact) (i : Nat) (acc : List Fact), l.drop i = r → acc ++ r = l → Ev (fun k => join_Sort.l0 k acc l (l.length : Int) i) (dd (sortF l))
  | [], i, acc, h, e => by
    refine Ev.step (fun k => by rw [join_Sort.l0]) ?_
    refine Ev.neg (drop_end h) ?_
    obtain rfl : acc = l := by simpa using e
    refine Ev.pure (o := GSortFact.f acc) (by unfold GSortFact.f; rw [if_pos ⟨by omega, hb⟩]) ?_
    refine Ev.pure (o := GCompactFact.f (sortF acc)) (by unfold GCompactFact.f; rw [if_pos (bareL_sort hb)]) ?_
    exact Ev.now _
  | y :: r, i, acc, h, e => by
    obtain ⟨g1, g2, g3, g4, g5⟩ := drop_more h (by omega)
    have hy : y ∈ l := by rw [← e]; simp
    have hbb := hb
    unfold bareL at hbb
    rw [List.all_eq_true] at hbb
    refine Ev.step (fun k => by rw [join_Sort.l0]) ?_
    refine Ev.pos g1 ?_
    refine Ev.pos g2 ?_
    refine Ev.pos g1 ?_
    rw [show rd_T44 l i = y from g3 _, g5]
    refine Ev.bind (tuple_ev (ha y hy) (hbb y hy)) ?_
    have hac : acc.length ≤ l.length := by rw [← e]; simp
    refine Ev.pos (by omega) ?_
    exact join_l0 r (i + 1) (acc ++ [y]) g4 (by rw [← e]; simp)
theorem join_ev : Ev (fun k => join_Sort.f k l) (dd (sortF l)) := by
  unfold join_Sort.f
  exact join_l0 l hl hb ha l 0 [] rfl rfl
end
theorem bare_num (n : Int) : bareV (numV n) = true := rfl
theorem bare_sym (s : ByteArray) : bareV (symV s) = true := rfl
theorem useF_ok {st : Stmt} {n : Int} {y : ByteArray} {f : Fact} (h : f ∈ useF st n y) : bareF f = true ∧ 0 < f.args.length ∧ f.args.length ≤ 3 := by
  unfold useF at h
  split at h
  · simp at h; rcases h with rfl | rfl <;> exact ⟨rfl, by simp, by simp⟩
  · simp at h; subst h; exact ⟨rfl, by simp, by simp⟩
theorem oneL_ok {s : List Stmt} {n : Int} {f : Fact} (h : f ∈ oneL s n) : bareF f = true ∧ 0 < f.args.length ∧ f.args.length ≤ 3 := by
  unfold oneL at h
  rw [List.mem_append, List.mem_append, List.mem_cons] at h
  rcases h with ((rfl | h) | h) | h
  · exact ⟨rfl, by simp, by simp⟩
  · obtain ⟨m, _, rfl⟩ := List.mem_map.1 h
    exact ⟨rfl, by simp, by simp⟩
  · obtain ⟨y, _, h⟩ := List.mem_flatMap.1 h
    exact useF_ok h
  · unfold defF at h
    split at h
    case isFalse => simp at h
    rw [List.mem_cons] at h
    rcases h with rfl | h
    · exact ⟨rfl, by simp, by simp⟩
    split at h
    · simp at h; subst h; exact ⟨rfl, by simp, by simp⟩
    split at h
    · obtain ⟨y, _, rfl⟩ := List.mem_map.1 h; exact ⟨rfl, by simp, by simp⟩
    · simp at h
def factsL (s : List Stmt) : List Fact := (List.range s.length).flatMap fun m : Nat => oneL s (m : Int)
def ofF (s : List Stmt) : List Fact := dd (sortF (factsL s))
theorem of_l0 (s : List Stmt) (hs : s.length ≤ 1000) : ∀ (d i : Nat) (acc : List Fact), i + d = s.length → acc.length ≤ 20 * i → (∀ f ∈ acc, bareF f = true ∧ f.args.length ≤ 3) →
    Ev (fun k => facts_Of.l0 k s acc (s.length : Int) i) (dd (sortF (acc ++ (List.range' i d).flatMap fun m : Nat => oneL s (m : Int))))
  | 0, i, acc, h, ha, hb => by
    refine Ev.step (fun k => by rw [facts_Of.l0]) ?_
    refine Ev.neg (by omega) ?_
    refine Ev.bind (join_ev acc (by omega) (by unfold bareL; rw [List.all_eq_true]; exact fun f hf => (hb f hf).1) (fun f hf => by have := (hb f hf).2; omega)) ?_
    exact Ev.some (by simp)
  | d + 1, i, acc, h, ha, hb => by
    refine Ev.step (fun k => by rw [facts_Of.l0]) ?_
    refine Ev.pos (by omega) ?_
    refine Ev.bind (one_ev s i (by omega) (by omega)) ?_
    have hl := oneL_len s i
    refine Ev.pos (by omega) ?_
    rw [wrap_up (by omega)]
    refine Ev.iff (of_l0 s hs d (i + 1) (acc ++ oneL s i) (by omega) (by rw [List.length_append]; omega) (fun f hf => ?_)) ?_
    · rcases List.mem_append.1 hf with hf | hf
      · exact hb f hf
      · exact ⟨(oneL_ok hf).1, (oneL_ok hf).2.2⟩
    · rw [List.range'_succ, List.flatMap_cons, List.append_assoc]
theorem of_ev (s : List Stmt) (hs : s.length ≤ 1000) : Ev (fun k => facts_Of.f k s) (ofF s) := by
  unfold facts_Of.f ofF factsL
  refine Ev.iff (of_l0 s hs s.length 0 [] (by omega) (by simp) (by simp)) ?_
  rw [List.range_eq_range']; rfl
theorem mem_factsL {s : List Stmt} {f : Fact} : f ∈ factsL s ↔ ∃ n : Int, 0 ≤ n ∧ n < (s.length : Int) ∧ f ∈ oneL s n := by
  unfold factsL
  rw [List.mem_flatMap]
  constructor
  · rintro ⟨m, hm, h⟩
    exact ⟨m, by omega, by have := List.mem_range.1 hm; omega, h⟩
  · rintro ⟨n, h0, h1, h⟩
    refine ⟨n.toNat, List.mem_range.2 (by omega), ?_⟩
    rwa [show ((n.toNat : Nat) : Int) = n by omega]
theorem mem_ofF {s : List Stmt} {f : Fact} : f ∈ ofF s ↔ f ∈ factsL s := by unfold ofF; rw [mem_dd, sortF_mem]
theorem factsL_ok {s : List Stmt} {f : Fact} (h : f ∈ factsL s) : bareF f = true ∧ 0 < f.args.length ∧ f.args.length ≤ 3 := by
  obtain ⟨n, _, _, h⟩ := mem_factsL.1 h
  exact oneL_ok h
theorem has_eq (s : List Stmt) (x : Fact) (hx : bareF x = true) : hasF (ofF s) x = decide (x ∈ factsL s) := by
  unfold hasF
  rw [Bool.eq_iff_iff, List.any_eq_true, decide_eq_true_iff]
  constructor
  · rintro ⟨f, hf, h⟩
    have hm := mem_ofF.1 hf
    obtain rfl := (cmpF_zero (factsL_ok hm).1 hx).1 (of_decide_eq_true h)
    exact hm
  · intro h
    exact ⟨x, mem_ofF.2 h, decide_eq_true (ordF.self x)⟩
theorem Has_eq (l : List Fact) (p : ByteArray) (a : List Val) : facts_Has.f l p a = some (hasF l ⟨p, a⟩) := rfl
theorem oneL_num {s : List Stmt} {n : Int} {f : Fact} (h : f ∈ oneL s n) : f.args.head? = some (numV n) := by
  unfold oneL at h
  rw [List.mem_append, List.mem_append, List.mem_cons] at h
  rcases h with ((rfl | h) | h) | h
  · rfl
  · obtain ⟨m, _, rfl⟩ := List.mem_map.1 h; rfl
  · obtain ⟨y, _, h⟩ := List.mem_flatMap.1 h
    unfold useF at h
    split at h <;> simp at h
    · rcases h with rfl | rfl <;> rfl
    · subst h; rfl
  · unfold defF at h
    split at h
    case isFalse => simp at h
    rw [List.mem_cons] at h
    rcases h with rfl | h
    · rfl
    split at h
    · simp at h; subst h; rfl
    split at h
    · obtain ⟨y, _, rfl⟩ := List.mem_map.1 h; rfl
    · simp at h
theorem mem_at {s : List Stmt} {n : Int} {f : Fact} (hf : f.args.head? = some (numV n)) : f ∈ factsL s ↔ 0 ≤ n ∧ n < (s.length : Int) ∧ f ∈ oneL s n := by
  rw [mem_factsL]
  constructor
  · rintro ⟨m, h0, h1, h⟩
    have := (oneL_num h).symm.trans hf
    simp at this
    subst this
    exact ⟨h0, h1, h⟩
  · rintro ⟨h0, h1, h⟩
    exact ⟨n, h0, h1, h⟩
theorem mem_oneL {s : List Stmt} {n : Int} {f : Fact} : f ∈ oneL s n ↔ f = fNode n ∨ (∃ m ∈ nxt s n, f = fNext n m) ∨ (∃ y ∈ usesS (at_ s n), f = fUse n y) ∨ ((at_ s n).kind = 6 ∧ ∃ y ∈ usesS (at_ s n), f = fSink n y) ∨
    ((defN (at_ s n)).2 = true ∧ f = fDef n (defN (at_ s n)).1) ∨ ((defN (at_ s n)).2 = true ∧ (at_ s n).kind = 4 ∧ f = fSource n (defN (at_ s n)).1) ∨ ((defN (at_ s n)).2 = true ∧ ((at_ s n).kind = 2 ∨ (at_ s n).kind = 3) ∧ ∃ y ∈ usesS (at_ s n), f = fFlow n (defN (at_ s n)).1 y) := by
  have hu : ∀ y, f ∈ useF (at_ s n) n y ↔ f = fUse n y ∨ ((at_ s n).kind = 6 ∧ f = fSink n y) := by
    intro y
    unfold useF
    by_cases h : (at_ s n).kind = 6
    · rw [if_pos h, List.mem_cons, List.mem_singleton]; simp only [h, true_and]
    · rw [if_neg h, List.mem_cons]; simp only [h, false_and, List.not_mem_nil]
  have hd : f ∈ defF (at_ s n) n (usesS (at_ s n)) ↔ (defN (at_ s n)).2 = true ∧ (f = fDef n (defN (at_ s n)).1 ∨ ((at_ s n).kind = 4 ∧ f = fSource n (defN (at_ s n)).1) ∨ (((at_ s n).kind = 2 ∨ (at_ s n).kind = 3) ∧ ∃ y ∈ usesS (at_ s n), f = fFlow n (defN (at_ s n)).1 y)) := by
    unfold defF
    by_cases h : (defN (at_ s n)).2 = true
    · rw [if_pos h, List.mem_cons]
      by_cases k4 : (at_ s n).kind = 4
      · rw [if_pos k4, List.mem_singleton]
        have k2 : ¬ ((at_ s n).kind = 2 ∨ (at_ s n).kind = 3) := by omega
        simp only [h, k4, k2, true_and, false_and, or_false]
        simp
      · rw [if_neg k4]
        by_cases k2 : (at_ s n).kind = 2 ∨ (at_ s n).kind = 3
        · rw [if_pos k2, List.mem_map]
          simp only [h, k4, k2, true_and, false_and, false_or]
          constructor
          · rintro (h | ⟨y, hy, rfl⟩)
            · exact .inl h
            · exact .inr ⟨y, hy, rfl⟩
          · rintro (h | ⟨y, hy, rfl⟩)
            · exact .inl h
            · exact .inr ⟨y, hy, rfl⟩
        · rw [if_neg k2]
          simp only [h, k4, k2, true_and, false_and, or_false, List.not_mem_nil]
    · rw [if_neg h]
      simp only [h, false_and, List.not_mem_nil]
      simp
  unfold oneL
  rw [List.mem_append, List.mem_append, List.mem_cons, List.mem_map, List.mem_flatMap, hd]
  constructor
  · rintro (((h | ⟨m, hm, rfl⟩) | ⟨y, hy, h⟩) | ⟨h1, h | ⟨k, h⟩ | ⟨k, h⟩⟩)
    · exact .inl h
    · exact .inr (.inl ⟨m, hm, rfl⟩)
    · rcases (hu y).1 h with h | ⟨k, h⟩
      · exact .inr (.inr (.inl ⟨y, hy, h⟩))
      · exact .inr (.inr (.inr (.inl ⟨k, y, hy, h⟩)))
    · exact .inr (.inr (.inr (.inr (.inl ⟨h1, h⟩))))
    · exact .inr (.inr (.inr (.inr (.inr (.inl ⟨h1, k, h⟩)))))
    · exact .inr (.inr (.inr (.inr (.inr (.inr ⟨h1, k, h⟩)))))
  · rintro (h | ⟨m, hm, rfl⟩ | ⟨y, hy, h⟩ | ⟨k, y, hy, h⟩ | ⟨h1, h⟩ | ⟨h1, k, h⟩ | ⟨h1, k, h⟩)
    · exact .inl (.inl (.inl h))
    · exact .inl (.inl (.inr ⟨m, hm, rfl⟩))
    · exact .inl (.inr ⟨y, hy, (hu y).2 (.inl h)⟩)
    · exact .inl (.inr ⟨y, hy, (hu y).2 (.inr ⟨k, h⟩)⟩)
    · exact .inr ⟨h1, .inl h⟩
    · exact .inr ⟨h1, .inr (.inl ⟨k, h⟩)⟩
    · exact .inr ⟨h1, .inr (.inr ⟨k, h⟩)⟩
theorem no_pred {f g : Fact} (hne : f.pred ≠ g.pred) (h : f = g) : False := hne (congrArg Fact.pred h)
/-- the kinds of facts are seven -/
theorem kinds7 : ([⟨#[110, 111, 100, 101]⟩, ⟨#[110, 101, 120, 116]⟩, ⟨#[117, 115, 101]⟩, ⟨#[115, 105, 110, 107]⟩, ⟨#[100, 101, 102]⟩, ⟨#[115, 111, 117, 114, 99, 101]⟩, ⟨#[102, 108, 111, 119]⟩] : List ByteArray).Nodup := by decide
section
variable {s : List Stmt} {n m : Int} {x y : ByteArray}
theorem mem_node : fNode n ∈ factsL s ↔ 0 ≤ n ∧ n < (s.length : Int) := by
  rw [mem_at rfl]
  exact ⟨fun h => ⟨h.1, h.2.1⟩, fun h => ⟨h.1, h.2, mem_oneL.2 (.inl rfl)⟩⟩
theorem mem_next : fNext n m ∈ factsL s ↔ m ∈ nxt s n := by
  rw [mem_at rfl]
  constructor
  · rintro ⟨h0, h1, h⟩
    rcases mem_oneL.1 h with h | ⟨m', hm, h⟩ | ⟨y, hy, h⟩ | ⟨k, y, hy, h⟩ | ⟨h1, h⟩ | ⟨h1, k, h⟩ | ⟨h1, k, y, hy, h⟩
    · exact (no_pred (by simp) h).elim
    · have : m = m' := by simpa using h
      exact this ▸ hm
    all_goals exact (no_pred (by simp) h).elim
  · intro h
    have hw := nxt_within h
    exact ⟨hw.2.2.1, hw.2.2.2, mem_oneL.2 (.inr (.inl ⟨m, h, rfl⟩))⟩
theorem mem_use : fUse n x ∈ factsL s ↔ 0 ≤ n ∧ n < (s.length : Int) ∧ x ∈ usesS (at_ s n) := by
  rw [mem_at rfl]
  refine ⟨fun ⟨h0, h1, h⟩ => ⟨h0, h1, ?_⟩, fun ⟨h0, h1, h⟩ => ⟨h0, h1, mem_oneL.2 (.inr (.inr (.inl ⟨x, h, rfl⟩)))⟩⟩
  rcases mem_oneL.1 h with h | ⟨m', hm, h⟩ | ⟨y, hy, h⟩ | ⟨k, y, hy, h⟩ | ⟨h1, h⟩ | ⟨h1, k, h⟩ | ⟨h1, k, y, hy, h⟩
  · exact (no_pred (by simp) h).elim
  · exact (no_pred (by simp) h).elim
  · have : x = y := by simpa using h
    exact this ▸ hy
  all_goals exact (no_pred (by simp) h).elim
theorem mem_sink : fSink n x ∈ factsL s ↔ 0 ≤ n ∧ n < (s.length : Int) ∧ x ∈ usesS (at_ s n) ∧ (at_ s n).kind = 6 := by
  rw [mem_at rfl]
  refine ⟨fun ⟨h0, h1, h⟩ => ⟨h0, h1, ?_⟩, fun ⟨h0, h1, h, k⟩ => ⟨h0, h1, mem_oneL.2 (.inr (.inr (.inr (.inl ⟨k, x, h, rfl⟩))))⟩⟩
  rcases mem_oneL.1 h with h | ⟨m', hm, h⟩ | ⟨y, hy, h⟩ | ⟨k, y, hy, h⟩ | ⟨h1, h⟩ | ⟨h1, k, h⟩ | ⟨h1, k, y, hy, h⟩
  · exact (no_pred (by simp) h).elim
  · exact (no_pred (by simp) h).elim
  · exact (no_pred (by simp) h).elim
  · have : x = y := by simpa using h
    exact ⟨this ▸ hy, k⟩
  all_goals exact (no_pred (by simp) h).elim
theorem mem_def : fDef n x ∈ factsL s ↔ 0 ≤ n ∧ n < (s.length : Int) ∧ (defN (at_ s n)).2 = true ∧ (defN (at_ s n)).1 = x := by
  rw [mem_at rfl]
  refine ⟨fun ⟨h0, h1, h⟩ => ⟨h0, h1, ?_⟩, fun ⟨h0, h1, h, k⟩ => ⟨h0, h1, mem_oneL.2 (.inr (.inr (.inr (.inr (.inl ⟨h, by rw [k]⟩)))))⟩⟩
  rcases mem_oneL.1 h with h | ⟨m', hm, h⟩ | ⟨y, hy, h⟩ | ⟨k, y, hy, h⟩ | ⟨h1, h⟩ | ⟨h1, k, h⟩ | ⟨h1, k, y, hy, h⟩
  · exact (no_pred (by simp) h).elim
  · exact (no_pred (by simp) h).elim
  · exact (no_pred (by simp) h).elim
  · exact (no_pred (by simp) h).elim
  · have : x = (defN (at_ s n)).1 := by simpa using h
    exact ⟨h1, this.symm⟩
  all_goals exact (no_pred (by simp) h).elim
theorem mem_source : fSource n x ∈ factsL s ↔ 0 ≤ n ∧ n < (s.length : Int) ∧ (defN (at_ s n)).2 = true ∧ (defN (at_ s n)).1 = x ∧ (at_ s n).kind = 4 := by
  rw [mem_at rfl]
  refine ⟨fun ⟨h0, h1, h⟩ => ⟨h0, h1, ?_⟩, fun ⟨h0, h1, h, k, k4⟩ => ⟨h0, h1, mem_oneL.2 (.inr (.inr (.inr (.inr (.inr (.inl ⟨h, k4, by rw [k]⟩))))))⟩⟩
  rcases mem_oneL.1 h with h | ⟨m', hm, h⟩ | ⟨y, hy, h⟩ | ⟨k, y, hy, h⟩ | ⟨h1, h⟩ | ⟨h1, k, h⟩ | ⟨h1, k, y, hy, h⟩
  · exact (no_pred (by simp) h).elim
  · exact (no_pred (by simp) h).elim
  · exact (no_pred (by simp) h).elim
  · exact (no_pred (by simp) h).elim
  · exact (no_pred (by simp) h).elim
  · have : x = (defN (at_ s n)).1 := by simpa using h
    exact ⟨h1, this.symm, k⟩
  · exact (no_pred (by simp) h).elim
theorem mem_flow : fFlow n x y ∈ factsL s ↔ 0 ≤ n ∧ n < (s.length : Int) ∧ (defN (at_ s n)).2 = true ∧ (defN (at_ s n)).1 = x ∧ ((at_ s n).kind = 2 ∨ (at_ s n).kind = 3) ∧ y ∈ usesS (at_ s n) := by
  rw [mem_at rfl]
  refine ⟨fun ⟨h0, h1, h⟩ => ⟨h0, h1, ?_⟩, fun ⟨h0, h1, h, k, k4, hy⟩ => ⟨h0, h1, mem_oneL.2 (.inr (.inr (.inr (.inr (.inr (.inr ⟨h, k4, y, hy, by rw [k]⟩))))))⟩⟩
  rcases mem_oneL.1 h with h | ⟨m', hm, h⟩ | ⟨y', hy, h⟩ | ⟨k, y', hy, h⟩ | ⟨h1, h⟩ | ⟨h1, k, h⟩ | ⟨h1, k, y', hy, h⟩
  · exact (no_pred (by simp) h).elim
  · exact (no_pred (by simp) h).elim
  · exact (no_pred (by simp) h).elim
  · exact (no_pred (by simp) h).elim
  · exact (no_pred (by simp) h).elim
  · exact (no_pred (by simp) h).elim
  · obtain ⟨e1, e2⟩ : x = (defN (at_ s n)).1 ∧ y = y' := by simpa using h
    exact ⟨h1, e1.symm, k, e2 ▸ hy⟩
end
theorem HasOf {s : List Stmt} {p : ByteArray} {a : List Val} {b : Bool} (hb : bareF ⟨p, a⟩ = true) (h : b = true ↔ (⟨p, a⟩ : Fact) ∈ factsL s) : facts_Has.f (ofF s) p a = some b := by
  rw [Has_eq, has_eq s _ hb]
  congr 1
  rw [Bool.eq_iff_iff, decide_eq_true_iff, h]
def ex21 : List Stmt := [⟨4, ⟨#[120]⟩, noS, noS, noS, 0, 0, 0⟩, ⟨9, noS, noS, noS, noS, 0, 0, 0⟩]
def exF : List Fact := [fDef 0 ⟨#[120]⟩, fNext 0 1, fNode 0, fNode 1, fSource 0 ⟨#[120]⟩]
theorem ex_facts : factsL ex21 = [fNode 0, fNext 0 1, fDef 0 ⟨#[120]⟩, fSource 0 ⟨#[120]⟩, fNode 1] := by
  simp [factsL, ex21, oneL, useF, defF, nxt, nxtRaw, at_, rd_T33, defN, usesS, withinB, wrap64, List.range_succ]
theorem ex_of : ofF ex21 = exF := by
  have h : exF = sortF (factsL ex21) := sortF_eq (by rw [ex_facts]; decide) (by rw [ex_facts]; decide) (by decide)
  unfold ofF
  rw [← h]
  decide
end Go.Proofs.Ytoekfmdcplphmaa.H

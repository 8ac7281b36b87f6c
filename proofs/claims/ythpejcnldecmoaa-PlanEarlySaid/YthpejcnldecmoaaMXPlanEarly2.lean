/- RowPlanEarly of the seat's law PlanEarly: the law holds, under the statement's own conditions. -/
import Derived.Test.YthpejcnldecmoaaMD2
import Derived.Test.YthpejcnldecmoaaMA
import Derived.Test.YthpejcnldecmoaaMXPlanEarly1
import Derived.Test.YthpejcnldecmoaaMXPlanEarly
import Derived.Test.YthpejcnldecmoaaRows
import Derived.Test.YthpejcnldecmoaaWSized
import Derived.WalkKit
import Derived.ProofKit
import Derived.OpenShut
import Derived.ShutString
import Derived.ChangeOld
import Derived.Below
import Derived.SizedLaws
import Derived.Carry
/- PlanEarly: what asks stands as early as can be. Conditions: the statement's own. -/
namespace Go.Proofs.Ythpejcnldecmoaa.H
open Go.RowKit Go.Proofs.YthpejcnldecmoaaW.PrintWords
set_option linter.unusedVariables false
set_option linter.unusedSimpArgs false
theorem early_ints {l : List Nat} {n k : Nat} (h : l[n]? = some k) : (n : Int) < ((ints l).length : Int) ∧ rd (ints l) (n : Int) = (k : Int) := by
  have h1 := (List.getElem?_eq_some_iff.1 h).1
  refine ⟨by rw [ints_len']; omega, ?_⟩
  exact getD_at (by simp [ints, h]) _
section
variable (p : ByteArray) (h : List Term) (body : List Liter) (hl : body.length ≤ 20) (ha : ∀ y ∈ body, y.atom.args.length ≤ 20) (l : List Nat) (T : Traced body (-1) l)
include hl ha T
theorem early_bound (i : Nat) : (boundOf body (l.take i)).length ≤ 20000 := by
  have hll := T.len
  have := boundOf_len body (fun y hy => by have := ha y hy; omega) (l.take i) (fun j hj => by
    obtain ⟨a, ha', rfl⟩ := List.mem_take_iff_getElem.1 hj
    exact (T.fresh (List.getElem?_eq_getElem (by omega))).1)
  have : (l.take i).length ≤ 20 := by simp; omega
  omega
theorem early_lit {j m : Nat} (hj : l[j]? = some m) : body[m]? = some (lit body m) ∧ m < body.length ∧ (lit body m).atom.args.length ≤ 20 := by
  have := hl
  have hmb := (T.fresh hj).1
  have lm : body[m]? = some (lit body m) := by rw [lit_of (List.getElem?_eq_getElem hmb)]; exact List.getElem?_eq_getElem hmb
  exact ⟨lm, hmb, ha _ (List.mem_of_getElem? lm)⟩
theorem early_l1 (i k : Nat) (hi : l[i]? = some k) (hk : (lit body k).kind = 1) (next : Ev (fun n => lambrequinlaw13_PlanEarly.l0 n true (ints l) (boundOf body (l.take (i + 1))) ((i + 1 : Nat) : Int) p h body) true)
    (z0 : Int) (z3 : ByteArray) (z4 : Bool) (z5 : ByteArray) (z6 : Bool) (z7 : ByteArray) (z8 : Int) (z9 : Bool) (z10 : ByteArray) (z11 : Bool) (z12 : ByteArray) (z13 : Int) :
    ∀ (d j : Nat), j + d = l.length → i < j → Ev (fun n => lambrequinlaw13_PlanEarly.l1 n true (ints l) (boundOf body (l.take i)) i j p h body z0 (lit body k).atom.pred (lit body k).atom.args z3 z4 z5 z6 z7 z8 z9 z10 z11 z12 z13) true := by
  obtain ⟨ly, hkb, hay⟩ := early_lit body hl ha l T hi
  have hll := T.len
  have hbl := early_bound body hl ha l T i
  intro d
  induction d with
  | zero =>
    intro j e hij
    refine Ev.step (fun k => by rw [lambrequinlaw13_PlanEarly.l1]) ?_
    rw [wrap_up (show i < 9223372036854775807 by omega)]
    have := names_len (lit body k).atom.args
    refine Ev.neg (by rw [ints_len']; omega) (Ev.bind (Vars_ev _ _ (by omega)) (Ev.pos (by omega) ?_))
    rw [List.take_add_one, hi, Option.toList_some, boundOf_snoc, if_pos hk] at next
    exact next
  | succ d ih =>
    intro j e hij
    obtain ⟨m, hj⟩ : ∃ m, l[j]? = some m := ⟨l[j], List.getElem?_eq_getElem (by omega)⟩
    obtain ⟨g1, g2⟩ := early_ints hj
    obtain ⟨lm, hmb, ham⟩ := early_lit body hl ha l T hj
    have next' := ih (j + 1) (by omega) (by omega)
    refine Ev.step (fun k => by rw [lambrequinlaw13_PlanEarly.l1]) ?_
    refine Ev.pos g1 (Ev.pos (by omega) ?_)
    rw [g2]
    refine Ev.neg (by omega) (Ev.step (fun k => by rw [lambrequinlaw13_PlanEarly.j4]) ?_)
    refine Ev.neg (by simp; omega) (Ev.pos (by omega) (Ev.pos g1 ?_))
    rw [g2]
    refine Ev.pos (by omega) (Ev.pos (by omega) ?_)
    rw [show rd_T47 body (m : Int) = lit body m from getD_at lm _]
    rw [← wrap_up (show j < 9223372036854775807 by omega)] at next'
    by_cases c : (lit body m).kind = 1
    · exact Ev.pos c (Ev.step (fun k => by rw [lambrequinlaw13_PlanEarly.j5]) (Ev.neg (by simp) next'))
    · have G := T.early hi hk hij hj c
      refine Ev.neg c (Ev.pure (Terms_eq _) (Ev.bind (Known_ev _ _ (by omega) (by unfold litTerms; split; simp; omega)) ?_))
      rw [G]
      exact Ev.step (fun k => by rw [lambrequinlaw13_PlanEarly.j5]) (Ev.neg (by simp) next')
theorem early_l0 : ∀ (d i : Nat), i + d = l.length → Ev (fun n => lambrequinlaw13_PlanEarly.l0 n true (ints l) (boundOf body (l.take i)) i p h body) true := by
  intro d
  induction d with
  | zero =>
    intro i e
    refine Ev.step (fun k => by rw [lambrequinlaw13_PlanEarly.l0]) ?_
    exact Ev.neg (by rw [ints_len']; omega) (Ev.now _)
  | succ d ih =>
    intro i e
    obtain ⟨k, hi⟩ : ∃ k, l[i]? = some k := ⟨l[i], List.getElem?_eq_getElem (by omega)⟩
    obtain ⟨h1, h2⟩ := early_ints hi
    obtain ⟨ly, hkb, hay⟩ := early_lit body hl ha l T hi
    have hll := T.len
    have next := ih (i + 1) (by omega)
    refine Ev.step (fun k => by rw [lambrequinlaw13_PlanEarly.l0]) ?_
    refine Ev.pos h1 (Ev.pos (by omega) ?_)
    rw [h2]
    refine Ev.neg (by omega) (Ev.step (fun k => by rw [lambrequinlaw13_PlanEarly.j2]) ?_)
    refine Ev.neg (by simp; omega) (Ev.pos (by omega) (Ev.pos h1 ?_))
    rw [h2]
    refine Ev.pos (by omega) (Ev.pos (by omega) ?_)
    rw [show rd_T47 body (k : Int) = lit body k from getD_at ly _, wrap_up (show i < 9223372036854775807 by omega)]
    by_cases c : (lit body k).kind = 1
    · exact Ev.pos c (early_l1 p h body hl ha l T i k hi c next _ _ _ _ _ _ _ _ _ _ _ _ d (i + 1) (by omega) (by omega))
    · rw [List.take_add_one, hi, Option.toList_some, boundOf_snoc, if_neg c] at next
      exact Ev.neg c next
end
theorem PlanEarly_pure (x0 : Rule) (n1 : x0.head.args.length ≤ 9223372036854775807) (n2 : x0.body.length ≤ 9223372036854775807) :
    ∃ k, lambrequinlaw13_PlanEarly.f k x0.head.pred x0.head.args x0.body = some true := by
  refine Ev.rounds (g := fun k => lambrequinlaw13_PlanEarly.f k x0.head.pred x0.head.args x0.body) ?_
  unfold lambrequinlaw13_PlanEarly.f
  refine Ev.pure rfl (Ev.bind (few_ev _ _ _ n2) ?_)
  cases hf : few20 x0.body with
  | false => exact Ev.neg (by simp) (Ev.now _)
  | true =>
    obtain ⟨hl, ha⟩ := few20_iff.1 hf
    refine Ev.pos rfl (Ev.pure (pOrder_eq _ _ _ _ (by omega) (fun y hy => by have := ha y hy; omega)) ?_)
    rcases order_code x0.body (-1) with ⟨h0, T⟩ | ⟨h0, _⟩
    · refine Ev.pos h0 (Ev.step (fun k => by rw [lambrequinlaw13_PlanEarly.j0]) ?_)
      refine Ev.neg (by simp [ints_len', T.len]) ?_
      exact early_l0 _ _ _ hl ha _ T _ 0 (Nat.zero_add _)
    · refine Ev.neg h0 (Ev.step (fun k => by rw [lambrequinlaw13_PlanEarly.j0]) ?_)
      exact Ev.pos rfl (Ev.pos rfl (Ev.some (by simpa using h0)))
theorem PlanEarly_walk (w : World) (x0 : Rule) (A0_1 : Option Addr) (c0_1 : Nat) (l0_1 : x0.head.args.length ≤ c0_1) (g0_1 : Kd.C k45 w A0_1 x0.head.args.length x0.head.args) (A0_2 : Option Addr) (c0_2 : Nat) (l0_2 : x0.body.length ≤ c0_2) (g0_2 : Kd.C k47 w A0_2 x0.body.length x0.body) :
    Calls Try.prog 5 #[.agg #[.string x0.head.pred, .slice A0_1 x0.head.args.length c0_1, .slice A0_2 x0.body.length c0_2]] w fun e w' => e = .returned (.bool true) ∧ Below w.heap.size w w' := by
  obtain ⟨k, h⟩ := PlanEarly_pure x0 g0_1.2.1 g0_2.2.1
  exact (lambrequinlaw13_PlanEarly.calls k x0.head.pred A0_1 c0_1 x0.head.args A0_2 c0_2 x0.body true w g0_1 l0_1 g0_2 l0_2 h).mono (fun e w' h' => ⟨h'.1, h'.2⟩)
end Go.Proofs.Ythpejcnldecmoaa.H
namespace Go.Proofs.Ythpejcnldecmoaa.planEarly
open Go.ChangeShapes Go.WideShapes Go.ChangeAt Go.RowKit Go.Proofs.Ythpejcnldecmoaa.H Go.Proofs.YthpejcnldecmoaaW.PrintWords
open Go.ChangeMaps (open_string shut_string)
set_option linter.unusedVariables false
theorem own : ownKnob Try.prog.godebug = none := by kernel_rfl
theorem laidOut : laidOutB Try.prog = true := by kernel_rfl
set_option maxRecDepth 100000 in
theorem lifted (os : Os) (started : os.Started) (H : Type) (enc : TypeId × Value → H) :
    ReturnsInHanded {} Try.checked os 5 .any (Rows.planEarlySpec.pre6 enc Try.prog Try.f5 Rows.planEarlyRow.domain false) (Rows.planEarlySpec.post enc Try.prog Try.f5 false true false false) := by
  refine returnsInHanded_of_change_sized (C := Try.checked) own started (by kernel_rfl) Try.func5
    (ChangeSpec.witness6 (enc := enc) (C := Try.checked) false ⟨#[], #[.agg #[.string ⟨#[]⟩, .slice none 0 0, .slice none 0 0]], []⟩ 8 (by kernel_rfl) (by kernel_rfl) (by kernel_rfl) (by kernel_rfl)) ?_
  intro W base args ds gs before hval0 hW hcnd hsz0 _
  have hsz : (DataW.weightsEach Try.prog (Try.f5.params.toList ++ Rows.planEarlySpec.plain.varTypes Try.prog) (ds ++ gs)).all (· ≤ reachBytes) = true := hsz0
  have hval : ∀ (j : Nat) t v, Try.f5.params[j]? = some t → args[j]? = some v → Value.okWide Try.prog W .any base t v := hval0
  have hW' := hW
  obtain ⟨p, q, hA0, hV, rfl, hfz, hnd⟩ := hW
  have hA : DataW.TrodAll enc Try.prog W 0 (fun _ => true) true Try.f5.params.toList args.toList ds p := hA0
  rw [Try.params5] at hA hval hsz
  obtain ⟨v0, vs0, d0, ds0, p0, q0, hargs, rfl, rfl, h0, r0⟩ := trodAll_cons hA
  obtain ⟨rfl, rfl, rfl⟩ := trodAll_nil r0
  obtain rfl : args = #[v0] := by cases args; simp_all
  obtain ⟨rfl, rfl⟩ := trodVars_none hV
  have k0 := h0
  have lt0 : ∀ x ∈ p0, x.block < W.heap.size := by obtain ⟨m, hm⟩ := k0; exact DataW.trod_lt m _ _ _ hm
  obtain ⟨cs0, rfl, -⟩ := okWide_struct Try.underlying27 (hval 0 27 v0 rfl rfl)
  obtain ⟨x0, g0⟩ := opens_Rule.arg k0
  obtain ⟨A0_1, c0_1, A0_2, c0_2, e0, l0_1, g0_1, l0_2, g0_2⟩ := k27_open g0
  obtain ⟨cl0⟩ := cs0
  obtain rfl : cl0 = _ := e0
  clear hA0 hval0 hsz0 hsz
  refine (PlanEarly_walk W x0 A0_1 c0_1 l0_1 g0_1 A0_2 c0_2 l0_2 g0_2).mono fun e W' ⟨he, bel⟩ => ?_
  subst he
  exact ⟨_, rfl, _, _, _, [], _, [], hW', trodAll_mk1 (shut_bool Try.underlying4 _), (trodAll_cons_mk (Below.trod laidOut (by kernel_rfl) (of_decide_eq_true (by kernel_rfl)) k0 bel lt0) trodAll_mk0), rfl, bel.frame _, fun h => by cases h⟩
theorem over : Rows.planEarlyRow.holds Try.pinned (OpenSpec.ofChange Rows.planEarlySpec) :=
  OpenClaim.holds_of_wide 5 Try.f5 rfl rfl rfl rfl rfl rfl rfl ⟨rfl, rfl, rfl, rfl, rfl⟩ rfl rfl rfl rfl rfl (by kernel_rfl) Try.func5 (by kernel_rfl)
    (of_decide_eq_true (by kernel_rfl)) (by unfold Func.isWrapper; first | (rw [if_pos (by decide +kernel)]; kernel_rfl) | (rw [if_neg (by decide +kernel)]; exact ⟨rfl, rfl⟩))
    (fun os started H enc _ => lifted os started H enc)
theorem proved : Rows.PlanEarlySaid := over
end Go.Proofs.Ythpejcnldecmoaa.planEarly
namespace Go.Proofs.Ythpejcnldecmoaa
theorem planEarly_holds : Rows.PlanEarlySaid := planEarly.proved
#print axioms planEarly_holds
end Go.Proofs.Ythpejcnldecmoaa

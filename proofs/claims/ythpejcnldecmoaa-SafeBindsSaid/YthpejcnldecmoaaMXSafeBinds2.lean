/- RowSafeBinds of the seat's law SafeBinds: the law holds, under the statement's own conditions. -/
import Derived.Test.YthpejcnldecmoaaMF
import Derived.Test.YthpejcnldecmoaaMXSafeBinds1
import Derived.Test.YthpejcnldecmoaaMA
import Derived.Test.YthpejcnldecmoaaRows
import Derived.Test.YthpejcnldecmoaaWSized
import Derived.WalkKit
import Derived.ProofKit
import Derived.OpenShut
import Derived.ShutString
import Derived.ChangeOld
import Derived.Below
import Derived.SizedLaws
import Derived.Carry
/- SafeBinds: an atom of all that a rule uses makes it safe; a rule that is safe stays so with one more atom; without a body one is safe just if its head has no variables. Conditions: the statement's own. -/
namespace Go.Proofs.Ythpejcnldecmoaa.H
open Go.RowKit Go.Proofs.YthpejcnldecmoaaW.PrintWords
set_option linter.unusedVariables false
set_option linter.unusedSimpArgs false
set_option linter.unusedSectionVars false
def allT (y : Liter) : List Term := [y.l, y.r] ++ y.atom.args
def posL (p : ByteArray) (l : List Term) : Liter := ⟨1, ⟨p, l⟩, ⟨#[]⟩, ⟨false, ⟨#[]⟩, ⟨false, ⟨#[]⟩, 0⟩⟩, ⟨false, ⟨#[]⟩, ⟨false, ⟨#[]⟩, 0⟩⟩⟩
theorem mem_boundS_more {x : ByteArray} {body : List Liter} {p : ByteArray} {l : List Term} : x ∈ boundS (body ++ [posL p l]) ↔ x ∈ boundS body ∨ x ∈ names l := by
  rw [mem_boundS, mem_boundS]
  constructor
  · rintro ⟨y, hy, h⟩
    rcases List.mem_append.1 hy with hy | hy
    · exact .inl ⟨y, hy, h⟩
    · rw [List.mem_singleton.1 hy] at h
      exact .inr h.2
  · rintro (⟨y, hy, h⟩ | h)
    · exact ⟨y, by simp [hy], h⟩
    · exact ⟨posL p l, by simp, rfl, h⟩
theorem used_posL (p : ByteArray) (l : List Term) : usedS (posL p l) = [] := rfl
theorem safe_more {hd : List Term} {body : List Liter} (p : ByteArray) (l : List Term) (h : safeP hd body) : safeP hd (body ++ [posL p l]) := by
  refine ⟨fun x hx => mem_boundS_more.2 (.inl (h.1 x hx)), fun y hy x hx => ?_⟩
  rcases List.mem_append.1 hy with hy | hy
  · exact mem_boundS_more.2 (.inl (h.2 y hy x hx))
  · rw [List.mem_singleton.1 hy, used_posL] at hx
    simp at hx
theorem safe_all (hd : List Term) (body : List Liter) (p : ByteArray) : safeP hd (body ++ [posL p (hd ++ body.flatMap allT)]) := by
  have hin : ∀ (l : List Term) x, (∀ t ∈ l, t ∈ hd ++ body.flatMap allT) → x ∈ names l → x ∈ names (hd ++ body.flatMap allT) := by
    intro l x hl hx
    obtain ⟨t, ht, h⟩ := mem_names.1 hx
    exact mem_names.2 ⟨t, hl t ht, h⟩
  refine ⟨fun x hx => mem_boundS_more.2 (.inr (hin hd x (fun t ht => by simp [ht]) hx)), fun y hy x hx => ?_⟩
  rcases List.mem_append.1 hy with hy | hy
  · refine mem_boundS_more.2 (.inr ?_)
    have hm : ∀ t ∈ allT y, t ∈ hd ++ body.flatMap allT := fun t ht => List.mem_append.2 (.inr (List.mem_flatMap.2 ⟨y, hy, ht⟩))
    unfold usedS at hx
    split at hx
    · exact hin y.atom.args x (fun t ht => hm t (by simp [allT, ht])) hx
    · split at hx
      · exact hin [y.l, y.r] x (fun t ht => hm t (List.mem_append.2 (.inl ht))) hx
      · simp at hx
  · rw [List.mem_singleton.1 hy, used_posL] at hx
    simp at hx
theorem safe_nobody (hd : List Term) : safeP hd [] ↔ names hd = [] := by
  have : boundS [] = [] := List.eq_nil_iff_forall_not_mem.2 fun x hx => by
    obtain ⟨y, hy, _⟩ := mem_boundS.1 hx
    simp at hy
  unfold safeP
  rw [this]
  constructor
  · rintro ⟨h, -⟩; exact List.eq_nil_iff_forall_not_mem.2 fun x hx => by simpa using h x hx
  · intro h; rw [h]; simp
theorem chk_head {hd : List Term} (h : ¬ names hd = []) : (chkS hd []).2.1 = -1 := by
  have hb : boundS [] = [] := List.eq_nil_iff_forall_not_mem.2 fun x hx => by
    obtain ⟨y, hy, _⟩ := mem_boundS.1 hx
    simp at hy
  unfold chkS
  rw [hb, List.map_nil, chk]
  have : idxP (fun s => !mem s []) (names hd) 0 ≥ 0 := by
    rw [idxP_none]
    obtain ⟨x, hx⟩ := List.exists_mem_of_ne_nil _ h
    exact ⟨x, hx, by simp [mem]⟩
  rw [if_pos this]
  show wrap64 ((-1) + ((0 : Nat) : Int)) = -1
  unfold wrap64
  omega
section
variable (p : ByteArray) (hd : List Term) (body : List Liter) (q : ByteArray) (al : List Term) (hb : body.length ≤ 30) (hh : hd.length ≤ 30) (ha : ∀ y ∈ body, y.atom.args.length ≤ 30) (hal : al.length ≤ 30)
include hb hh ha hal
theorem Binds_j3 (c1 c2 c3 : Int) (at_ : Int) (c4 : Int) (n : Bool) (h2 : c2 = 0) (h1 : c1 = 0 → c3 = 0) (h4 : (c4 == 0) = n) (h5 : n = true ∨ at_ = -1) : Ev (fun k => lambrequinlaw09_SafeBinds.j3 k true c1 c2 c3 at_ c4 n) true := by
  refine Ev.step (fun k => by rw [lambrequinlaw09_SafeBinds.j3]) ?_
  have fin : Ev (fun k : Nat => if ((c4 == 0) == n) = true then (if n = true then some true else some (at_ == (-1))) else some false) true := by
    refine Ev.pos (by rw [h4]; simp) ?_
    cases n with
    | true => exact Ev.pos rfl (Ev.now _)
    | false => exact Ev.neg (by simp) (Ev.some (by rcases h5 with h | h; cases h; rw [h]; rfl))
  refine Ev.pos rfl (Ev.pos h2 ?_)
  by_cases h : c1 = 0
  · exact Ev.pos h (Ev.pos (h1 h) fin)
  · exact Ev.neg h fin
theorem Binds_l00 : ∀ (r : List Liter) (n : Nat) (acc : List Term), body.drop n = r → n ≤ body.length → acc.length ≤ 30 + n * 32 → (hd ++ body.flatMap allT = acc ++ r.flatMap allT) →
    Ev (fun k => lambrequinlaw09_SafeBinds.l0 k true acc n p hd body q al) true
  | [], n, acc, h, hn, hc, e => by
    have ha0 : ∀ y ∈ body, y.atom.args.length ≤ 1000 := fun y hy => by have := ha y hy; omega
    have hac : acc.length ≤ 1000 := by omega
    refine Ev.step (fun k => by rw [lambrequinlaw09_SafeBinds.l0]) ?_
    refine Ev.neg (drop_end h) (Ev.bind (Check_ev p hd body (by omega) (by omega) ha0) ?_)
    have e' : acc = hd ++ body.flatMap allT := by rw [e]; simp
    have more : ∀ (pp : ByteArray) (l : List Term), l.length ≤ 1000 → (∀ y ∈ body ++ [posL pp l], y.atom.args.length ≤ 1000) := by
      intro pp l hl y hy
      rcases List.mem_append.1 hy with hy | hy
      · exact ha0 y hy
      · rw [List.mem_singleton.1 hy]; exact hl
    refine Ev.pure (a := []) rfl (Ev.pos (by simp; omega) (Ev.pure (a := body) rfl (Ev.pure (a := [posL ⟨#[97, 108, 108]⟩ acc]) rfl (Ev.pos (by simp; omega) ?_))))
    refine Ev.bind (Check_ev p hd (body ++ [posL ⟨#[97, 108, 108]⟩ acc]) (by omega) (by simp; omega) (more _ _ hac)) ?_
    refine Ev.pure (a := []) rfl (Ev.pos (by simp; omega) (Ev.pure (a := body) rfl (Ev.pure (a := [posL q al]) rfl (Ev.pos (by simp; omega) ?_))))
    refine Ev.bind (Check_ev p hd (body ++ [posL q al]) (by omega) (by simp; omega) (more _ _ (by omega))) ?_
    refine Ev.bind (Check_ev q al [] (by omega) (by simp) (by simp)) (Ev.bind (sVars_ev q al (by omega)) ?_)
    refine Binds_j3 hd body al hb hh ha hal _ _ _ _ _ _ ?_ ?_ ?_ ?_
    · rw [chkS_zero, e']; exact safe_all hd body _
    · rw [chkS_zero, chkS_zero]; exact safe_more q al
    · rw [Bool.eq_iff_iff]
      simp only [beq_iff_eq]
      rw [chkS_zero, safe_nobody]
      constructor
      · intro h; rw [h]; rfl
      · intro h; exact List.length_eq_zero_iff.1 (by omega)
    · by_cases hv : names al = []
      · exact .inl (by rw [hv]; rfl)
      · exact .inr (chk_head hv)
  | y :: r, n, acc, h, hn, hc, e => by
    obtain ⟨h1, h2, h3, h4, h5⟩ := drop_more h (by omega)
    have hy : y ∈ body := by
      have : y ∈ body.drop n := by rw [h]; simp
      exact List.mem_of_mem_drop this
    have hya := ha y hy
    have hn1 : n + 1 ≤ body.length := by omega
    refine Ev.step (fun k => by rw [lambrequinlaw09_SafeBinds.l0]) ?_
    refine Ev.pos h1 (Ev.pos h2 ?_)
    rw [show rd_T47 body n = y from h3 _, h5]
    refine Ev.pure (a := [y.l, y.r]) rfl (Ev.pos (by simp; omega) (Ev.pure (a := acc ++ [y.l, y.r]) rfl (Ev.pos (by simp; omega) ?_)))
    exact Binds_l00 r (n + 1) (acc ++ [y.l, y.r] ++ y.atom.args) h4 hn1 (by simp; omega) (by rw [e]; simp [allT])
end
theorem SafeBinds_pure (x0 : Rule) (n1 : x0.head.args.length ≤ 9223372036854775807) (n2 : x0.body.length ≤ 9223372036854775807) (x1 : Atom) (n3 : x1.args.length ≤ 9223372036854775807) :
    ∃ k, lambrequinlaw09_SafeBinds.f k x0.head.pred x0.head.args x0.body x1.pred x1.args = some true := by
  refine Ev.rounds (g := fun k => lambrequinlaw09_SafeBinds.f k x0.head.pred x0.head.args x0.body x1.pred x1.args) ?_
  unfold lambrequinlaw09_SafeBinds.f
  refine Ev.pure (a := true) rfl ?_
  refine Ev.step (fun k => by rw [lambrequinlaw09_SafeBinds.j0]) ?_
  refine Ev.bind (few30_ev _ _ _ n2) ?_
  have up : Ev (fun k => lambrequinlaw09_SafeBinds.j1 k true true x0.head.pred x0.head.args x0.body x1.pred x1.args) true := by
    refine Ev.step (fun k => by rw [lambrequinlaw09_SafeBinds.j1]) ?_
    exact Ev.pos rfl (Ev.now _)
  cases hf : few30 x0.head.args x0.body with
  | false => exact Ev.neg (by simp) up
  | true =>
    obtain ⟨hb, hh, ha⟩ := few30_iff.1 hf
    refine Ev.pos rfl ?_
    by_cases c0 : (x1.args.length : Int) > 30
    · rw [decide_eq_true c0]; exact up
    · rw [decide_eq_false c0]
      refine Ev.step (fun k => by rw [lambrequinlaw09_SafeBinds.j1]) ?_
      refine Ev.neg (by simp) (Ev.pure (a := []) rfl (Ev.pos (by simp; omega) ?_))
      exact Binds_l00 x0.head.pred x0.head.args x0.body x1.pred x1.args hb hh ha (by omega) x0.body 0 _ rfl (by omega) (by simp; omega) (by simp)
theorem SafeBinds_walk (w : World) (x0 : Rule) (A0_1 : Option Addr) (c0_1 : Nat) (l0_1 : x0.head.args.length ≤ c0_1) (g0_1 : Kd.C k45 w A0_1 x0.head.args.length x0.head.args) (A0_2 : Option Addr) (c0_2 : Nat) (l0_2 : x0.body.length ≤ c0_2) (g0_2 : Kd.C k47 w A0_2 x0.body.length x0.body) (x1 : Atom) (A1_1 : Option Addr) (c1_1 : Nat) (l1_1 : x1.args.length ≤ c1_1) (g1_1 : Kd.C k45 w A1_1 x1.args.length x1.args) :
    Calls Try.prog 10 #[.agg #[.string x0.head.pred, .slice A0_1 x0.head.args.length c0_1, .slice A0_2 x0.body.length c0_2], .agg #[.string x1.pred, .slice A1_1 x1.args.length c1_1]] w fun e w' => e = .returned (.bool true) ∧ Below w.heap.size w w' := by
  obtain ⟨k, h⟩ := SafeBinds_pure x0 g0_1.2.1 g0_2.2.1 x1 g1_1.2.1
  exact (lambrequinlaw09_SafeBinds.calls k x0.head.pred A0_1 c0_1 x0.head.args (fun _ => True) A0_2 c0_2 x0.body x1.pred (fun _ => True) A1_1 c1_1 x1.args true w g0_1 l0_1 (Kd.V_mk l0_2 (fun W' hW => (k47_heap).C (fun k hk => hW k trivial hk) g0_2)) (Kd.V_mk l1_1 (fun W' hW => (k45_heap).C (fun k hk => hW k trivial hk) g1_1)) h).mono (fun e w' h' => ⟨h'.1, h'.2⟩)
end Go.Proofs.Ythpejcnldecmoaa.H
namespace Go.Proofs.Ythpejcnldecmoaa.safeBinds
open Go.ChangeShapes Go.WideShapes Go.ChangeAt Go.RowKit Go.Proofs.Ythpejcnldecmoaa.H Go.Proofs.YthpejcnldecmoaaW.PrintWords
open Go.ChangeMaps (open_string shut_string)
set_option linter.unusedVariables false
theorem own : ownKnob Try.prog.godebug = none := by kernel_rfl
theorem laidOut : laidOutB Try.prog = true := by kernel_rfl
set_option maxRecDepth 100000 in
theorem lifted (os : Os) (started : os.Started) (H : Type) (enc : TypeId × Value → H) :
    ReturnsInHanded {} Try.checked os 10 .any (Rows.safeBindsSpec.pre6 enc Try.prog Try.f10 Rows.safeBindsRow.domain false) (Rows.safeBindsSpec.post enc Try.prog Try.f10 false true false false) := by
  refine returnsInHanded_of_change_sized (C := Try.checked) own started (by kernel_rfl) Try.func10
    (ChangeSpec.witness6 (enc := enc) (C := Try.checked) false ⟨#[], #[.agg #[.string ⟨#[]⟩, .slice none 0 0, .slice none 0 0], .agg #[.string ⟨#[]⟩, .slice none 0 0]], []⟩ 8 (by kernel_rfl) (by kernel_rfl) (by kernel_rfl) (by kernel_rfl)) ?_
  intro W base args ds gs before hval0 hW hcnd hsz0 _
  have hsz : (DataW.weightsEach Try.prog (Try.f10.params.toList ++ Rows.safeBindsSpec.plain.varTypes Try.prog) (ds ++ gs)).all (· ≤ reachBytes) = true := hsz0
  have hval : ∀ (j : Nat) t v, Try.f10.params[j]? = some t → args[j]? = some v → Value.okWide Try.prog W .any base t v := hval0
  have hW' := hW
  obtain ⟨p, q, hA0, hV, rfl, hfz, hnd⟩ := hW
  have hA : DataW.TrodAll enc Try.prog W 0 (fun _ => true) true Try.f10.params.toList args.toList ds p := hA0
  rw [Try.params10] at hA hval hsz
  obtain ⟨v0, vs0, d0, ds0, p0, q0, hargs, rfl, rfl, h0, r0⟩ := trodAll_cons hA
  obtain ⟨v1, vs1, d1, ds1, p1, q1, rfl, rfl, rfl, h1, r1⟩ := trodAll_cons r0
  obtain ⟨rfl, rfl, rfl⟩ := trodAll_nil r1
  obtain rfl : args = #[v0, v1] := by cases args; simp_all
  obtain ⟨rfl, rfl⟩ := trodVars_none hV
  have k0 := h0
  have lt0 : ∀ x ∈ p0, x.block < W.heap.size := by obtain ⟨m, hm⟩ := k0; exact DataW.trod_lt m _ _ _ hm
  obtain ⟨cs0, rfl, -⟩ := okWide_struct Try.underlying27 (hval 0 27 v0 rfl rfl)
  obtain ⟨x0, g0⟩ := opens_Rule.arg k0
  obtain ⟨A0_1, c0_1, A0_2, c0_2, e0, l0_1, g0_1, l0_2, g0_2⟩ := k27_open g0
  obtain ⟨cl0⟩ := cs0
  obtain rfl : cl0 = _ := e0
  have k1 := h1
  have lt1 : ∀ x ∈ p1, x.block < W.heap.size := by obtain ⟨m, hm⟩ := k1; exact DataW.trod_lt m _ _ _ hm
  obtain ⟨cs1, rfl, -⟩ := okWide_struct Try.underlying24 (hval 1 24 v1 rfl rfl)
  obtain ⟨x1, g1⟩ := opens_Atom.arg k1
  obtain ⟨A1_1, c1_1, e1, l1_1, g1_1⟩ := k24_open g1
  obtain ⟨cl1⟩ := cs1
  obtain rfl : cl1 = _ := e1
  clear hA0 hval0 hsz0 hsz
  refine (SafeBinds_walk W x0 A0_1 c0_1 l0_1 g0_1 A0_2 c0_2 l0_2 g0_2 x1 A1_1 c1_1 l1_1 g1_1).mono fun e W' ⟨he, bel⟩ => ?_
  subst he
  exact ⟨_, rfl, _, _, _, [], _, [], hW', trodAll_mk1 (shut_bool Try.underlying4 _), (trodAll_cons_mk (Below.trod laidOut (by kernel_rfl) (of_decide_eq_true (by kernel_rfl)) k0 bel lt0) (trodAll_cons_mk (Below.trod laidOut (by kernel_rfl) (of_decide_eq_true (by kernel_rfl)) k1 bel lt1) trodAll_mk0)), rfl, bel.frame _, fun h => by cases h⟩
theorem over : Rows.safeBindsRow.holds Try.pinned (OpenSpec.ofChange Rows.safeBindsSpec) :=
  OpenClaim.holds_of_wide 10 Try.f10 rfl rfl rfl rfl rfl rfl rfl ⟨rfl, rfl, rfl, rfl, rfl⟩ rfl rfl rfl rfl rfl (by kernel_rfl) Try.func10 (by kernel_rfl)
    (of_decide_eq_true (by kernel_rfl)) (by unfold Func.isWrapper; first | (rw [if_pos (by decide +kernel)]; kernel_rfl) | (rw [if_neg (by decide +kernel)]; exact ⟨rfl, rfl⟩))
    (fun os started H enc _ => lifted os started H enc)
theorem proved : Rows.SafeBindsSaid := over
end Go.Proofs.Ythpejcnldecmoaa.safeBinds
namespace Go.Proofs.Ythpejcnldecmoaa
theorem safeBinds_holds : Rows.SafeBindsSaid := safeBinds.proved
#print axioms safeBinds_holds
end Go.Proofs.Ythpejcnldecmoaa

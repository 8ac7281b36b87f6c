/- RowCfgLeads of the seat's law CfgLeads: the law holds, under the statement's own conditions. -/
import Derived.Test.YtnepgcbgkhikkaaND
import Derived.Test.YtnepgcbgkhikkaaNXCfgLeads
import Derived.Test.YtnepgcbgkhikkaaNXCfgLeads2
import Derived.Test.YtnepgcbgkhikkaaNA
import Derived.Sort.Walk0
import Derived.Test.YtnepgcbgkhikkaaRows
import Derived.Test.YtnepgcbgkhikkaaNW
import Derived.WalkKit
import Derived.ProofKit
import Derived.OpenShut
import Derived.ShutString
import Derived.ChangeOld
import Derived.Below
import Derived.SizedLaws
import Derived.Carry
/- CfgLeads: where any statement leads, what leads to it, what it defines and uses, and all names, are the document's. Conditions: the statement's own. -/
namespace Go.Proofs.Ytnepgcbgkhikkaa.H
open Go.RowKit Go.Proofs.YtnepgcbgkhikkaaW.PrintWords
set_option linter.unusedVariables false
set_option linter.unusedSimpArgs false
set_option linter.unusedSectionVars false
theorem Same_l0 (a b : List ByteArray) (e : a.length = b.length) (hl : a.length ≤ 9223372036854775807) : ∀ (r s : List ByteArray) (n : Nat), a.drop n = r → b.drop n = s → Ev (fun k => lambrequinref09_Same.l0 k a b n) (decide (r = s))
  | [], s, n, h, h' => by
    refine Ev.step (fun k => by rw [lambrequinref09_Same.l0]) ?_
    have : s = [] := by
      have h1 := congrArg List.length h; have h2 := congrArg List.length h'
      simp at h1 h2
      cases s <;> simp at h2 ⊢
      omega
    exact Ev.neg (drop_end h) (Ev.some (by simp [this]))
  | y :: r, [], n, h, h' => by
    have h1 := congrArg List.length h; have h2 := congrArg List.length h'
    simp at h1 h2
    omega
  | y :: r, z :: s, n, h, h' => by
    obtain ⟨h1, h2, h3, h4, h5⟩ := drop_more h (by omega)
    obtain ⟨g1, g2, g3, g4, g5⟩ := drop_more h' (by omega)
    refine Ev.step (fun k => by rw [lambrequinref09_Same.l0]) ?_
    refine Ev.pos h1 (Ev.pos h2 (Ev.pos g1 ?_))
    rw [show rdOf ByteArray.empty a n = y from h3 _, show rdOf ByteArray.empty b n = z from g3 _, h5]
    by_cases c : y = z
    · subst c
      exact Ev.pos rfl (Ev.iff (Same_l0 a b e hl r s (n + 1) h4 g4) (by simp))
    · exact Ev.neg (by rw [lib_ba_eq]; exact c) (Ev.some (by simp [c]))
theorem Same_ev (a b : List ByteArray) (hl : a.length ≤ 9223372036854775807) : Ev (fun k => lambrequinref09_Same.f k a b) (decide (a = b)) := by
  unfold lambrequinref09_Same.f
  by_cases c : a.length = b.length
  · exact Ev.pos (by omega) (Same_l0 a b c hl a b 0 rfl rfl)
  · exact Ev.neg (by omega) (Ev.some (by rw [eq_comm, decide_eq_false_iff_not]; rintro rfl; exact c rfl))
def SS (l : List ByteArray) : Prop := (l.map toL).Pairwise (· < ·)
theorem SS_nodup {l : List ByteArray} (h : SS l) : (l.map toL).Nodup := List.Pairwise.imp (R := (· < ·)) (fun {a b} h => by rintro rfl; exact List.lt_irrefl a h) h
theorem SS_ext {a b : List ByteArray} (ha : SS a) (hb : SS b) (h : ∀ x, x ∈ a ↔ x ∈ b) : a = b := by
  have e : a.map toL = b.map toL := by
    refine List.Perm.eq_of_pairwise (le := (· < ·)) ?_ ha hb ((List.perm_ext_iff_of_nodup (SS_nodup ha) (SS_nodup hb)).2 fun x => ?_)
    · intro a b _ _ h1 h2
      exact absurd (List.lt_trans h1 h2) (List.lt_irrefl a)
    · rw [List.mem_map, List.mem_map]
      exact ⟨fun ⟨y, hy, e⟩ => ⟨y, (h y).1 hy, e⟩, fun ⟨y, hy, e⟩ => ⟨y, (h y).2 hy, e⟩⟩
  have := congrArg (List.map ofL) e
  rw [List.map_map, List.map_map] at this
  have e2 : (ofL ∘ toL) = (id : ByteArray → ByteArray) := by funext x; simp [ofL_toL]
  simpa [e2] using this
theorem less_iff (a b : ByteArray) : Op.bytesLess a.toList b.toList = true ↔ toL a < toL b := by
  rw [Proofs.bytesLess_eq, ByteArray.toList_eq, ByteArray.toList_eq, decide_eq_true_iff]
  rfl
theorem SS_insert {x3 : List ByteArray} {y : ByteArray} {n : Nat} (hs : SS x3) (h1 : ∀ z ∈ x3.drop n, toL y < toL z) (h2 : ∀ z ∈ x3.take n, toL z < toL y) : SS (x3.take n ++ [y] ++ x3.drop n) := by
  unfold SS at hs ⊢
  rw [← List.take_append_drop n x3, List.map_append, List.pairwise_append] at hs
  simp only [List.map_append, List.map_cons, List.map_nil, List.append_assoc, List.singleton_append]
  rw [List.pairwise_append]
  refine ⟨hs.1, List.pairwise_cons.2 ⟨fun z hz => ?_, hs.2.1⟩, fun a ha b hb => ?_⟩
  · obtain ⟨q, hq, rfl⟩ := List.mem_map.1 hz; exact h1 q hq
  · rcases List.mem_cons.1 hb with rfl | hb
    · obtain ⟨q, hq, rfl⟩ := List.mem_map.1 ha; exact h2 q hq
    · exact hs.2.2 a ha b hb
theorem Sorted_l1 (l : List ByteArray) (x3 : List ByteArray) (i : Nat) (y : ByteArray) (hl : l.length ≤ 1000000) (hx : x3.length ≤ 1000000) (hy : l[i]? = some y) (hs : SS x3) (hno : ¬ y ∈ x3) (R : List ByteArray)
    (go : ∀ x', SS x' → (∀ x, x ∈ x' ↔ x = y ∨ x ∈ x3) → x'.length = x3.length + 1 → Ev (fun k => lambrequinref09_Sorted.l0 k l x' ((i + 1 : Nat) : Int)) R) : ∀ (n : Nat), n ≤ x3.length → (∀ z ∈ x3.drop n, toL y < toL z) →
    Ev (fun k => lambrequinref09_Sorted.l1 k l x3 i n) R := by
  have hil : i < l.length := (List.getElem?_eq_some_iff.1 hy).1
  have put : ∀ n : Nat, n ≤ x3.length → (∀ z ∈ x3.drop n, toL y < toL z) → (∀ z ∈ x3.take n, toL z < toL y) → Ev (fun k => lambrequinref09_Sorted.l0 k l ([] ++ x3.take n ++ [y] ++ x3.drop n) ((i + 1 : Nat) : Int)) R := by
    intro n hn h1 h2
    rw [List.nil_append]
    refine go _ (SS_insert hs h1 h2) (fun x => ?_) (by simp; omega)
    rw [List.mem_append, List.mem_append, List.mem_singleton]
    constructor
    · rintro ((h | h) | h)
      · exact .inr (List.mem_of_mem_take h)
      · exact .inl h
      · exact .inr (List.mem_of_mem_drop h)
    · rintro (h | h)
      · exact .inl (.inr h)
      · rw [← List.take_append_drop n x3, List.mem_append] at h
        rcases h with h | h
        · exact .inl (.inl h)
        · exact .inr h
  intro n
  induction n with
  | zero =>
    intro hn h1
    refine Ev.step (fun k => by rw [lambrequinref09_Sorted.l1]) ?_
    refine Ev.neg (by omega) (Ev.pure (a := []) rfl (Ev.pos (by omega) (Ev.pos (by omega) (Ev.pure (a := x3.take 0) rfl (Ev.pos (by simp) (Ev.pure (a := [] ++ x3.take 0) rfl ?_))))))
    refine Ev.pos (by omega) (Ev.pos (by omega) (Ev.pos (by simp) (Ev.pure (a := [] ++ x3.take 0 ++ [y]) ?_ (Ev.pure (a := x3.drop 0) rfl (Ev.pos (by simp; omega) ?_)))))
    · rw [show rdOf ByteArray.empty l i = y from getD_at hy _]
    · rw [wrap_up (by omega)]
      exact put 0 hn h1 (by simp)
  | succ n ih =>
    intro hn h1
    have hw : wrap64 (((n + 1 : Nat) : Int) - 1) = (n : Int) := by unfold wrap64; omega
    have hp : x3[n]? = some (x3[n]'(by omega)) := List.getElem?_eq_getElem (by omega)
    have hpm : x3[n]'(by omega) ∈ x3 := List.getElem_mem _
    refine Ev.step (fun k => by rw [lambrequinref09_Sorted.l1, hw]) ?_
    refine Ev.pos (by omega) (Ev.pos (by omega) (Ev.pos (by omega) (Ev.pos (by omega) (Ev.pos (by omega) ?_))))
    rw [show rdOf ByteArray.empty l i = y from getD_at hy _, show rdOf ByteArray.empty x3 n = x3[n]'(by omega) from getD_at hp _]
    have hdrop : x3.drop n = x3[n]'(by omega) :: x3.drop (n + 1) := List.drop_eq_getElem_cons (by omega)
    by_cases c : toL y < toL (x3[n]'(by omega))
    · refine Ev.pos ((less_iff _ _).2 c) (ih (by omega) fun z hz => ?_)
      rw [hdrop] at hz
      rcases List.mem_cons.1 hz with rfl | hz
      · exact c
      · exact h1 z hz
    · refine Ev.neg (by rw [less_iff]; exact c) ?_
      have hlt : toL (x3[n]'(by omega)) < toL y := by
        rcases List.le_iff_lt_or_eq.1 (List.not_lt.1 c) with h | h
        · exact h
        · exact absurd (toL_inj h ▸ hpm) hno
      have h2 : ∀ z ∈ x3.take (n + 1), toL z < toL y := by
        intro z hz
        rw [List.take_add_one, hp] at hz
        rcases List.mem_append.1 hz with hz | hz
        · unfold SS at hs
          rw [← List.take_append_drop n x3, List.map_append, List.pairwise_append] at hs
          refine List.lt_trans (hs.2.2 (toL z) (List.mem_map.2 ⟨z, hz, rfl⟩) (toL (x3[n]'(by omega))) (List.mem_map.2 ⟨x3[n]'(by omega), by rw [hdrop]; exact List.mem_cons_self, rfl⟩)) hlt
        · simp at hz
          rw [hz]; exact hlt
      refine Ev.pure (a := []) rfl (Ev.pos (by omega) (Ev.pos (by omega) (Ev.pure (a := x3.take (n + 1)) rfl (Ev.pos (by simp; omega) (Ev.pure (a := [] ++ x3.take (n + 1)) rfl ?_)))))
      refine Ev.pos (by simp; omega) (Ev.pure (a := [] ++ x3.take (n + 1) ++ [y]) rfl (Ev.pure (a := x3.drop (n + 1)) rfl (Ev.pos (by simp; omega) ?_)))
      rw [wrap_up (by omega)]
      exact put (n + 1) hn h1 h2
theorem Sorted_l0 (l : List ByteArray) (hl : l.length ≤ 1000000) : ∀ (r : List ByteArray) (n : Nat) (x3 : List ByteArray), l.drop n = r → n ≤ l.length → SS x3 → (∀ x, x ∈ x3 ↔ x ∈ l.take n) → x3.length ≤ n → Ev (fun k => lambrequinref09_Sorted.l0 k l x3 n) (setS l)
  | [], n, x3, h, hn, hs, hm, hc => by
    have hz : l.length ≤ n := by
      have := congrArg List.length h
      simp at this
      omega
    refine Ev.step (fun k => by rw [lambrequinref09_Sorted.l0]) ?_
    refine Ev.neg (drop_end h) (Ev.some (SS_ext hs (setS_sorted l) fun x => ?_))
    rw [hm, List.take_of_length_le hz, mem_setS]
  | y :: r, n, x3, h, hn, hs, hm, hc => by
    obtain ⟨h1, h2, h3, h4, h5⟩ := drop_more h (by omega)
    have hy : l[n]? = some y := by
      have := congrArg (fun z => z[0]?) h
      simpa using this
    have htake : ∀ x, x ∈ l.take (n + 1) ↔ x = y ∨ x ∈ l.take n := by
      intro x
      rw [List.take_add_one, hy, List.mem_append]
      simp [or_comm]
    refine Ev.step (fun k => by rw [lambrequinref09_Sorted.l0]) ?_
    refine Ev.pos h1 (Ev.pos h2 ?_)
    rw [show rdOf ByteArray.empty l n = y from h3 _, h5]
    refine Ev.bind (In_ev x3 y (by omega)) ?_
    cases hmm : mem y x3 with
    | true =>
      have hyx := mem_iff.1 hmm
      refine Ev.pos rfl (Sorted_l0 l hl r (n + 1) x3 h4 (by omega) hs (fun x => ?_) (by omega))
      rw [htake, ← hm]
      exact ⟨.inr, fun h => by rcases h with rfl | h; exact hyx; exact h⟩
    | false =>
      refine Ev.neg (by simp) ?_
      refine Sorted_l1 l x3 n y hl (by omega) hy hs (by rw [← mem_iff, hmm]; simp) _ (fun x' hs' hm' hc' => ?_) x3.length (Nat.le_refl _) (by simp)
      refine Sorted_l0 l hl r (n + 1) x' h4 (by omega) hs' (fun x => ?_) (by omega)
      rw [htake, hm', hm]
theorem Sorted_ev (l : List ByteArray) (hl : l.length ≤ 1000000) : Ev (fun k => lambrequinref09_Sorted.f k l) (setS l) := Sorted_l0 l hl l 0 [] rfl (by omega) (by simp [SS]) (by simp) (by simp)
theorem mem_nxt {s : List Stmt} {n m : Int} : m ∈ nxt s n ↔ (0 ≤ n ∧ n < (s.length : Int)) ∧ (0 ≤ m ∧ m < (s.length : Int)) ∧ m ∈ nxtRaw (at_ s n) n := by
  unfold nxt
  split
  · rename_i h
    rw [List.mem_filter]
    simp [withinB, h, and_comm]
  · rename_i h
    simp [h]
theorem mem_raw {st : Stmt} {n m : Int} : m ∈ nxtRaw st n ↔ if st.kind = 7 then m = st.a ∨ m = st.b else if st.kind = 8 then m = st.a else if st.kind = 9 then False else m = wrap64 (n + 1) := by
  unfold nxtRaw srtI2
  repeat' split
  all_goals simp_all
  all_goals omega
theorem Leads_ev (s : List Stmt) (n m : Int) : Ev (fun k => lambrequinref20_Leads.f k s n m) (decide (m ∈ nxt s n)) := by
  unfold lambrequinref20_Leads.f
  have no : ¬ m ∈ nxt s n → Ev (fun k => lambrequinref20_Leads.j0 k s n m true) (decide (m ∈ nxt s n)) := fun h =>
    Ev.step (fun k => by rw [lambrequinref20_Leads.j0]) (Ev.pos rfl (Ev.some (by simp [h])))
  by_cases c1 : n < 0
  · exact Ev.pos c1 (no (by rw [mem_nxt]; omega))
  · refine Ev.neg c1 ?_
    by_cases c2 : n ≥ (s.length : Int)
    · exact Ev.pos c2 (no (by rw [mem_nxt]; omega))
    · refine Ev.neg c2 ?_
      by_cases c3 : m < 0
      · exact Ev.pos c3 (no (by rw [mem_nxt]; omega))
      · refine Ev.neg c3 ?_
        by_cases c4 : m ≥ (s.length : Int)
        · rw [decide_eq_true c4]; exact no (by rw [mem_nxt]; omega)
        · rw [decide_eq_false c4]
          have e : m ∈ nxt s n ↔ m ∈ nxtRaw (at_ s n) n := by rw [mem_nxt]; exact ⟨fun h => h.2.2, fun h => ⟨by omega, by omega, h⟩⟩
          rw [mem_raw] at e
          refine Ev.step (fun k => by rw [lambrequinref20_Leads.j0]) ?_
          refine Ev.neg (by simp) (Ev.pos (by omega) (Ev.pos (by omega) ?_))
          change Ev (fun k => if (at_ s n).kind = 7 then if m = (at_ s n).a then some true else some (m == (at_ s n).b) else if (at_ s n).kind = 8 then some (m == (at_ s n).a) else if (at_ s n).kind = 9 then some false else some (m == wrap64 (n + 1))) _
          by_cases k7 : (at_ s n).kind = 7
          · rw [if_pos k7] at e
            refine Ev.pos k7 ?_
            by_cases ca : m = (at_ s n).a
            · exact Ev.pos ca (Ev.some (decide_eq_true (e.2 (.inl ca))).symm)
            · refine Ev.neg ca (Ev.some ?_)
              rw [Bool.eq_iff_iff, decide_eq_true_iff, e]; simp [ca]
          · rw [if_neg k7] at e
            refine Ev.neg k7 ?_
            by_cases k8 : (at_ s n).kind = 8
            · rw [if_pos k8] at e
              exact Ev.pos k8 (Ev.some (by rw [Bool.eq_iff_iff, decide_eq_true_iff, e]; simp))
            · rw [if_neg k8] at e
              refine Ev.neg k8 ?_
              by_cases k9 : (at_ s n).kind = 9
              · rw [if_pos k9] at e
                exact Ev.pos k9 (Ev.some (by rw [Bool.eq_iff_iff, decide_eq_true_iff, e]; simp))
              · rw [if_neg k9] at e
                exact Ev.neg k9 (Ev.some (by rw [Bool.eq_iff_iff, decide_eq_true_iff, e]; simp))
theorem rNext_l0 (s : List Stmt) (n : Int) (hs : s.length ≤ 1000000) : ∀ (d i : Nat) (acc : List Int), i + d = s.length → acc.length ≤ i →
    Ev (fun k => lambrequinref20_Next.l0 k s n acc i) (acc ++ (((List.range' i d).map fun m : Nat => (m : Int)).filter fun m => decide (m ∈ nxt s n)))
  | 0, i, acc, e, ha => by
    refine Ev.step (fun k => by rw [lambrequinref20_Next.l0]) ?_
    exact Ev.neg (by omega) (Ev.some (by simp))
  | d + 1, i, acc, e, ha => by
    refine Ev.step (fun k => by rw [lambrequinref20_Next.l0]) ?_
    refine Ev.pos (by omega) (Ev.bind (Leads_ev s n i) ?_)
    rw [wrap_up (by omega)]
    by_cases c : (i : Int) ∈ nxt s n
    · rw [decide_eq_true c]
      exact Ev.pos rfl (Ev.pos (by omega) (Ev.iff (rNext_l0 s n hs d (i + 1) _ (by omega) (by simp; omega)) (by simp [List.range'_succ, c])))
    · rw [decide_eq_false c]
      exact Ev.neg (by simp) (Ev.iff (rNext_l0 s n hs d (i + 1) _ (by omega) (by omega)) (by simp [List.range'_succ, c]))
theorem rPrev_l0 (s : List Stmt) (n : Int) (hs : s.length ≤ 1000000) : ∀ (d i : Nat) (acc : List Int), i + d = s.length → acc.length ≤ i →
    Ev (fun k => lambrequinref20_Prev.l0 k s n acc i) (acc ++ (((List.range' i d).map fun m : Nat => (m : Int)).filter fun m => decide (n ∈ nxt s m)))
  | 0, i, acc, e, ha => by
    refine Ev.step (fun k => by rw [lambrequinref20_Prev.l0]) ?_
    exact Ev.neg (by omega) (Ev.some (by simp))
  | d + 1, i, acc, e, ha => by
    refine Ev.step (fun k => by rw [lambrequinref20_Prev.l0]) ?_
    refine Ev.pos (by omega) (Ev.bind (Leads_ev s i n) ?_)
    rw [wrap_up (by omega)]
    by_cases c : n ∈ nxt s i
    · rw [decide_eq_true c]
      exact Ev.pos rfl (Ev.pos (by omega) (Ev.iff (rPrev_l0 s n hs d (i + 1) _ (by omega) (by simp; omega)) (by simp [List.range'_succ, c])))
    · rw [decide_eq_false c]
      exact Ev.neg (by simp) (Ev.iff (rPrev_l0 s n hs d (i + 1) _ (by omega) (by omega)) (by simp [List.range'_succ, c]))
theorem rise_ext {a b : List Int} (ha : a.Pairwise (· < ·)) (hb : b.Pairwise (· < ·)) (h : ∀ x, x ∈ a ↔ x ∈ b) : a = b := by
  have na : a.Nodup := List.Pairwise.imp (R := (· < ·)) (fun {x y} h => by omega) ha
  have nb : b.Nodup := List.Pairwise.imp (R := (· < ·)) (fun {x y} h => by omega) hb
  exact List.Perm.eq_of_pairwise (le := (· < ·)) (by intro x y _ _ h1 h2; omega) ha hb ((List.perm_ext_iff_of_nodup na nb).2 h)
theorem rNext_ev (s : List Stmt) (n : Int) (hs : s.length ≤ 1000000) : Ev (fun k => lambrequinref20_Next.f k s n) (nxt s n) := by
  refine Ev.iff (rNext_l0 s n hs s.length 0 [] (by omega) (by simp)) ?_
  rw [List.nil_append, ← List.range_eq_range']
  refine rise_ext (List.Pairwise.filter _ ?_) (nxt_inc s n) fun x => ?_
  · rw [List.pairwise_map]
    exact List.Pairwise.imp (fun {a b} h => by omega) List.pairwise_lt_range
  · rw [List.mem_filter]
    constructor
    · rintro ⟨-, h⟩; simpa using h
    · intro h
      have hw := nxt_within h
      exact ⟨List.mem_map.2 ⟨x.toNat, List.mem_range.2 (by omega), by omega⟩, by simpa using h⟩
theorem rPrev_ev (s : List Stmt) (n : Int) (hs : s.length ≤ 1000000) : Ev (fun k => lambrequinref20_Prev.f k s n) (prv s n) :=
  Ev.iff (rPrev_l0 s n hs s.length 0 [] (by omega) (by simp)) (by simp [prv, List.range_eq_range'])
theorem rDef_eq (st : Stmt) : lambrequinref20_Def.f st.kind st.x st.y st.z st.op st.n st.a st.b = some (defN st) := by
  unfold lambrequinref20_Def.f defN
  repeat' split
  all_goals first | rfl | (exfalso; omega)
theorem rUses_ev (st : Stmt) : Ev (fun k => lambrequinref20_Uses.f k st.kind st.x st.y st.z st.op st.n st.a st.b) (usesS st) := by
  unfold lambrequinref20_Uses.f usesS
  by_cases k2 : st.kind = 2
  · rw [if_pos k2]
    exact Ev.pos k2 (Ev.bind (Sorted_ev [st.y, st.z] (by simp)) (Ev.now _))
  · rw [if_neg k2]
    refine Ev.neg k2 ?_
    by_cases k3 : st.kind = 3
    · exact Ev.pos k3 (Ev.some (by rw [if_pos (.inl k3)]))
    · refine Ev.neg k3 ?_
      by_cases k5 : st.kind = 5
      · exact Ev.pos k5 (Ev.some (by rw [if_pos (.inr (.inl k5))]))
      · refine Ev.neg k5 ?_
        by_cases k6 : st.kind = 6
        · exact Ev.pos k6 (Ev.some (by rw [if_pos (.inr (.inr (.inl k6)))]))
        · refine Ev.neg k6 ?_
          by_cases k7 : st.kind = 7
          · exact Ev.pos k7 (Ev.some (by rw [if_pos (.inr (.inr (.inr k7)))]))
          · exact Ev.neg k7 (Ev.some (by rw [if_neg (by omega)]))
def namesOf (st : Stmt) : List ByteArray := (if (defN st).2 = true then [(defN st).1] else []) ++ usesS st
theorem namesOf_len (st : Stmt) : (namesOf st).length ≤ 3 := by
  have := usesS_len st
  unfold namesOf
  split <;> simp <;> omega
theorem cNames_l0 (s : List Stmt) (hs : s.length ≤ 1000) : ∀ (r : List Stmt) (n : Nat) (acc : List ByteArray), s.drop n = r → n ≤ s.length → acc.length ≤ n * 3 → Ev (fun k => cfg_Names.l0 k acc s (s.length : Int) n) (setS (acc ++ r.flatMap namesOf))
  | [], n, acc, h, hn, hc => by
    refine Ev.step (fun k => by rw [cfg_Names.l0]) ?_
    refine Ev.neg (drop_end h) (Ev.pure (a := setS acc) ?_ (Ev.some (by simp)))
    unfold cfg_sorted_string.f slices_Clone_string_string.f slices_Sort_string_string.f slices_Compact_string_string.f
    rw [if_pos (by omega)]
    simp only [Option.bind_some]
    rw [if_pos (by omega)]
    rfl
  | y :: r, n, acc, h, hn, hc => by
    obtain ⟨h1, h2, h3, h4, h5⟩ := drop_more h (by omega)
    have hu := usesS_len y
    refine Ev.step (fun k => by rw [cfg_Names.l0]) ?_
    refine Ev.pos h1 (Ev.pos h2 (Ev.pos h1 ?_))
    rw [show rd_T30 s n = y from h3 _, h5]
    refine Ev.pure (Def_eq y) ?_
    by_cases hd : (defN y).2 = true
    · refine Ev.pos hd (Ev.pos (by omega) (Ev.pure (a := acc ++ [(defN y).1]) rfl (Ev.pure (Uses_eq y) (Ev.pos (by simp; omega) ?_))))
      exact Ev.iff (cNames_l0 s hs r (n + 1) _ h4 (by omega) (by simp; omega)) (by simp [namesOf, hd])
    · refine Ev.neg hd (Ev.pure (Uses_eq y) (Ev.pos (by omega) ?_))
      exact Ev.iff (cNames_l0 s hs r (n + 1) _ h4 (by omega) (by simp; omega)) (by simp [namesOf, hd])
theorem rNames_l0 (s : List Stmt) (hs : s.length ≤ 1000) : ∀ (r : List Stmt) (n : Nat) (acc : List ByteArray), s.drop n = r → n ≤ s.length → acc.length ≤ n * 3 → Ev (fun k => lambrequinref20_Names.l0 k s acc n) (setS (acc ++ r.flatMap namesOf))
  | [], n, acc, h, hn, hc => by
    refine Ev.step (fun k => by rw [lambrequinref20_Names.l0]) ?_
    exact Ev.neg (drop_end h) (Ev.bind (Sorted_ev acc (by omega)) (Ev.some (by simp)))
  | y :: r, n, acc, h, hn, hc => by
    obtain ⟨h1, h2, h3, h4, h5⟩ := drop_more h (by omega)
    have hu := usesS_len y
    refine Ev.step (fun k => by rw [lambrequinref20_Names.l0]) ?_
    refine Ev.pos h1 (Ev.pos h2 ?_)
    rw [show rd_T30 s n = y from h3 _, h5]
    refine Ev.pure (rDef_eq y) ?_
    by_cases hd : (defN y).2 = true
    · refine Ev.pos hd (Ev.pos (by omega) (Ev.pure (a := acc ++ [(defN y).1]) rfl (Ev.bind (rUses_ev y) (Ev.pos (by simp; omega) ?_))))
      exact Ev.iff (rNames_l0 s hs r (n + 1) _ h4 (by omega) (by simp; omega)) (by simp [namesOf, hd])
    · refine Ev.neg hd (Ev.bind (rUses_ev y) (Ev.pos (by omega) ?_))
      exact Ev.iff (rNames_l0 s hs r (n + 1) _ h4 (by omega) (by simp; omega)) (by simp [namesOf, hd])
theorem CfgLeads_pure (x0 : List Stmt) (y0 : x0.length * 96 ≤ 140737488351232) (a1 : Int) (w1 : (Lit.int .i64 a1).wf = true) (x2 : Stmt) :
    ∃ k, lambrequinlaw20_CfgLeads.f k x0 a1 x2.kind x2.x x2.y x2.z x2.op x2.n x2.a x2.b = some true := by
  refine Ev.rounds (g := fun k => lambrequinlaw20_CfgLeads.f k x0 a1 x2.kind x2.x x2.y x2.z x2.op x2.n x2.a x2.b) ?_
  unfold lambrequinlaw20_CfgLeads.f
  refine Ev.bind shown20_ev ?_
  by_cases c : (x0.length : Int) > 60
  · exact Ev.pos c (Ev.now _)
  · refine Ev.neg c (Ev.pure (Def_eq x2) (Ev.pure (rDef_eq x2) ?_))
    refine Ev.step (fun k => by rw [lambrequinlaw20_CfgLeads.j0]) ?_
    refine Ev.pos rfl (Ev.pure (Next_eq x0 a1) (Ev.bind (rNext_ev x0 a1 (by omega)) (Ev.bind (Ints_ev _ _ (by have := nxt_len x0 a1; omega)) ?_)))
    refine Ev.pos (by simp) (Ev.bind (Prev_ev x0 a1 (by omega)) (Ev.bind (rPrev_ev x0 a1 (by omega)) (Ev.bind (Ints_ev _ _ (by have := prv_len x0 a1; omega)) ?_)))
    refine Ev.pos (by simp) (Ev.pos rfl (Ev.pos (by simp) (Ev.pure (Uses_eq x2) (Ev.bind (rUses_ev x2) (Ev.bind (Same_ev _ _ (by have := usesS_len x2; omega)) ?_)))))
    refine Ev.pos (by simp) (Ev.bind (cNames_l0 x0 (by omega) x0 0 [] rfl (by omega) (by simp)) (Ev.bind (rNames_l0 x0 (by omega) x0 0 [] rfl (by omega) (by simp)) (Ev.bind (Same_ev _ _ ?_) (Ev.some (by simp)))))
    have hl : (x0.flatMap namesOf).length ≤ x0.length * 3 := by
      have : ∀ l : List Stmt, (l.flatMap namesOf).length ≤ l.length * 3 := by
        intro l
        induction l with
        | nil => simp
        | cons a l ih =>
          have := namesOf_len a
          rw [List.flatMap_cons, List.length_append, List.length_cons]
          omega
      exact this x0
    have := setS_len ([] ++ x0.flatMap namesOf)
    rw [List.nil_append] at this ⊢
    omega
theorem CfgLeads_walk (w : World) (x0 : (List Stmt)) (A0 : Option Addr) (c0 : Nat) (l0 : x0.length ≤ c0) (g0 : Kd.C k30 w A0 x0.length x0) (y0 : x0.length * 96 ≤ 140737488351232) (a1 : Int) (w1 : (Lit.int .i64 a1).wf = true) (x2 : Stmt) :
    Calls Try.prog 6 #[.slice A0 x0.length c0, .int .i64 a1, .agg #[.int .i64 x2.kind, .string x2.x, .string x2.y, .string x2.z, .string x2.op, .int .i64 x2.n, .int .i64 x2.a, .int .i64 x2.b]] w fun e w' => e = .returned (.bool true) ∧ Below w.heap.size w w' := by
  obtain ⟨k, h⟩ := CfgLeads_pure x0 y0 a1 w1 x2
  exact (lambrequinlaw20_CfgLeads.calls k A0 c0 x0 a1 x2.kind x2.x x2.y x2.z x2.op x2.n x2.a x2.b true w g0 l0 h).mono (fun e w' h' => ⟨h'.1, h'.2⟩)
end Go.Proofs.Ytnepgcbgkhikkaa.H
namespace Go.Proofs.Ytnepgcbgkhikkaa.cfgLeads
open Go.ChangeShapes Go.WideShapes Go.ChangeAt Go.RowKit Go.Proofs.Ytnepgcbgkhikkaa.H Go.Proofs.YtnepgcbgkhikkaaW.PrintWords
open Go.ChangeMaps (open_string shut_string)
set_option linter.unusedVariables false
theorem own : ownKnob Try.prog.godebug = none := by kernel_rfl
theorem laidOut : laidOutB Try.prog = true := by kernel_rfl
set_option maxRecDepth 100000 in
theorem lifted (os : Os) (started : os.Started) (H : Type) (enc : TypeId × Value → H) :
    ReturnsInHanded {} Try.checked os 6 .any (Rows.cfgLeadsSpec.pre6 enc Try.prog Try.f6 Rows.cfgLeadsRow.domain false) (Rows.cfgLeadsSpec.post enc Try.prog Try.f6 false true false false) := by
  refine returnsInHanded_of_change_sized (C := Try.checked) own started (by kernel_rfl) Try.func6
    (ChangeSpec.witness6 (enc := enc) (C := Try.checked) false ⟨#[], #[.slice none 0 0, .int .i64 0, .agg #[.int .i64 0, .string ⟨#[]⟩, .string ⟨#[]⟩, .string ⟨#[]⟩, .string ⟨#[]⟩, .int .i64 0, .int .i64 0, .int .i64 0]], []⟩ 8 (by kernel_rfl) (by kernel_rfl) (by kernel_rfl) (by kernel_rfl)) ?_
  intro W base args ds gs before hval0 hW hcnd hsz0 _
  have hsz : (DataW.weightsEach Try.prog (Try.f6.params.toList ++ Rows.cfgLeadsSpec.plain.varTypes Try.prog) (ds ++ gs)).all (· ≤ reachBytes) = true := hsz0
  have hval : ∀ (j : Nat) t v, Try.f6.params[j]? = some t → args[j]? = some v → Value.okWide Try.prog W .any base t v := hval0
  have hW' := hW
  obtain ⟨p, q, hA0, hV, rfl, hfz, hnd⟩ := hW
  have hA : DataW.TrodAll enc Try.prog W 0 (fun _ => true) true Try.f6.params.toList args.toList ds p := hA0
  rw [Try.params6] at hA hval hsz
  obtain ⟨v0, vs0, d0, ds0, p0, q0, hargs, rfl, rfl, h0, r0⟩ := trodAll_cons hA
  obtain ⟨v1, vs1, d1, ds1, p1, q1, rfl, rfl, rfl, h1, r1⟩ := trodAll_cons r0
  obtain ⟨v2, vs2, d2, ds2, p2, q2, rfl, rfl, rfl, h2, r2⟩ := trodAll_cons r1
  obtain ⟨rfl, rfl, rfl⟩ := trodAll_nil r2
  obtain rfl : args = #[v0, v1, v2] := by cases args; simp_all
  obtain ⟨rfl, rfl⟩ := trodVars_none hV
  have k0 := h0
  have lt0 : ∀ x ∈ p0, x.block < W.heap.size := by obtain ⟨m, hm⟩ := k0; exact DataW.trod_lt m _ _ _ hm
  obtain ⟨a0, len0, cap0, rfl⟩ := okWide_slice Try.underlying22 (hval 0 22 v0 rfl rfl)
  have y0 := sized_row hsz (j := 0) (t := 22) rfl rfl Try.underlying22 (B := 96) (by kernel_rfl) h0
  obtain ⟨x0, A0, c0, e0, l0, g0⟩ := (opens_slice Try.underlying22 (by kernel_rfl) opens_Stmt 30).arg k0
  simp only [Value.cells, List.cons.injEq, and_true, Value.slice.injEq] at e0
  obtain ⟨rfl, rfl, rfl⟩ := e0
  obtain ⟨a1, rfl, rfl, rfl, w1⟩ := open_int Try.underlying3 (hval 1 3 v1 rfl rfl) h1
  have k2 := h2
  have lt2 : ∀ x ∈ p2, x.block < W.heap.size := by obtain ⟨m, hm⟩ := k2; exact DataW.trod_lt m _ _ _ hm
  obtain ⟨cs2, rfl, -⟩ := okWide_struct Try.underlying30 (hval 2 30 v2 rfl rfl)
  obtain ⟨x2, g2⟩ := opens_Stmt.arg k2
  have e2 := k30_open g2
  obtain ⟨cl2⟩ := cs2
  obtain rfl : cl2 = _ := e2
  clear hA0 hval0 hsz0 hsz
  refine (CfgLeads_walk W x0 a0 cap0 l0 g0 y0 a1 w1 x2 ).mono fun e W' ⟨he, bel⟩ => ?_
  subst he
  exact ⟨_, rfl, _, _, _, [], _, [], hW', trodAll_mk1 (shut_bool Try.underlying4 _), (trodAll_cons_mk (Below.trod laidOut (by kernel_rfl) (of_decide_eq_true (by kernel_rfl)) k0 bel lt0) (trodAll_cons_mk (shut_int Try.underlying3 w1) (trodAll_cons_mk (Below.trod laidOut (by kernel_rfl) (of_decide_eq_true (by kernel_rfl)) k2 bel lt2) trodAll_mk0))), rfl, bel.frame _, fun h => by cases h⟩
theorem over : Rows.cfgLeadsRow.holds Try.pinned (OpenSpec.ofChange Rows.cfgLeadsSpec) :=
  OpenClaim.holds_of_wide 6 Try.f6 rfl rfl rfl rfl rfl rfl rfl ⟨rfl, rfl, rfl, rfl, rfl⟩ rfl rfl rfl rfl rfl (by kernel_rfl) Try.func6 (by kernel_rfl)
    (of_decide_eq_true (by kernel_rfl)) (by unfold Func.isWrapper; first | (rw [if_pos (by decide +kernel)]; kernel_rfl) | (rw [if_neg (by decide +kernel)]; exact ⟨rfl, rfl⟩))
    (fun os started H enc _ => lifted os started H enc)
theorem proved : Rows.CfgLeadsSaid := over
end Go.Proofs.Ytnepgcbgkhikkaa.cfgLeads
namespace Go.Proofs.Ytnepgcbgkhikkaa
theorem cfgLeads_holds : Rows.CfgLeadsSaid := cfgLeads.proved
#print axioms cfgLeads_holds
end Go.Proofs.Ytnepgcbgkhikkaa

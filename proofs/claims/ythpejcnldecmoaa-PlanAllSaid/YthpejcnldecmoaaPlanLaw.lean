import Derived.Test.YthpejcnldecmoaaColsLaw
namespace Go.Proofs.Ythpejcnldecmoaa.H
/-- are all variables of some terms among some names -/
def allKnown (b : List ByteArray) (l : List Term) : Bool := l.all fun t => !t.isVar || mem t.name b
theorem known_eq (b : List ByteArray) (y : Liter) : known b y = allKnown b (litTerms y) := by
  rw [Bool.eq_iff_iff]
  simp only [known, allKnown, Bool.not_eq_true', List.any_eq_false, List.all_eq_true, names_mem, Bool.not_eq_true', Bool.not_eq_false, Bool.or_eq_true]
  constructor
  · intro h t ht
    cases hv : t.isVar with
    | false => exact .inl rfl
    | true => exact .inr (by simpa using h t.name ⟨t, ht, hv, rfl⟩)
  · rintro h s ⟨t, ht, hv, rfl⟩
    rcases h t ht with h1 | h1
    · rw [hv] at h1; cases h1
    · simpa using h1
/-- what is bound behind some places -/
def boundOf (body : List Liter) (l : List Nat) : List ByteArray := l.foldl (fun b k => if (lit body k).kind = 1 then b ++ names (lit body k).atom.args else b) []
theorem boundOf_snoc (body : List Liter) (l : List Nat) (k : Nat) : boundOf body (l ++ [k]) = if (lit body k).kind = 1 then boundOf body l ++ names (lit body k).atom.args else boundOf body l := by
  simp [boundOf, List.foldl_append]
/-- where an order has come to -/
def stOf (body : List Liter) (o : List Nat) : Plan := ⟨(List.range body.length).filter fun k => !o.contains k, boundOf body o, o⟩
theorem stOf_take (body : List Liter) (o : List Nat) (k : Nat) : takeOf body (stOf body o) k = stOf body (o ++ [k]) := by
  unfold takeOf stOf
  congr 1
  · rw [List.filter_filter]
    refine List.filter_congr fun x _ => ?_
    by_cases hx : x = k <;> simp [hx, List.contains_eq_mem]
  · exact (boundOf_snoc body o k).symm
theorem stOf_start (body : List Liter) : planStart body = stOf body [] := by
  unfold planStart stOf
  congr 1
  simp only [List.contains_nil, Bool.not_false]
  exact (List.filter_eq_self.2 (fun _ _ => rfl)).symm
theorem stOf_left {body : List Liter} {o : List Nat} {k : Nat} : k ∈ (stOf body o).left ↔ k < body.length ∧ k ∉ o := by
  simp [stOf, List.contains_eq_mem]
theorem run_trace {body : List Liter} : ∀ {n : Nat} {o l : List Nat}, runOf body n (stOf body o) = some l →
    ∃ r, l = o ++ r ∧ (∀ i k, r[i]? = some k → nextOf body (stOf body (o ++ r.take i)) = some k) ∧ (stOf body l).left = [] := by
  intro n
  induction n with
  | zero =>
    intro o l h
    unfold runOf at h
    split at h
    · rename_i h1
      cases h
      exact ⟨[], by simp [stOf], by simp, h1⟩
    · cases h
  | succ n ih =>
    intro o l h
    unfold runOf at h
    split at h
    · rename_i h1
      cases h
      exact ⟨[], by simp [stOf], by simp, h1⟩
    · split at h
      · rename_i k hk
        rw [stOf_take] at h
        obtain ⟨r, rfl, h2, h3⟩ := ih h
        refine ⟨k :: r, by simp, fun i j hj => ?_, h3⟩
        cases i with
        | zero =>
          simp at hj
          subst hj
          simpa using hk
        | succ i =>
          have := h2 i j (by simpa using hj)
          simpa using this
      · cases h
/-- what an order that is told is, place by place -/
structure Traced (body : List Liter) (first : Int) (l : List Nat) : Prop where
  good : badFirst body first = false
  done : (stOf body l).left = []
  step : ∀ i k, l[i]? = some k → (i = 0 ∧ 0 ≤ first ∧ k = first.toNat) ∨ nextOf body (stOf body (l.take i)) = some k
  head : 0 ≤ first → l[0]? = some first.toNat
theorem order_traced {body : List Liter} {first : Int} {l : List Nat} (h : orderOf body first = (l, 0)) : Traced body first l := by
  unfold orderOf at h
  split at h
  · simp at h
  · rename_i hb
    have hb : badFirst body first = false := by simpa using hb
    split at h
    · rename_i l' hr
      obtain rfl : l' = l := by simpa using h
      by_cases hf : 0 ≤ first
      · rw [if_pos hf, stOf_start, stOf_take] at hr
        obtain ⟨r, rfl, h1, h2⟩ := run_trace hr
        refine ⟨hb, h2, fun i k hk => ?_, fun _ => by simp⟩
        cases i with
        | zero => simp at hk; exact .inl ⟨rfl, hf, hk.symm⟩
        | succ i => exact .inr (by simpa using h1 i k (by simpa using hk))
      · rw [if_neg hf, stOf_start] at hr
        obtain ⟨r, rfl, h1, h2⟩ := run_trace hr
        exact ⟨hb, h2, fun i k hk => .inr (by simpa using h1 i k (by simpa using hk)), fun h => absurd h hf⟩
    · simp at h
theorem bestGo_kind (body : List Liter) (bound : List ByteArray) : ∀ (l : List Nat) (b : Option Nat × Int) (k : Nat), (bestGo body bound l b).1 = some k → b.1 = some k ∨ (lit body k).kind = 1
  | [], b, k, h => .inl h
  | x :: l, b, k, h => by
    unfold bestGo at h
    split at h
    · rename_i hx
      rcases bestGo_kind body bound l _ k h with h1 | h1
      · simp at h1; subst h1; exact .inr hx.1
      · exact .inr h1
    · exact bestGo_kind body bound l _ k h
theorem nextOf_known {body : List Liter} {s : Plan} {k : Nat} (h : nextOf body s = some k) : (lit body k).kind = 1 ∨ known s.bound (lit body k) = true := by
  unfold nextOf at h
  split at h
  · rename_i k' hk
    cases h
    have := List.find?_some hk
    simp only [asks, Bool.and_eq_true] at this
    exact .inr this.2
  · rcases bestGo_kind body s.bound s.left _ k h with h1 | h1
    · cases h1
    · exact .inl h1
section
variable {body : List Liter} {first : Int} {l : List Nat} (h : Traced body first l)
include h
theorem Traced.first_lt (hf : 0 ≤ first) : first.toNat < body.length ∧ (lit body first.toNat).kind = 1 := by
  have hg := h.good
  simp only [badFirst, Bool.or_eq_false_iff, Bool.and_eq_false_iff, decide_eq_false_iff_not] at hg
  obtain ⟨⟨⟨_, _⟩, h3⟩, h4⟩ := hg
  refine ⟨by omega, ?_⟩
  rcases h4 with h4 | h4
  · exact absurd hf h4
  · exact Decidable.not_not.1 h4
theorem Traced.fresh {i k : Nat} (hk : l[i]? = some k) : k < body.length ∧ k ∉ l.take i := by
  rcases h.step i k hk with ⟨rfl, hf, rfl⟩ | h1
  · exact ⟨(h.first_lt hf).1, by simp⟩
  · exact stOf_left.1 (nextOf_mem h1)
theorem Traced.known {i k : Nat} (hk : l[i]? = some k) : (lit body k).kind = 1 ∨ allKnown (boundOf body (l.take i)) (litTerms (lit body k)) = true := by
  rcases h.step i k hk with ⟨rfl, hf, rfl⟩ | h1
  · exact .inl (h.first_lt hf).2
  · rw [← known_eq]
    exact nextOf_known h1
theorem Traced.nodup : l.Nodup := by
  refine List.pairwise_iff_getElem.2 fun i j hi hj hij he => ?_
  refine (h.fresh (List.getElem?_eq_getElem hj)).2 ?_
  rw [← he]
  exact List.mem_take_iff_getElem.2 ⟨i, by omega, rfl⟩
theorem Traced.len : l.length = body.length := by
  have hp : l.Perm (List.range body.length) := by
    rw [List.perm_ext_iff_of_nodup h.nodup List.nodup_range]
    intro a
    constructor
    · intro ha
      obtain ⟨i, hi⟩ := List.mem_iff_getElem?.1 ha
      exact List.mem_range.2 (h.fresh hi).1
    · intro ha
      by_cases hn : a ∈ l
      · exact hn
      · have := (stOf_left (body := body) (o := l)).2 ⟨List.mem_range.1 ha, hn⟩
        rw [h.done] at this
        cases this
  simpa using hp.length_eq
end
theorem order_code (body : List Liter) (first : Int) : ((orderOf body first).2 = 0 ∧ Traced body first (orderOf body first).1) ∨ ((orderOf body first).2 ≠ 0 ∧ (orderOf body first).1 = []) := by
  by_cases h : (orderOf body first).2 = 0
  · exact .inl ⟨h, order_traced (by rw [← h])⟩
  · refine .inr ⟨h, ?_⟩
    unfold orderOf at h ⊢
    split
    · rfl
    · rename_i hb
      rw [if_neg hb] at h
      split
      · rename_i l hl
        rw [hl] at h
        exact absurd rfl h
      · rfl
end Go.Proofs.Ythpejcnldecmoaa.H

/- Texts of this seat that its laws share, joined. -/
import Derived.Test.YthpejcnldecmoaaMD
import Derived.Test.YthpejcnldecmoaaMB
namespace Go.Proofs.Ythpejcnldecmoaa.H
open Go.RowKit Go.Proofs.YthpejcnldecmoaaW.PrintWords
set_option linter.unusedVariables false
set_option linter.unusedSimpArgs false
theorem lit_of {body : List Liter} {n : Nat} {y : Liter} (h : body[n]? = some y) : lit body n = y := by unfold lit; rw [List.getD_eq_getElem?_getD, h]; rfl
theorem left_len (body : List Liter) : ∀ (o : List Nat), o.Nodup → (∀ k ∈ o, k < body.length) → (stOf body o).left.length + o.length = body.length := by
  intro o hn ho
  have h1 : (stOf body o).left.length = ((List.range body.length).filter fun k => !o.contains k).length := rfl
  have h2 : ((List.range body.length).filter fun k => o.contains k).length = o.length := by
    apply List.Perm.length_eq
    rw [List.perm_ext_iff_of_nodup (List.Pairwise.filter _ List.nodup_range) hn]
    intro k
    simp only [List.mem_filter, List.mem_range, List.contains_eq_mem, decide_eq_true_eq]
    exact ⟨fun h => h.2, fun h => ⟨ho k h, h⟩⟩
  have h3 : ∀ (l : List Nat) (q : Nat → Bool), (l.filter fun k => !q k).length + (l.filter q).length = l.length := by
    intro l q
    induction l with
    | nil => rfl
    | cons a l ih => cases hq : q a <;> simp [List.filter_cons, hq] <;> omega
  have h4 := h3 (List.range body.length) fun k => o.contains k
  rw [List.length_range] at h4
  omega
theorem boundOf_len (body : List Liter) (ha : ∀ y ∈ body, y.atom.args.length ≤ 1000) : ∀ (o : List Nat), (∀ k ∈ o, k < body.length) → (boundOf body o).length ≤ 1000 * o.length := by
  intro o
  suffices hs : ∀ (r : List Nat), (∀ k ∈ r.reverse, k < body.length) → (boundOf body r.reverse).length ≤ 1000 * r.reverse.length by
    have := hs o.reverse
    rwa [List.reverse_reverse] at this
  intro r
  induction r with
  | nil => intro _; simp [boundOf]
  | cons k r ih =>
    intro ho
    rw [List.reverse_cons] at ho ⊢
    generalize r.reverse = o at ih ho ⊢
    have := ih (fun j hj => ho j (List.mem_append_left _ hj))
    rw [boundOf_snoc]
    split
    · have hk := ho k (by simp)
      have hy := ha (lit body k) (by unfold lit; rw [List.getD_eq_getElem?_getD, List.getElem?_eq_getElem hk]; simp)
      have := names_len (lit body k).atom.args
      simp; omega
    · simp; omega
theorem ints_len' (l : List Nat) : (ints l).length = l.length := by simp [ints]
theorem ints_nil (l : List Nat) : ints l = [] ↔ l = [] := by simp [ints]
theorem badFirst_parts {body : List Liter} {first : Int} (hg : badFirst body first = false) : (body.any odd = false) ∧ ¬ first < -1 ∧ ¬ (body.length : Int) ≤ first ∧ (0 ≤ first → (lit body first.toNat).kind = 1) := by
  simp only [badFirst, Bool.or_eq_false_iff, Bool.and_eq_false_iff, decide_eq_false_iff_not] at hg
  refine ⟨hg.1.1.1, hg.1.1.2, hg.1.2, fun h => ?_⟩
  rcases hg.2 with h1 | h1
  · exact absurd h h1
  · simpa using h1
def badHead (body : List Liter) (first : Int) : Bool := decide (first < -1) || decide ((body.length : Int) ≤ first) || (decide (0 ≤ first) && decide ((lit body first.toNat).kind ≠ 1))
theorem badFirst_eq (body : List Liter) (first : Int) : badFirst body first = (body.any odd || badHead body first) := by unfold badFirst badHead; simp [Bool.or_assoc]
theorem odd_iff {y : Liter} : odd y = false ↔ y.kind = 1 ∨ y.kind = 2 ∨ y.kind = 3 := by
  simp [odd]
  omega
theorem pOrder_eq (p : ByteArray) (h : List Term) (body : List Liter) (first : Int) (hl : body.length ≤ 1000) (ha : ∀ y ∈ body, y.atom.args.length ≤ 1000) : plan_Order.f p h body first = some (ints (orderOf body first).1, (orderOf body first).2) := if_pos ⟨hl, ha⟩
end Go.Proofs.Ythpejcnldecmoaa.H

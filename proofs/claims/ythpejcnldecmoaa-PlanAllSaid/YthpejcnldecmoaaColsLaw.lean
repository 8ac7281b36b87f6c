import Derived.Test.YthpejcnldecmoaaPlanSpecD
namespace Go.Proofs.Ythpejcnldecmoaa.H
theorem colsGo_count (b : List ByteArray) : ∀ (l : List Term) (k : Nat), (colsGo b l k).length = l.countP fun t => !t.isVar || mem t.name b
  | [], k => by simp [colsGo]
  | t :: l, k => by
    unfold colsGo
    by_cases h : (!t.isVar || mem t.name b) = true
    · rw [if_pos h, List.countP_cons, List.length_cons, colsGo_count b l, if_pos h]
    · rw [if_neg h, List.countP_cons, colsGo_count b l, if_neg h]
      rfl
theorem cols_len (b : List ByteArray) (l : List Term) : (cols b l).length = l.countP fun t => !t.isVar || mem t.name b := colsGo_count b l 0
theorem countP_le {α : Type} {p q : α → Bool} : ∀ {l : List α}, (∀ x ∈ l, p x = true → q x = true) → l.countP p ≤ l.countP q
  | [], _ => Nat.le_refl _
  | a :: l, h => by
    have h1 := countP_le (p := p) (q := q) (l := l) fun x hx => h x (List.mem_cons_of_mem _ hx)
    have h2 := h a List.mem_cons_self
    rw [List.countP_cons, List.countP_cons]
    cases hp : p a with
    | false => simp; omega
    | true => rw [h2 hp]; simp; omega
theorem cols_more (b : List ByteArray) (s : ByteArray) (l : List Term) : (cols b l).length ≤ (cols (b ++ [s]) l).length := by
  rw [cols_len, cols_len]
  refine countP_le fun t _ h => ?_
  simp only [Bool.or_eq_true, mem_iff, List.mem_append] at h ⊢
  rcases h with h | h
  · exact .inl h
  · exact .inr (.inl h)
theorem namesGo_acc : ∀ (l : List Term) (acc : List ByteArray) (s : ByteArray), s ∈ acc → s ∈ namesGo acc l
  | [], acc, s, h => by simpa [namesGo] using h
  | t :: l, acc, s, h => by
    unfold namesGo
    split
    · exact namesGo_acc l _ s (List.mem_append_left _ h)
    · exact namesGo_acc l _ s h
theorem namesGo_mem : ∀ (l : List Term) (acc : List ByteArray) (s : ByteArray), s ∈ namesGo acc l ↔ s ∈ acc ∨ ∃ t ∈ l, t.isVar = true ∧ t.name = s
  | [], acc, s => by simp [namesGo]
  | t :: l, acc, s => by
    unfold namesGo
    split
    · rename_i h
      simp only [Bool.and_eq_true] at h
      rw [namesGo_mem l]
      simp only [List.mem_append, List.mem_cons, List.not_mem_nil, or_false]
      constructor
      · rintro ((h1 | rfl) | ⟨u, hu, h2⟩)
        · exact .inl h1
        · exact .inr ⟨t, .inl rfl, h.1, rfl⟩
        · exact .inr ⟨u, .inr hu, h2⟩
      · rintro (h1 | ⟨u, rfl | hu, h2, h3⟩)
        · exact .inl (.inl h1)
        · exact .inl (.inr h3.symm)
        · exact .inr ⟨u, hu, h2, h3⟩
    · rename_i h
      rw [namesGo_mem l]
      simp only [List.mem_cons]
      constructor
      · rintro (h1 | ⟨u, hu, h2⟩)
        · exact .inl h1
        · exact .inr ⟨u, .inr hu, h2⟩
      · rintro (h1 | ⟨u, rfl | hu, h2, h3⟩)
        · exact .inl h1
        · left
          rw [h2] at h
          simp only [Bool.true_and, Bool.not_eq_true', Bool.not_eq_false] at h
          rw [← h3]
          exact mem_iff.1 h
        · exact .inr ⟨u, hu, h2, h3⟩
theorem names_mem (l : List Term) (s : ByteArray) : s ∈ names l ↔ ∃ t ∈ l, t.isVar = true ∧ t.name = s := by
  rw [names, namesGo_mem]; simp
theorem cols_all (l : List Term) : (cols (names l) l).length = l.length := by
  rw [cols_len, List.countP_eq_length]
  intro t ht
  simp only [Bool.or_eq_true, mem_iff, names_mem]
  cases h : t.isVar with
  | false => simp
  | true => exact .inr ⟨t, ht, h, rfl⟩
theorem cols_none (l : List Term) : (cols [] l).length = l.countP fun t => !t.isVar := by
  rw [cols_len]
  refine List.countP_congr fun t _ => ?_
  simp [mem]
theorem cols_le_all (b : List ByteArray) (l : List Term) : (cols b l).length ≤ l.length := by rw [cols_len]; exact List.countP_le_length
theorem cols_none_le (b : List ByteArray) (l : List Term) : (l.countP fun t => !t.isVar) ≤ (cols b l).length := by
  rw [cols_len]
  exact countP_le fun t _ h => by simp only [Bool.or_eq_true]; exact .inl h
end Go.Proofs.Ythpejcnldecmoaa.H

import Derived.Test.YthpejcnldecmoaaPlanSpecC
namespace Go.Proofs.Ythpejcnldecmoaa.H
def nextOf (body : List Liter) (s : Plan) : Option Nat := match testOf body s with | some k => some k | none => bestOf body s
/-- the rest of an order, with so many steps at most -/
def runOf (body : List Liter) : Nat → Plan → Option (List Nat)
  | 0, s => if s.left = [] then some s.order else none
  | n + 1, s => if s.left = [] then some s.order else match nextOf body s with | some k => runOf body n (takeOf body s k) | none => none
def odd (l : Liter) : Bool := decide (l.kind < 1) || decide (3 < l.kind)
def badFirst (body : List Liter) (first : Int) : Bool := body.any odd || decide (first < -1) || decide ((body.length : Int) ≤ first) || (decide (0 ≤ first) && decide ((lit body first.toNat).kind ≠ 1))
def planStart (body : List Liter) : Plan := { left := List.range body.length, bound := [], order := [] }
/-- the order, and the error's number -/
def orderOf (body : List Liter) (first : Int) : List Nat × Int :=
  if badFirst body first then ([], 1)
  else match runOf body body.length (if 0 ≤ first then takeOf body (planStart body) first.toNat else planStart body) with
    | some l => (l, 0)
    | none => ([], 6)
/-- of what is left: only what was there -/
theorem bestGo_mem (body : List Liter) (bound : List ByteArray) : ∀ (l : List Nat) (b : Option Nat × Int) (k : Nat), (bestGo body bound l b).1 = some k → b.1 = some k ∨ k ∈ l
  | [], b, k, h => .inl h
  | x :: l, b, k, h => by
    unfold bestGo at h
    split at h
    · rcases bestGo_mem body bound l _ k h with h1 | h1
      · simp at h1; exact .inr (by simp [h1])
      · exact .inr (List.mem_cons_of_mem _ h1)
    · rcases bestGo_mem body bound l _ k h with h1 | h1
      · exact .inl h1
      · exact .inr (List.mem_cons_of_mem _ h1)
theorem nextOf_mem {body : List Liter} {s : Plan} {k : Nat} (h : nextOf body s = some k) : k ∈ s.left := by
  unfold nextOf at h
  split at h
  · rename_i k' hk
    cases h
    exact List.mem_of_find?_eq_some hk
  · rcases bestGo_mem body s.bound s.left _ k h with h1 | h1
    · cases h1
    · exact h1
theorem takeOf_len {body : List Liter} {s : Plan} {k : Nat} (h : k ∈ s.left) : (takeOf body s k).left.length < s.left.length := by
  unfold takeOf
  show (s.left.filter _).length < _
  exact List.length_filter_lt_length_iff_exists.2 ⟨k, h, by simp⟩
theorem runOf_step {body : List Liter} {n : Nat} {s : Plan} (hn : s.left.length ≤ n) : runOf body n s = if s.left = [] then some s.order else match nextOf body s with | some k => runOf body (n - 1) (takeOf body s k) | none => none := by
  cases n with
  | zero =>
    have : s.left = [] := List.length_eq_zero_iff.1 (by omega)
    simp [runOf, this]
  | succ n => rfl
theorem runOf_any {body : List Liter} : ∀ {n m : Nat} {s : Plan}, s.left.length ≤ n → s.left.length ≤ m → runOf body n s = runOf body m s := by
  intro n
  induction n with
  | zero =>
    intro m s hn hm
    rw [runOf_step hn, runOf_step hm]
    have : s.left = [] := List.length_eq_zero_iff.1 (by omega)
    simp [this]
  | succ n ih =>
    intro m s hn hm
    rw [runOf_step hn, runOf_step hm]
    split
    · rfl
    · split
      · rename_i k hk
        have := takeOf_len (body := body) (nextOf_mem hk)
        exact ih (by omega) (by omega)
      · rfl
end Go.Proofs.Ythpejcnldecmoaa.H

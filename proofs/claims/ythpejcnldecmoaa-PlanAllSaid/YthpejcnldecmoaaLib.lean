import Derived.Test.YthpejcnldecmoaaKinds
import Derived.Test.YthpejcnldecmoaaSafeSpec
import Derived.Test.YthpejcnldecmoaaWLast
import Derived.Test.YthpejcnldecmoaaWMore
import Derived.Shelf.Abstract
import Derived.Deep.DeepMust
import Derived.Outline
namespace Go.Proofs.Ythpejcnldecmoaa.H
open Go.RowKit Go.Proofs.YthpejcnldecmoaaW.PrintWords Go.Proofs.YthpejcnldecmoaaW.PrintLast Go.Proofs.YthpejcnldecmoaaW.PrintMore
set_option linter.unusedVariables false

/-- a predicate that is handed to the library, at one cell -/
def PredK (P : Program) (g : Nat) (lb : Array Value) {α : Type} (enc : α → Value) (p : α → Bool) (w : World) (l : List α) : Prop :=
  ∀ (W : World) (x : α), x ∈ l → Below w.heap.size w W → Calls P g (#[enc x] ++ lb) W fun e w' => e = .returned (.bool (p x)) ∧ Below W.heap.size W w'
/-- the same at a struct -/
def PredA (P : Program) (g : Nat) (lb : Array Value) {α : Type} (d : Kd α) (p : α → Bool) (w : World) (l : List α) : Prop :=
  ∀ (W : World) (x : α) (cs : List Value), x ∈ l → Below w.heap.size w W → d.K W x cs → Calls P g (#[.agg cs.toArray] ++ lb) W fun e w' => e = .returned (.bool (p x)) ∧ Below W.heap.size W w'

/-- the first place from i on at which p holds; -1 -/
def idxP {α : Type} (p : α → Bool) : List α → Nat → Int
  | [], _ => -1
  | x :: l, i => if p x = true then (i : Int) else idxP p l (i + 1)

theorem drop_cons {α : Type} {l : List α} {k : Nat} {y : α} (hy : l[k]? = some y) : l.drop k = y :: l.drop (k + 1) := by
  obtain ⟨h, rfl⟩ := List.getElem?_eq_some_iff.1 hy
  exact List.drop_eq_getElem_cons h
theorem drop_all {α : Type} (l : List α) : l.drop l.length = [] := List.drop_length
theorem at_some {α : Type} {l : List α} {k : Nat} (h : k < l.length) : ∃ y, l[k]? = some y := ⟨l[k], List.getElem?_eq_getElem h⟩

theorem idxP_any {α : Type} (p : α → Bool) : ∀ (l : List α) (i : Nat), decide (0 ≤ idxP p l i) = l.any p
  | [], i => by simp [idxP]
  | x :: l, i => by
    unfold idxP
    by_cases h : p x = true
    · rw [if_pos h]; simp [h]
    · rw [if_neg h, idxP_any p l (i + 1)]; simp [h]


theorem ba_eq {a b : ByteArray} : (a.toList = b.toList) ↔ a = b := by
  constructor
  · intro h
    have h1 : a.data.toList = b.data.toList := by
      have := h
      rwa [ByteArray.toList_eq, ByteArray.toList_eq] at this
    cases a; cases b; simp at h1; subst h1; rfl
  · rintro rfl; rfl
theorem ba_beq {a b : ByteArray} (h : a = b) : (a.toList == b.toList) = true ∧ (a.toList != b.toList) = false := by subst h; simp
theorem ba_bne {a b : ByteArray} (h : ¬ a = b) : (a.toList == b.toList) = false ∧ (a.toList != b.toList) = true :=
  ⟨beq_eq_false_iff_ne.2 (fun e => h (ba_eq.1 e)), bne_iff_ne.2 (fun e => h (ba_eq.1 e))⟩

section
variable {w : World} {A : Option Addr} {n i : Nat}
theorem at_int {k : IntKind} {xs : List Int} {y : Int} (h : (Kd.int k).C w A n xs) (hy : xs[i]? = some y) : ∃ ad, A = some ad ∧ w.cell? (ad.add i) = some (.int k y) := by
  obtain ⟨ad, c, e, _, hK, hc⟩ := Kd.C_nth h hy
  obtain rfl : c = [.int k y] := hK
  have hq := hc 0 _ rfl
  exact ⟨ad, e, by rwa [show i * (Kd.int k).sz + 0 = i from Nat.mul_one i] at hq⟩
theorem at_bool {xs : List Bool} {y : Bool} (h : Kd.bool.C w A n xs) (hy : xs[i]? = some y) : ∃ ad, A = some ad ∧ w.cell? (ad.add i) = some (.bool y) := by
  obtain ⟨ad, c, e, _, hK, hc⟩ := Kd.C_nth h hy
  obtain rfl : c = [.bool y] := hK
  have hq := hc 0 _ rfl
  exact ⟨ad, e, by rwa [show i * Kd.bool.sz + 0 = i from Nat.mul_one i] at hq⟩
theorem at_str {xs : List ByteArray} {y : ByteArray} (h : Kd.string.C w A n xs) (hy : xs[i]? = some y) : ∃ ad, A = some ad ∧ w.cell? (ad.add i) = some (.string y) := by
  obtain ⟨ad, c, e, _, hK, hc⟩ := Kd.C_nth h hy
  obtain rfl : c = [.string y] := hK
  have hq := hc 0 _ rfl
  exact ⟨ad, e, by rwa [show i * Kd.string.sz + 0 = i from Nat.mul_one i] at hq⟩
theorem at_row {α : Type} {d : Kd α} {t : Nat} {xs : List (List α)} {y : List α} (h : (Kd.slice t d).C w A n xs) (hy : xs[i]? = some y) : ∃ ad A1 c1, A = some ad ∧ w.cell? (ad.add i) = some (.slice A1 y.length c1) ∧ y.length ≤ c1 ∧ d.C w A1 y.length y := by
  obtain ⟨ad, c, e, _, hK, hc⟩ := Kd.C_nth h hy
  obtain ⟨A1, c1, rfl, hl, hr⟩ := hK
  have hq := hc 0 _ rfl
  exact ⟨ad, A1, c1, e, by rwa [show i * (Kd.slice t d).sz + 0 = i from Nat.mul_one i] at hq, hl, hr⟩
end
/-- an old cell, in a world that comes behind -/
theorem Below.old {w W : World} {a : Addr} {v : Value} (hb : Below w.heap.size w W) (h : w.cell? a = some v) : W.cell? a = some v := (hb.cell (World.block_lt_of_cell? w _ h)).trans h
theorem Below.then {w W X : World} (h : Below w.heap.size w W) (k : Below W.heap.size W X) : Below w.heap.size w X := below_then h h.size k
theorem ret_int {k : IntKind} {a b : Int} (h : a = b) : Ending.returned (.int k a) = .returned (.int k b) := by rw [h]
theorem ret_bool {a b : Bool} (h : a = b) : Ending.returned (.bool a) = .returned (.bool b) := by rw [h]
end Go.Proofs.Ythpejcnldecmoaa.H

import Derived.Test.YthpejcnldecmoaaTypes
namespace Go.Proofs.Ythpejcnldecmoaa.H
/-- is a name one of some -/
def mem (s : ByteArray) (l : List ByteArray) : Bool := l.any fun x => decide (s = x)
theorem mem_iff {s : ByteArray} {l : List ByteArray} : mem s l = true ↔ s ∈ l := by simp [mem]
/-- the variables of some terms, each once, in turn -/
def namesGo (acc : List ByteArray) : List Term → List ByteArray
  | [] => acc
  | t :: l => if t.isVar && !mem t.name acc then namesGo (acc ++ [t.name]) l else namesGo acc l
def names (l : List Term) : List ByteArray := namesGo [] l
theorem namesGo_len : ∀ (l : List Term) (acc : List ByteArray), (namesGo acc l).length ≤ acc.length + l.length
  | [], acc => by simp [namesGo]
  | t :: l, acc => by
    unfold namesGo
    split
    · have := namesGo_len l (acc ++ [t.name]); simp at this ⊢; omega
    · have := namesGo_len l acc; simp; omega
theorem names_len (l : List Term) : (names l).length ≤ l.length := by have := namesGo_len l []; simpa [names] using this
end Go.Proofs.Ythpejcnldecmoaa.H

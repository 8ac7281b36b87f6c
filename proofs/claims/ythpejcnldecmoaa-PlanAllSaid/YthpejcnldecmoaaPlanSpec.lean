import Derived.Test.YthpejcnldecmoaaSafeSpec
namespace Go.Proofs.Ythpejcnldecmoaa.H
/-- the places of the terms that are known -/
def colsGo (bound : List ByteArray) : List Term → Nat → List Int
  | [], _ => []
  | t :: l, i => if !t.isVar || mem t.name bound then (i : Int) :: colsGo bound l (i + 1) else colsGo bound l (i + 1)
def cols (bound : List ByteArray) (l : List Term) : List Int := colsGo bound l 0
theorem colsGo_len (bound : List ByteArray) : ∀ (l : List Term) (i : Nat), (colsGo bound l i).length ≤ l.length
  | [], i => by simp [colsGo]
  | t :: l, i => by
    unfold colsGo
    have := colsGo_len bound l (i + 1)
    split <;> simp <;> omega
end Go.Proofs.Ythpejcnldecmoaa.H

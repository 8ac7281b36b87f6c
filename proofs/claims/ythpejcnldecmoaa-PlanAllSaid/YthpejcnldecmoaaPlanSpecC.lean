import Derived.Test.YthpejcnldecmoaaPlanSpecB
namespace Go.Proofs.Ythpejcnldecmoaa.H
deriving instance Inhabited for Val
deriving instance Inhabited for Term
deriving instance Inhabited for Atom
deriving instance Inhabited for Liter
def lit (body : List Liter) (k : Nat) : Liter := body.getD k default
def asks (bound : List ByteArray) (l : Liter) : Bool := decide (l.kind ≠ 1) && known bound l
/-- a rule that is gone through: what is left, what is bound, the order so far -/
structure Plan where
  left : List Nat
  bound : List ByteArray
  order : List Nat
def optInt (o : Option Nat) : Int := match o with | some k => (k : Int) | none => -1
def testOf (body : List Liter) (s : Plan) : Option Nat := s.left.find? fun k => asks s.bound (lit body k)
def bestGo (body : List Liter) (bound : List ByteArray) : List Nat → Option Nat × Int → Option Nat × Int
  | [], b => b
  | k :: l, b => if (lit body k).kind = 1 ∧ b.2 < ((cols bound (lit body k).atom.args).length : Int) then bestGo body bound l (some k, ((cols bound (lit body k).atom.args).length : Int)) else bestGo body bound l b
def bestOf (body : List Liter) (s : Plan) : Option Nat := (bestGo body s.bound s.left (none, -1)).1
def takeOf (body : List Liter) (s : Plan) (i : Nat) : Plan :=
  { left := s.left.filter fun k => !decide (k = i), bound := if (lit body i).kind = 1 then s.bound ++ names (lit body i).atom.args else s.bound, order := s.order ++ [i] }
end Go.Proofs.Ythpejcnldecmoaa.H

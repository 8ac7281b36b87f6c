namespace Go.Proofs.Ythpejcnldecmoaa.H
structure Val where
  isSym : Bool
  sym : ByteArray
  n : Int
deriving DecidableEq
structure Term where
  isVar : Bool
  name : ByteArray
  val : Val
deriving DecidableEq
structure Atom where
  pred : ByteArray
  args : (List Term)
deriving DecidableEq
structure Liter where
  kind : Int
  atom : Atom
  op : ByteArray
  l : Term
  r : Term
deriving DecidableEq
structure Rule where
  head : Atom
  body : (List Liter)
deriving DecidableEq
end Go.Proofs.Ythpejcnldecmoaa.H

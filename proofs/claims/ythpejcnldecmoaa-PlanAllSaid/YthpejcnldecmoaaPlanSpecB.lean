import Derived.Test.YthpejcnldecmoaaPlanSpec
namespace Go.Proofs.Ythpejcnldecmoaa.H
def ints (l : List Nat) : List Int := l.map fun (k : Nat) => (k : Int)
/-- what of a literal has to be known -/
def litTerms (l : Liter) : List Term := if l.kind = 3 then [l.l, l.r] else l.atom.args
def known (bound : List ByteArray) (l : Liter) : Bool := !(names (litTerms l)).any fun s => !mem s bound
end Go.Proofs.Ythpejcnldecmoaa.H

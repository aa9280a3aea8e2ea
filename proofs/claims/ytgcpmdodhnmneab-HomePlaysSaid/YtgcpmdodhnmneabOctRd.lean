import Derived.Test.YtgcpmdodhnmneabOctGet
/- The contracts of package octet's reader. A reader is a box of one cell that holds what is left. -/
set_option linter.unusedVariables false
set_option linter.unusedSimpArgs false
namespace Go.Proofs.Ytgcpmdodhnmneab
open Go.RowKit Go.Tm
set_option maxHeartbeats 400000
set_option maxRecDepth 100000

/-- What Row answers. -/
def rowE (n : Int) (l : List UInt8) : Int := if n < 0 then 30 else if (l.length : Int) < n then 10 else 0
def rowV (n : Int) (l : List UInt8) : List UInt8 := if rowE n l = 0 then l.take n.toNat else []
def rowL (n : Int) (l : List UInt8) : List UInt8 := if rowE n l = 0 then l.drop n.toNat else l

/-- What Number answers. -/
def isW (n : Int) : Bool := n == 1 || n == 2 || n == 4 || n == 8
def numE (n : Int) (l : List UInt8) : Int := if isW n then rowE n l else 30
def numV (n : Int) (l : List UInt8) : Nat := if numE n l = 0 then leN (l.take n.toNat) else 0
def numL (n : Int) (l : List UInt8) : List UInt8 := if numE n l = 0 then l.drop n.toNat else l

/-- What Int answers. -/
def intE (l : List UInt8) : Int := if l.length < 8 then 10 else if 1152921504606846976 < leN (l.take 8) then 30 else 0
def intV (l : List UInt8) : Nat := if intE l = 0 then leN (l.take 8) else 0
def intL (l : List UInt8) : List UInt8 := if intE l = 0 then l.drop 8 else l
end Go.Proofs.Ytgcpmdodhnmneab

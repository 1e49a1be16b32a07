/- Primes, and the whole parts of their roots. Conditions: none. -/
import Derived.Test.YtaooibcihjkhfaaDoorRoots
import Derived.Test.YtaooibcihjkhfaaDoorDig
import Derived.KernelRfl
namespace Go.Proofs.YtaooibcihjkhfaaDoor
open Go.RowKit Go.Proofs.YtaooibcihjkhfaaDoorW.PrintWords Go.Proofs.YtaooibcihjkhfaaDoor.PDigestRoots
def PL : List Nat := [2, 3, 5, 7, 11, 13, 17, 19, 23, 29, 31, 37, 41, 43, 47, 53, 59, 61, 67, 71, 73, 79, 83, 89, 97, 101, 103, 107, 109, 113, 127, 131, 137, 139, 149, 151, 157, 163, 167, 173, 179, 181, 191, 193, 197, 199, 211, 223, 227, 229, 233, 239, 241, 251, 257, 263, 269, 271, 277, 281, 283, 293, 307, 311]
def WL : List Nat := [1, 1, 1, 1, 2, 2, 2, 2, 2, 3, 3, 3, 3, 3, 3, 3, 3, 3, 4, 4, 4, 4, 4, 4, 4, 4, 4, 4, 4, 4, 5, 5, 5, 5, 5, 5, 5, 5, 5, 5, 5, 5, 5, 5, 5, 5, 5, 6, 6, 6, 6, 6, 6, 6, 6, 6, 6, 6, 6, 6, 6, 6, 6, 6, 1, 1, 2, 2, 3, 3, 4, 4]
def rootOk (a v : Nat) : Bool := match s_root.f 100 (v : Int) (K64.getD a 0) (PL.getD (a % 64) 0 : Nat) (decide (a < 64)) with
  | some r => r == decide (v = WL.getD a 0)
  | none => false
def rootsOk (a : Nat) : Bool := (List.range (WL.getD a 0)).all fun v => rootOk a (v + 1)
end Go.Proofs.YtaooibcihjkhfaaDoor

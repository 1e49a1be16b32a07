/- Each constant is a root. Conditions: none. -/
import Derived.Test.YtaooibcihjkhfaaDoorRtA
import Derived.Test.YtaooibcihjkhfaaDoorRtB
import Derived.Test.YtaooibcihjkhfaaDoorRtC
import Derived.Test.YtaooibcihjkhfaaDoorRtD
namespace Go.Proofs.YtaooibcihjkhfaaDoor
open Go.RowKit Go.Proofs.YtaooibcihjkhfaaDoorW.PrintWords Go.Proofs.YtaooibcihjkhfaaDoor.PDigestRoots
theorem rootsOk_all : ∀ a, a < 72 → rootsOk a = true
  | 0, _ => rt0
  | 1, _ => rt1
  | 2, _ => rt2
  | 3, _ => rt3
  | 4, _ => rt4
  | 5, _ => rt5
  | 6, _ => rt6
  | 7, _ => rt7
  | 8, _ => rt8
  | 9, _ => rt9
  | 10, _ => rt10
  | 11, _ => rt11
  | 12, _ => rt12
  | 13, _ => rt13
  | 14, _ => rt14
  | 15, _ => rt15
  | 16, _ => rt16
  | 17, _ => rt17
  | 18, _ => rt18
  | 19, _ => rt19
  | 20, _ => rt20
  | 21, _ => rt21
  | 22, _ => rt22
  | 23, _ => rt23
  | 24, _ => rt24
  | 25, _ => rt25
  | 26, _ => rt26
  | 27, _ => rt27
  | 28, _ => rt28
  | 29, _ => rt29
  | 30, _ => rt30
  | 31, _ => rt31
  | 32, _ => rt32
  | 33, _ => rt33
  | 34, _ => rt34
  | 35, _ => rt35
  | 36, _ => rt36
  | 37, _ => rt37
  | 38, _ => rt38
  | 39, _ => rt39
  | 40, _ => rt40
  | 41, _ => rt41
  | 42, _ => rt42
  | 43, _ => rt43
  | 44, _ => rt44
  | 45, _ => rt45
  | 46, _ => rt46
  | 47, _ => rt47
  | 48, _ => rt48
  | 49, _ => rt49
  | 50, _ => rt50
  | 51, _ => rt51
  | 52, _ => rt52
  | 53, _ => rt53
  | 54, _ => rt54
  | 55, _ => rt55
  | 56, _ => rt56
  | 57, _ => rt57
  | 58, _ => rt58
  | 59, _ => rt59
  | 60, _ => rt60
  | 61, _ => rt61
  | 62, _ => rt62
  | 63, _ => rt63
  | 64, _ => rt64
  | 65, _ => rt65
  | 66, _ => rt66
  | 67, _ => rt67
  | 68, _ => rt68
  | 69, _ => rt69
  | 70, _ => rt70
  | 71, _ => rt71
  | n + 72, h => absurd h (by omega)
theorem root_all (a v : Nat) (ha : a < 72) (h1 : 1 ≤ v) (hv : v ≤ WL.getD a 0) : redoubtlaw10_root.f 100 (v : Int) (K64.getD a 0) (PL.getD (a % 64) 0 : Nat) (decide (a < 64)) = some (decide (v = WL.getD a 0)) := by
  have h := List.all_eq_true.1 (rootsOk_all a ha) (v - 1) (List.mem_range.2 (by omega))
  rw [show v - 1 + 1 = v by omega] at h
  unfold rootOk at h
  rw [← s_rootF]
  split at h
  · next r hr => rw [hr, eq_of_beq h]
  · cases h
end Go.Proofs.YtaooibcihjkhfaaDoor

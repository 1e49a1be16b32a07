/- Some constants are roots, by the kernel. Conditions: none. -/
import Derived.Test.YtaooibcihjkhfaaDoorRtP
namespace Go.Proofs.YtaooibcihjkhfaaDoor
open Go.RowKit Go.Proofs.YtaooibcihjkhfaaDoorW.PrintWords Go.Proofs.YtaooibcihjkhfaaDoor.PDigestRoots
theorem rt0 : rootsOk 0 = true := by kernel_rfl
theorem rt4 : rootsOk 4 = true := by kernel_rfl
theorem rt8 : rootsOk 8 = true := by kernel_rfl
theorem rt12 : rootsOk 12 = true := by kernel_rfl
theorem rt16 : rootsOk 16 = true := by kernel_rfl
theorem rt20 : rootsOk 20 = true := by kernel_rfl
theorem rt24 : rootsOk 24 = true := by kernel_rfl
theorem rt28 : rootsOk 28 = true := by kernel_rfl
theorem rt32 : rootsOk 32 = true := by kernel_rfl
theorem rt36 : rootsOk 36 = true := by kernel_rfl
theorem rt40 : rootsOk 40 = true := by kernel_rfl
theorem rt44 : rootsOk 44 = true := by kernel_rfl
theorem rt48 : rootsOk 48 = true := by kernel_rfl
theorem rt52 : rootsOk 52 = true := by kernel_rfl
theorem rt56 : rootsOk 56 = true := by kernel_rfl
theorem rt60 : rootsOk 60 = true := by kernel_rfl
theorem rt64 : rootsOk 64 = true := by kernel_rfl
theorem rt68 : rootsOk 68 = true := by kernel_rfl
end Go.Proofs.YtaooibcihjkhfaaDoor

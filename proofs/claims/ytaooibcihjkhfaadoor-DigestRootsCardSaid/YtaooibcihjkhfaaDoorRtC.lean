/- Some constants are roots, by the kernel. Conditions: none. -/
import Derived.Test.YtaooibcihjkhfaaDoorRtP
namespace Go.Proofs.YtaooibcihjkhfaaDoor
open Go.RowKit Go.Proofs.YtaooibcihjkhfaaDoorW.PrintWords Go.Proofs.YtaooibcihjkhfaaDoor.PDigestRoots
theorem rt2 : rootsOk 2 = true := by kernel_rfl
theorem rt6 : rootsOk 6 = true := by kernel_rfl
theorem rt10 : rootsOk 10 = true := by kernel_rfl
theorem rt14 : rootsOk 14 = true := by kernel_rfl
theorem rt18 : rootsOk 18 = true := by kernel_rfl
theorem rt22 : rootsOk 22 = true := by kernel_rfl
theorem rt26 : rootsOk 26 = true := by kernel_rfl
theorem rt30 : rootsOk 30 = true := by kernel_rfl
theorem rt34 : rootsOk 34 = true := by kernel_rfl
theorem rt38 : rootsOk 38 = true := by kernel_rfl
theorem rt42 : rootsOk 42 = true := by kernel_rfl
theorem rt46 : rootsOk 46 = true := by kernel_rfl
theorem rt50 : rootsOk 50 = true := by kernel_rfl
theorem rt54 : rootsOk 54 = true := by kernel_rfl
theorem rt58 : rootsOk 58 = true := by kernel_rfl
theorem rt62 : rootsOk 62 = true := by kernel_rfl
theorem rt66 : rootsOk 66 = true := by kernel_rfl
theorem rt70 : rootsOk 70 = true := by kernel_rfl
end Go.Proofs.YtaooibcihjkhfaaDoor

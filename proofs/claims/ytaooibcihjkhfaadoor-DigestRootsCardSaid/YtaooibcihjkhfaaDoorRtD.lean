/- Some constants are roots, by the kernel. Conditions: none. -/
import Derived.Test.YtaooibcihjkhfaaDoorRtP
namespace Go.Proofs.YtaooibcihjkhfaaDoor
open Go.RowKit Go.Proofs.YtaooibcihjkhfaaDoorW.PrintWords Go.Proofs.YtaooibcihjkhfaaDoor.PDigestRoots
theorem rt3 : rootsOk 3 = true := by kernel_rfl
theorem rt7 : rootsOk 7 = true := by kernel_rfl
theorem rt11 : rootsOk 11 = true := by kernel_rfl
theorem rt15 : rootsOk 15 = true := by kernel_rfl
theorem rt19 : rootsOk 19 = true := by kernel_rfl
theorem rt23 : rootsOk 23 = true := by kernel_rfl
theorem rt27 : rootsOk 27 = true := by kernel_rfl
theorem rt31 : rootsOk 31 = true := by kernel_rfl
theorem rt35 : rootsOk 35 = true := by kernel_rfl
theorem rt39 : rootsOk 39 = true := by kernel_rfl
theorem rt43 : rootsOk 43 = true := by kernel_rfl
theorem rt47 : rootsOk 47 = true := by kernel_rfl
theorem rt51 : rootsOk 51 = true := by kernel_rfl
theorem rt55 : rootsOk 55 = true := by kernel_rfl
theorem rt59 : rootsOk 59 = true := by kernel_rfl
theorem rt63 : rootsOk 63 = true := by kernel_rfl
theorem rt67 : rootsOk 67 = true := by kernel_rfl
theorem rt71 : rootsOk 71 = true := by kernel_rfl
end Go.Proofs.YtaooibcihjkhfaaDoor

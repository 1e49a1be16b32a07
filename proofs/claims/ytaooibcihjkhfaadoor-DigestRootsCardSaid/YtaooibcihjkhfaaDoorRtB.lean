/- Some constants are roots, by the kernel. Conditions: none. -/
import Derived.Test.YtaooibcihjkhfaaDoorRtP
namespace Go.Proofs.YtaooibcihjkhfaaDoor
open Go.RowKit Go.Proofs.YtaooibcihjkhfaaDoorW.PrintWords Go.Proofs.YtaooibcihjkhfaaDoor.PDigestRoots
theorem rt1 : rootsOk 1 = true := by kernel_rfl
theorem rt5 : rootsOk 5 = true := by kernel_rfl
theorem rt9 : rootsOk 9 = true := by kernel_rfl
theorem rt13 : rootsOk 13 = true := by kernel_rfl
theorem rt17 : rootsOk 17 = true := by kernel_rfl
theorem rt21 : rootsOk 21 = true := by kernel_rfl
theorem rt25 : rootsOk 25 = true := by kernel_rfl
theorem rt29 : rootsOk 29 = true := by kernel_rfl
theorem rt33 : rootsOk 33 = true := by kernel_rfl
theorem rt37 : rootsOk 37 = true := by kernel_rfl
theorem rt41 : rootsOk 41 = true := by kernel_rfl
theorem rt45 : rootsOk 45 = true := by kernel_rfl
theorem rt49 : rootsOk 49 = true := by kernel_rfl
theorem rt53 : rootsOk 53 = true := by kernel_rfl
theorem rt57 : rootsOk 57 = true := by kernel_rfl
theorem rt61 : rootsOk 61 = true := by kernel_rfl
theorem rt65 : rootsOk 65 = true := by kernel_rfl
theorem rt69 : rootsOk 69 = true := by kernel_rfl
end Go.Proofs.YtaooibcihjkhfaaDoor

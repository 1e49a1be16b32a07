/- What the rows over the table of constants share: what is laid is the table. Conditions: those that each lemma states. -/
import Derived.Test.YtaooibcihjkhfaaDoorRowB
import Derived.Test.YtaooibcihjkhfaaDoorCDig
import Derived.Test.YtaooibcihjkhfaaDoorTie
import Derived.Test.YtaooibcihjkhfaaDoorCards
import Derived.LaidMore
import Derived.LaidOnce
import Derived.LaidSub
import Derived.LaidLaws
import Derived.LaidHandle
import Derived.MakeChecks
import Derived.SevenTiedAt
import Derived.OpenShut
import Derived.Stop.Joined
namespace Go.Proofs.YtaooibcihjkhfaaDoor
open Go.ChangeShapes Go.WideShapes Go.ChangeAt Go.RowKit
theorem gTab : Tryd.prog.globalNamed "redoubt/digest.constants" = some 0 := by kernel_rfl
theorem tTab : (Tryd.prog.globals[0]?).map (·.type) = some 42 := by kernel_rfl
abbrev laidD : List (String × DataW Unit) := [("redoubt/digest.constants", Rows.laid_redoubt_digest_constants)]
theorem laidD_eq : (Rows.laid_redoubt_digest_constants : DataW Unit) = .agg (K64.map fun k => .lit (.int .u32 k)) := rfl
theorem door_met (os : Os) (args : Array Value) : laidMetH Tryd.prog laidD ((World.doorLaid Tryd.prog 14 os).forCall (fun _ _ => 0) ⟨#[], args, []⟩).memory :=
  laidMetH_of_parts3 (fuel := 8) (laidMet_of_run' 8 (by kernel_rfl) (by kernel_rfl)) (by kernel_rfl) (by kernel_rfl)
theorem tab_of_laid {W : World} (h : laidMetH Tryd.prog laidD W) : Tab W := by
  rw [MakeChecks.laidMetH_plain _ _ _ (by kernel_rfl)] at h
  obtain ⟨ps, ⟨g0, t0, cs0, f0, p0, q0, hg0, ht0, hv0, hd0, _⟩, _⟩ := h
  obtain rfl := Option.some.inj (gTab.symm.trans hg0)
  obtain rfl := Option.some.inj (tTab.symm.trans ht0)
  rw [laidD_eq] at hd0
  obtain ⟨xs, m1, rfl, hx1, hlen, hn72, hel⟩ := DataW.trod_array Tryd.underlying42 hd0
  have c39 : Tryd.prog.cellsOf 39 = 1 := by kernel_rfl
  simp only [Prod.mk.injEq, DataW.agg.injEq] at hx1
  intro i hi
  have h1 := hel i hi
  rw [c39, Nat.mul_one] at h1
  have hxi : i < xs.length := by omega
  rw [List.getElem?_eq_getElem hxi] at h1
  obtain ⟨k, e1, e2, _⟩ := DataW.trod_int Tryd.underlying39 h1
  have e3 : (xs.map (·.1))[i]? = (K64.map fun k => (DataW.lit (.int .u32 k) : DataW Unit))[i]? := by rw [hx1.1]
  rw [List.getElem?_map, List.getElem?_map, List.getElem?_eq_getElem hxi, e2, List.getElem?_eq_getElem (by rw [K64_len]; exact hi)] at e3
  have e4 : k = K64.getD i 0 := by
    rw [List.getD_eq_getElem?_getD, List.getElem?_eq_getElem (by rw [K64_len]; exact hi)]
    simpa using e3
  subst e4
  have := World.var?_cell hg0 hv0 i
  rw [this]
  have e5 : (cs0.toList.drop i)[0]? = some (.int .u32 (K64.getD i 0)) := by
    have : ((cs0.toList.drop i).take 1)[0]? = some (.int .u32 (K64.getD i 0)) := by rw [e1]; rfl
    rwa [List.getElem?_take_of_lt (by decide)] at this
  rw [List.getElem?_drop, Nat.add_zero, Array.getElem?_toList] at e5
  exact e5
end Go.Proofs.YtaooibcihjkhfaaDoor

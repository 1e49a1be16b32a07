/-
  DERIVED. GIVEN WITH THE SEED: THE CARDS: each row of YtaooibcihjkhfaaDoorRows.lean that lists a variable, with what it lists TIED to the program's text (the seventh form; the later family's looks); each row that meets fmt, with fmt's text TOLD by the authors' own Lean function (tested against real Go, not proved from fmt's source: count such statements apart). THE CARD IS WHAT COUNTS. Prove the row's statement (the work); the ties are given (YtaooibcihjkhfaaDoorTie.lean); close each card by the builder's one call (the guide's Derived/Test/ToyasCard.lean, 'card_holds'). Laid BY PROGRAM, IN A SANDBOX (cutbox-door.mjs). By AI agents, Wed Nov 11 2026. No macro, syntax, notation, axiom, sorry.
-/
import Derived.Test.YtaooibcihjkhfaaDoorRows
import GoSem.ClaimSeven
namespace Go.Proofs.YtaooibcihjkhfaaDoor
namespace Rows

/-- THE TIED CARD OF 'redoubtlaw10.DigestOf'. -/
def digestOfCard : Claim7 := { stood := { row := digestOfRow, standIns := [], harness := (true, "c2047b8275ff4aa356a624dec0aa81c70d276b39076714eb5f1ac39e7ad4596d"), looks := false }, kinds := [], alts := [], laidByText := true, laidKinds := [.data], laidTests := true, laidLooks := .later }
def DigestOfCardSaid : Prop := Claim7.holds Tryd.pinned (.plain (OpenSpec.ofChange digestOfSpec)) digestOfCard

/-- THE TIED CARD OF 'redoubtlaw10.DigestRoots'. -/
def digestRootsCard : Claim7 := { stood := { row := digestRootsRow, standIns := [], harness := (true, "c2047b8275ff4aa356a624dec0aa81c70d276b39076714eb5f1ac39e7ad4596d"), looks := false }, kinds := [], alts := [], laidByText := true, laidKinds := [.data], laidTests := true, laidLooks := .later }
def DigestRootsCardSaid : Prop := Claim7.holds Tryd.pinned (.plain (OpenSpec.ofChange digestRootsSpec)) digestRootsCard

/-- THE TIED CARD OF 'redoubtlaw10.DigestMore'. -/
def digestMoreCard : Claim7 := { stood := { row := digestMoreRow, standIns := [], harness := (true, "c2047b8275ff4aa356a624dec0aa81c70d276b39076714eb5f1ac39e7ad4596d"), looks := false }, kinds := [], alts := [], laidByText := true, laidKinds := [.data], laidTests := true, laidLooks := .later }
def DigestMoreCardSaid : Prop := Claim7.holds Tryd.pinned (.plain (OpenSpec.ofChange digestMoreSpec)) digestMoreCard

/-- THE TIED CARD OF 'redoubtlaw10.DigestRounds'. -/
def digestRoundsCard : Claim7 := { stood := { row := digestRoundsRow, standIns := [], harness := (true, "c2047b8275ff4aa356a624dec0aa81c70d276b39076714eb5f1ac39e7ad4596d"), looks := false }, kinds := [], alts := [], laidByText := true, laidKinds := [.data], laidTests := true, laidLooks := .later }
def DigestRoundsCardSaid : Prop := Claim7.holds Tryd.pinned (.plain (OpenSpec.ofChange digestRoundsSpec)) digestRoundsCard

/-- THE SECOND FORM's CARD OF 'redoubtlaw10.DigestOf'. -/
def digestOfUptoCard : Claim7 := { stood := { row := digestOfUptoRow, standIns := [], harness := (true, "c2047b8275ff4aa356a624dec0aa81c70d276b39076714eb5f1ac39e7ad4596d"), looks := false }, kinds := [], alts := [], laidByText := true, laidKinds := [.data], laidTests := true, laidLooks := .later }
def DigestOfUptoCardSaid : Prop := Claim7.holds Tryd.pinned (.plain (OpenSpec.upto digestOfSpec)) digestOfUptoCard

/-- THE SECOND FORM's CARD OF 'redoubtlaw10.DigestRoots'. -/
def digestRootsUptoCard : Claim7 := { stood := { row := digestRootsUptoRow, standIns := [], harness := (true, "c2047b8275ff4aa356a624dec0aa81c70d276b39076714eb5f1ac39e7ad4596d"), looks := false }, kinds := [], alts := [], laidByText := true, laidKinds := [.data], laidTests := true, laidLooks := .later }
def DigestRootsUptoCardSaid : Prop := Claim7.holds Tryd.pinned (.plain (OpenSpec.upto digestRootsSpec)) digestRootsUptoCard

/-- THE SECOND FORM's CARD OF 'redoubtlaw10.DigestMore'. -/
def digestMoreUptoCard : Claim7 := { stood := { row := digestMoreUptoRow, standIns := [], harness := (true, "c2047b8275ff4aa356a624dec0aa81c70d276b39076714eb5f1ac39e7ad4596d"), looks := false }, kinds := [], alts := [], laidByText := true, laidKinds := [.data], laidTests := true, laidLooks := .later }
def DigestMoreUptoCardSaid : Prop := Claim7.holds Tryd.pinned (.plain (OpenSpec.upto digestMoreSpec)) digestMoreUptoCard

/-- THE SECOND FORM's CARD OF 'redoubtlaw10.DigestRounds'. -/
def digestRoundsUptoCard : Claim7 := { stood := { row := digestRoundsUptoRow, standIns := [], harness := (true, "c2047b8275ff4aa356a624dec0aa81c70d276b39076714eb5f1ac39e7ad4596d"), looks := false }, kinds := [], alts := [], laidByText := true, laidKinds := [.data], laidTests := true, laidLooks := .later }
def DigestRoundsUptoCardSaid : Prop := Claim7.holds Tryd.pinned (.plain (OpenSpec.upto digestRoundsSpec)) digestRoundsUptoCard
end Rows
end Go.Proofs.YtaooibcihjkhfaaDoor

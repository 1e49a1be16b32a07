/-
  No cell of these rows narrows 'for every input' (looked for: loops, veiled, ifaces, maps, wideKeys, modest, calm, conditions, laid).
  DERIVED. THE GIVEN ROWS OF THIS SEAT. 5 by the template 'for every input the law returns true; each argument reads behind the call as it read before'; 0 by the template 'total and deterministic' (their statements: YtljdkfgnoalgpaaTotals.lean).
  GIVEN WITH THE SEED: the statements are not yours to turn. If you find one false, say at which input.
  Laid BY PROGRAM, IN A SANDBOX (cutbox-rows.mjs): the forced cells as the released guide's own fill.sh prints them over the translation 21e832eeeeaec4fd… (all of the seat's roots in one cut). By AI agents, Wed Nov 11 2026. No macro, syntax, notation, axiom, sorry.
-/
import Derived.Test.YtljdkfgnoalgpaaChecked
import GoSem.Claim
import GoSem.ClaimJoined
import GoSem.ClaimMapViews
import Derived.JoinedTies
import Derived.KernelRfl
namespace Go.Proofs.Ytljdkfgnoalgpaa
/- THE CELL 'sum', in the pinned program and in every row, IS THE sha256 OF THE DUMP (.gsa) THAT YtljdkfgnoalgpaaProg.lean LOADS. Nothing in Lean hashes anything: it is a label: what it is worth is what the hold of that sum in a sandbox is worth. -/
noncomputable def Try.pinned : Pinned := { name := "ytljdkfgnoalgpaa", sum := "21e832eeeeaec4fd30b32934d3997f49a721f478f0f19d22918c0f4a04db5c92", checked := Try.checked }
namespace Rows
def none {H : Type} : Left H := { results := [], args := [] }

/-- 'redoubtlaw06.SegLays': WHATEVER THE INPUT: true; the input reads as it did. -/
def segLaysSpec : ChangeSpec := { name := "segLays", fn := fun _ => fun
  | [d1, d2, d3] => { results := [.lit (.bool true)], args := [d1, d2, d3] }
  | _ => none }
def segLaysRow : OpenClaim := { program := "ytljdkfgnoalgpaa", sum := "21e832eeeeaec4fd30b32934d3997f49a721f478f0f19d22918c0f4a04db5c92", func := "redoubt/redoubtlaw06.SegLays", spec := "segLays", unfollowed := true, recurses := true, apart := false }
def SegLaysSaid : Prop := segLaysRow.holds Try.pinned (OpenSpec.ofChange segLaysSpec)

/-- ITS FALSE NEIGHBOUR: 'it returns false'. Refute it at one input. -/
def segLaysWrong : ChangeSpec := { name := "segLays", fn := fun _ => fun
  | [d1, d2, d3] => { results := [.lit (.bool false)], args := [d1, d2, d3] }
  | _ => none }
def SegLaysWrongFalsely : Prop := segLaysRow.holds Try.pinned (OpenSpec.ofChange segLaysWrong)

/-- 'redoubtlaw06.SegParses': WHATEVER THE INPUT: true; the input reads as it did. -/
def segParsesSpec : ChangeSpec := { name := "segParses", fn := fun _ => fun
  | [d1, d2, d3] => { results := [.lit (.bool true)], args := [d1, d2, d3] }
  | _ => none }
def segParsesRow : OpenClaim := { program := "ytljdkfgnoalgpaa", sum := "21e832eeeeaec4fd30b32934d3997f49a721f478f0f19d22918c0f4a04db5c92", func := "redoubt/redoubtlaw06.SegParses", spec := "segParses", unfollowed := true, recurses := true, apart := false }
def SegParsesSaid : Prop := segParsesRow.holds Try.pinned (OpenSpec.ofChange segParsesSpec)

/-- ITS FALSE NEIGHBOUR: 'it returns false'. Refute it at one input. -/
def segParsesWrong : ChangeSpec := { name := "segParses", fn := fun _ => fun
  | [d1, d2, d3] => { results := [.lit (.bool false)], args := [d1, d2, d3] }
  | _ => none }
def SegParsesWrongFalsely : Prop := segParsesRow.holds Try.pinned (OpenSpec.ofChange segParsesWrong)

/-- 'redoubtlaw06.SegOffers': WHATEVER THE INPUT: true; the input reads as it did. -/
def segOffersSpec : ChangeSpec := { name := "segOffers", fn := fun _ => fun
  | [d1, d2] => { results := [.lit (.bool true)], args := [d1, d2] }
  | _ => none }
def segOffersRow : OpenClaim := { program := "ytljdkfgnoalgpaa", sum := "21e832eeeeaec4fd30b32934d3997f49a721f478f0f19d22918c0f4a04db5c92", func := "redoubt/redoubtlaw06.SegOffers", spec := "segOffers", unfollowed := true, recurses := true, apart := false }
def SegOffersSaid : Prop := segOffersRow.holds Try.pinned (OpenSpec.ofChange segOffersSpec)

/-- ITS FALSE NEIGHBOUR: 'it returns false'. Refute it at one input. -/
def segOffersWrong : ChangeSpec := { name := "segOffers", fn := fun _ => fun
  | [d1, d2] => { results := [.lit (.bool false)], args := [d1, d2] }
  | _ => none }
def SegOffersWrongFalsely : Prop := segOffersRow.holds Try.pinned (OpenSpec.ofChange segOffersWrong)

/-- 'redoubtlaw06.SegBack': WHATEVER THE INPUT: true; the input reads as it did. -/
def segBackSpec : ChangeSpec := { name := "segBack", fn := fun _ => fun
  | [d1, d2, d3, d4] => { results := [.lit (.bool true)], args := [d1, d2, d3, d4] }
  | _ => none }
def segBackRow : OpenClaim := { program := "ytljdkfgnoalgpaa", sum := "21e832eeeeaec4fd30b32934d3997f49a721f478f0f19d22918c0f4a04db5c92", func := "redoubt/redoubtlaw06.SegBack", spec := "segBack", unfollowed := true, recurses := true, apart := false }
def SegBackSaid : Prop := segBackRow.holds Try.pinned (OpenSpec.ofChange segBackSpec)

/-- ITS FALSE NEIGHBOUR: 'it returns false'. Refute it at one input. -/
def segBackWrong : ChangeSpec := { name := "segBack", fn := fun _ => fun
  | [d1, d2, d3, d4] => { results := [.lit (.bool false)], args := [d1, d2, d3, d4] }
  | _ => none }
def SegBackWrongFalsely : Prop := segBackRow.holds Try.pinned (OpenSpec.ofChange segBackWrong)

/-- 'redoubtlaw06.SegLengths': WHATEVER THE INPUT: true; the input reads as it did. -/
def segLengthsSpec : ChangeSpec := { name := "segLengths", fn := fun _ => fun
  | [d1, d2, d3, d4] => { results := [.lit (.bool true)], args := [d1, d2, d3, d4] }
  | _ => none }
def segLengthsRow : OpenClaim := { program := "ytljdkfgnoalgpaa", sum := "21e832eeeeaec4fd30b32934d3997f49a721f478f0f19d22918c0f4a04db5c92", func := "redoubt/redoubtlaw06.SegLengths", spec := "segLengths", unfollowed := true, recurses := true, apart := false }
def SegLengthsSaid : Prop := segLengthsRow.holds Try.pinned (OpenSpec.ofChange segLengthsSpec)

/-- ITS FALSE NEIGHBOUR: 'it returns false'. Refute it at one input. -/
def segLengthsWrong : ChangeSpec := { name := "segLengths", fn := fun _ => fun
  | [d1, d2, d3, d4] => { results := [.lit (.bool false)], args := [d1, d2, d3, d4] }
  | _ => none }
def SegLengthsWrongFalsely : Prop := segLengthsRow.holds Try.pinned (OpenSpec.ofChange segLengthsWrong)

/- THE SECOND FORM. 'bulk': how many values and letters a reading holds, each counted each time it is reached (what is shared counts as often as it is met; a slice's spare places count too). A statement '..UptoSaid' is the law's where the arguments, and the package variables that the reading takes, are together of bulk at most 1048576: NARROWER than '..Said'. Prove '..Said' where nothing that the law and all that it calls make is longer than what came in: it says more and counts as full. Else prove '..UptoSaid'. A law counts once. -/
mutual
def uptoBulk {H : Type} : DataW H → Nat
  | .lit (.string bytes) => bytes.length + 1
  | .lit _ => 1
  | .nil => 1
  | .ptr d => uptoBulk d + 1
  | .slice elems spare => uptoBulkAll elems + uptoBulkAll spare + 1
  | .agg parts => uptoBulkAll parts + 1
  | .iface _ d => uptoBulk d + 1
  | .map entries => uptoBulkEntries entries + 1
  | .held _ => 1
def uptoBulkAll {H : Type} : List (DataW H) → Nat
  | [] => 0
  | d :: r => uptoBulk d + uptoBulkAll r
def uptoBulkEntries {H : Type} : List (Lit × DataW H) → Nat
  | [] => 0
  | x :: r => uptoBulkEntry x + uptoBulkEntries r
def uptoBulkEntry {H : Type} : Lit × DataW H → Nat
  | (.string bytes, d) => bytes.length + uptoBulk d + 1
  | (_, d) => uptoBulk d + 1
 end
def uptoSmall : (H : Type) → List (DataW H) → Bool := fun _ ds => decide (uptoBulkAll ds ≤ 1048576)
def OpenSpec.upto (s : _root_.Go.ChangeSpec) : _root_.Go.OpenSpec := { _root_.Go.OpenSpec.ofChange s with cond := some uptoSmall }

/-- 'redoubtlaw06.SegLays', WHERE WHAT IT READS IS OF BULK AT MOST 1048576: true; the input reads as it did. -/
def segLaysUptoRow : OpenClaim := { program := "ytljdkfgnoalgpaa", sum := "21e832eeeeaec4fd30b32934d3997f49a721f478f0f19d22918c0f4a04db5c92", func := "redoubt/redoubtlaw06.SegLays", spec := "segLays", unfollowed := true, recurses := true, apart := false, narrowed := true }
def SegLaysUptoSaid : Prop := segLaysUptoRow.holds Try.pinned (OpenSpec.upto segLaysSpec)

/-- 'redoubtlaw06.SegParses', WHERE WHAT IT READS IS OF BULK AT MOST 1048576: true; the input reads as it did. -/
def segParsesUptoRow : OpenClaim := { program := "ytljdkfgnoalgpaa", sum := "21e832eeeeaec4fd30b32934d3997f49a721f478f0f19d22918c0f4a04db5c92", func := "redoubt/redoubtlaw06.SegParses", spec := "segParses", unfollowed := true, recurses := true, apart := false, narrowed := true }
def SegParsesUptoSaid : Prop := segParsesUptoRow.holds Try.pinned (OpenSpec.upto segParsesSpec)

/-- 'redoubtlaw06.SegOffers', WHERE WHAT IT READS IS OF BULK AT MOST 1048576: true; the input reads as it did. -/
def segOffersUptoRow : OpenClaim := { program := "ytljdkfgnoalgpaa", sum := "21e832eeeeaec4fd30b32934d3997f49a721f478f0f19d22918c0f4a04db5c92", func := "redoubt/redoubtlaw06.SegOffers", spec := "segOffers", unfollowed := true, recurses := true, apart := false, narrowed := true }
def SegOffersUptoSaid : Prop := segOffersUptoRow.holds Try.pinned (OpenSpec.upto segOffersSpec)

/-- 'redoubtlaw06.SegBack', WHERE WHAT IT READS IS OF BULK AT MOST 1048576: true; the input reads as it did. -/
def segBackUptoRow : OpenClaim := { program := "ytljdkfgnoalgpaa", sum := "21e832eeeeaec4fd30b32934d3997f49a721f478f0f19d22918c0f4a04db5c92", func := "redoubt/redoubtlaw06.SegBack", spec := "segBack", unfollowed := true, recurses := true, apart := false, narrowed := true }
def SegBackUptoSaid : Prop := segBackUptoRow.holds Try.pinned (OpenSpec.upto segBackSpec)

/-- 'redoubtlaw06.SegLengths', WHERE WHAT IT READS IS OF BULK AT MOST 1048576: true; the input reads as it did. -/
def segLengthsUptoRow : OpenClaim := { program := "ytljdkfgnoalgpaa", sum := "21e832eeeeaec4fd30b32934d3997f49a721f478f0f19d22918c0f4a04db5c92", func := "redoubt/redoubtlaw06.SegLengths", spec := "segLengths", unfollowed := true, recurses := true, apart := false, narrowed := true }
def SegLengthsUptoSaid : Prop := segLengthsUptoRow.holds Try.pinned (OpenSpec.upto segLengthsSpec)

end Rows
end Go.Proofs.Ytljdkfgnoalgpaa

/-
  No cell of these rows narrows 'for every input' (looked for: loops, veiled, ifaces, maps, wideKeys, modest, calm, conditions, laid).
  DERIVED. THE GIVEN ROWS OF THIS SEAT. 4 by the template 'for every input the law returns true; each argument reads behind the call as it read before'; 0 by the template 'total and deterministic' (their statements: YtgkphopdmkfcgaaTotals.lean).
  GIVEN WITH THE SEED: the statements are not yours to turn. If you find one false, say at which input.
  Laid BY PROGRAM, IN A SANDBOX (cutbox-rows.mjs): the forced cells as the released guide's own fill.sh prints them over the translation 5fca29b095df479f… (all of the seat's roots in one cut). By AI agents, Wed Nov 11 2026. No macro, syntax, notation, axiom, sorry.
-/
import Derived.Test.YtgkphopdmkfcgaaChecked
import GoSem.Claim
import GoSem.ClaimJoined
import GoSem.ClaimMapViews
import Derived.JoinedTies
import Derived.KernelRfl
namespace Go.Proofs.Ytgkphopdmkfcgaa
/- THE CELL 'sum', in the pinned program and in every row, IS THE sha256 OF THE DUMP (.gsa) THAT YtgkphopdmkfcgaaProg.lean LOADS. Nothing in Lean hashes anything: it is a label: what it is worth is what the hold of that sum in a sandbox is worth. -/
noncomputable def Try.pinned : Pinned := { name := "ytgkphopdmkfcgaa", sum := "5fca29b095df479ffab4e786fe79646a9edb163dca63350e7dd884d0141bd943", checked := Try.checked }
namespace Rows
def none {H : Type} : Left H := { results := [], args := [] }

/-- 'redoubtlaw09.CtrTurns': WHATEVER THE INPUT: true; the input reads as it did. -/
def ctrTurnsSpec : ChangeSpec := { name := "ctrTurns", fn := fun _ => fun
  | [d1, d2, d3, d4, d5] => { results := [.lit (.bool true)], args := [d1, d2, d3, d4, d5] }
  | _ => none }
def ctrTurnsRow : OpenClaim := { program := "ytgkphopdmkfcgaa", sum := "5fca29b095df479ffab4e786fe79646a9edb163dca63350e7dd884d0141bd943", func := "redoubt/redoubtlaw09.CtrTurns", spec := "ctrTurns", unfollowed := true, recurses := true, apart := false }
def CtrTurnsSaid : Prop := ctrTurnsRow.holds Try.pinned (OpenSpec.ofChange ctrTurnsSpec)

/-- ITS FALSE NEIGHBOUR: 'it returns false'. Refute it at one input. -/
def ctrTurnsWrong : ChangeSpec := { name := "ctrTurns", fn := fun _ => fun
  | [d1, d2, d3, d4, d5] => { results := [.lit (.bool false)], args := [d1, d2, d3, d4, d5] }
  | _ => none }
def CtrTurnsWrongFalsely : Prop := ctrTurnsRow.holds Try.pinned (OpenSpec.ofChange ctrTurnsWrong)

/-- 'redoubtlaw09.CtrTwice': WHATEVER THE INPUT: true; the input reads as it did. -/
def ctrTwiceSpec : ChangeSpec := { name := "ctrTwice", fn := fun _ => fun
  | [d1, d2, d3, d4, d5] => { results := [.lit (.bool true)], args := [d1, d2, d3, d4, d5] }
  | _ => none }
def ctrTwiceRow : OpenClaim := { program := "ytgkphopdmkfcgaa", sum := "5fca29b095df479ffab4e786fe79646a9edb163dca63350e7dd884d0141bd943", func := "redoubt/redoubtlaw09.CtrTwice", spec := "ctrTwice", unfollowed := true, recurses := true, apart := false }
def CtrTwiceSaid : Prop := ctrTwiceRow.holds Try.pinned (OpenSpec.ofChange ctrTwiceSpec)

/-- ITS FALSE NEIGHBOUR: 'it returns false'. Refute it at one input. -/
def ctrTwiceWrong : ChangeSpec := { name := "ctrTwice", fn := fun _ => fun
  | [d1, d2, d3, d4, d5] => { results := [.lit (.bool false)], args := [d1, d2, d3, d4, d5] }
  | _ => none }
def CtrTwiceWrongFalsely : Prop := ctrTwiceRow.holds Try.pinned (OpenSpec.ofChange ctrTwiceWrong)

/-- 'redoubtlaw09.CtrPlaces': WHATEVER THE INPUT: true; the input reads as it did. -/
def ctrPlacesSpec : ChangeSpec := { name := "ctrPlaces", fn := fun _ => fun
  | [d1, d2, d3, d4, d5] => { results := [.lit (.bool true)], args := [d1, d2, d3, d4, d5] }
  | _ => none }
def ctrPlacesRow : OpenClaim := { program := "ytgkphopdmkfcgaa", sum := "5fca29b095df479ffab4e786fe79646a9edb163dca63350e7dd884d0141bd943", func := "redoubt/redoubtlaw09.CtrPlaces", spec := "ctrPlaces", unfollowed := true, recurses := true, apart := false }
def CtrPlacesSaid : Prop := ctrPlacesRow.holds Try.pinned (OpenSpec.ofChange ctrPlacesSpec)

/-- ITS FALSE NEIGHBOUR: 'it returns false'. Refute it at one input. -/
def ctrPlacesWrong : ChangeSpec := { name := "ctrPlaces", fn := fun _ => fun
  | [d1, d2, d3, d4, d5] => { results := [.lit (.bool false)], args := [d1, d2, d3, d4, d5] }
  | _ => none }
def CtrPlacesWrongFalsely : Prop := ctrPlacesRow.holds Try.pinned (OpenSpec.ofChange ctrPlacesWrong)

/-- 'redoubtlaw09.CtrBlocks': WHATEVER THE INPUT: true; the input reads as it did. -/
def ctrBlocksSpec : ChangeSpec := { name := "ctrBlocks", fn := fun _ => fun
  | [d1, d2, d3, d4] => { results := [.lit (.bool true)], args := [d1, d2, d3, d4] }
  | _ => none }
def ctrBlocksRow : OpenClaim := { program := "ytgkphopdmkfcgaa", sum := "5fca29b095df479ffab4e786fe79646a9edb163dca63350e7dd884d0141bd943", func := "redoubt/redoubtlaw09.CtrBlocks", spec := "ctrBlocks", unfollowed := true, recurses := true, apart := false }
def CtrBlocksSaid : Prop := ctrBlocksRow.holds Try.pinned (OpenSpec.ofChange ctrBlocksSpec)

/-- ITS FALSE NEIGHBOUR: 'it returns false'. Refute it at one input. -/
def ctrBlocksWrong : ChangeSpec := { name := "ctrBlocks", fn := fun _ => fun
  | [d1, d2, d3, d4] => { results := [.lit (.bool false)], args := [d1, d2, d3, d4] }
  | _ => none }
def CtrBlocksWrongFalsely : Prop := ctrBlocksRow.holds Try.pinned (OpenSpec.ofChange ctrBlocksWrong)

/- THE SECOND FORM. 'bulk': how many values and letters a reading holds, each counted each time it is reached (what is shared counts as often as it is met; a slice's spare places count too). A statement '..UptoSaid' is the law's where the arguments, and the package variables that the reading takes, are together of bulk at most 1048576: NARROWER than '..Said'. Prove '..Said' where nothing that the law and all that it calls make is longer than what came in: it says more and counts as full. Else prove '..UptoSaid'. A law counts once. -/
mutual
def uptoBulk {H : Type} : DataW H → Nat
  | .lit (.string bytes) => bytes.length + 1
  | .lit _ => 1
  | .nil => 1
  | .ptr d => uptoBulk d + 1
  | .slice elems spare => uptoBulkAll elems + uptoBulkAll spare + 1
  | .agg parts => uptoBulkAll parts + 1
  | .iface _ d => uptoBulk d + 1
  | .map entries => uptoBulkEntries entries + 1
  | .held _ => 1
def uptoBulkAll {H : Type} : List (DataW H) → Nat
  | [] => 0
  | d :: r => uptoBulk d + uptoBulkAll r
def uptoBulkEntries {H : Type} : List (Lit × DataW H) → Nat
  | [] => 0
  | x :: r => uptoBulkEntry x + uptoBulkEntries r
def uptoBulkEntry {H : Type} : Lit × DataW H → Nat
  | (.string bytes, d) => bytes.length + uptoBulk d + 1
  | (_, d) => uptoBulk d + 1
 end
def uptoSmall : (H : Type) → List (DataW H) → Bool := fun _ ds => decide (uptoBulkAll ds ≤ 1048576)
def OpenSpec.upto (s : _root_.Go.ChangeSpec) : _root_.Go.OpenSpec := { _root_.Go.OpenSpec.ofChange s with cond := some uptoSmall }

/-- 'redoubtlaw09.CtrTurns', WHERE WHAT IT READS IS OF BULK AT MOST 1048576: true; the input reads as it did. -/
def ctrTurnsUptoRow : OpenClaim := { program := "ytgkphopdmkfcgaa", sum := "5fca29b095df479ffab4e786fe79646a9edb163dca63350e7dd884d0141bd943", func := "redoubt/redoubtlaw09.CtrTurns", spec := "ctrTurns", unfollowed := true, recurses := true, apart := false, narrowed := true }
def CtrTurnsUptoSaid : Prop := ctrTurnsUptoRow.holds Try.pinned (OpenSpec.upto ctrTurnsSpec)

/-- 'redoubtlaw09.CtrTwice', WHERE WHAT IT READS IS OF BULK AT MOST 1048576: true; the input reads as it did. -/
def ctrTwiceUptoRow : OpenClaim := { program := "ytgkphopdmkfcgaa", sum := "5fca29b095df479ffab4e786fe79646a9edb163dca63350e7dd884d0141bd943", func := "redoubt/redoubtlaw09.CtrTwice", spec := "ctrTwice", unfollowed := true, recurses := true, apart := false, narrowed := true }
def CtrTwiceUptoSaid : Prop := ctrTwiceUptoRow.holds Try.pinned (OpenSpec.upto ctrTwiceSpec)

/-- 'redoubtlaw09.CtrPlaces', WHERE WHAT IT READS IS OF BULK AT MOST 1048576: true; the input reads as it did. -/
def ctrPlacesUptoRow : OpenClaim := { program := "ytgkphopdmkfcgaa", sum := "5fca29b095df479ffab4e786fe79646a9edb163dca63350e7dd884d0141bd943", func := "redoubt/redoubtlaw09.CtrPlaces", spec := "ctrPlaces", unfollowed := true, recurses := true, apart := false, narrowed := true }
def CtrPlacesUptoSaid : Prop := ctrPlacesUptoRow.holds Try.pinned (OpenSpec.upto ctrPlacesSpec)

/-- 'redoubtlaw09.CtrBlocks', WHERE WHAT IT READS IS OF BULK AT MOST 1048576: true; the input reads as it did. -/
def ctrBlocksUptoRow : OpenClaim := { program := "ytgkphopdmkfcgaa", sum := "5fca29b095df479ffab4e786fe79646a9edb163dca63350e7dd884d0141bd943", func := "redoubt/redoubtlaw09.CtrBlocks", spec := "ctrBlocks", unfollowed := true, recurses := true, apart := false, narrowed := true }
def CtrBlocksUptoSaid : Prop := ctrBlocksUptoRow.holds Try.pinned (OpenSpec.upto ctrBlocksSpec)

end Rows
end Go.Proofs.Ytgkphopdmkfcgaa

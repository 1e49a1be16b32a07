/-
  No cell of these rows narrows 'for every input' (looked for: loops, veiled, ifaces, maps, wideKeys, modest, calm, conditions, laid).
  DERIVED. THE GIVEN ROWS OF THIS SEAT. 5 by the template 'for every input the law returns true; each argument reads behind the call as it read before'; 0 by the template 'total and deterministic' (their statements: YtmcidhdjbcjonaaTotals.lean).
  GIVEN WITH THE SEED: the statements are not yours to turn. If you find one false, say at which input.
  Laid BY PROGRAM, IN A SANDBOX (cutbox-rows.mjs): the forced cells as the released guide's own fill.sh prints them over the translation 340c6f55d227a704… (all of the seat's roots in one cut). By AI agents, Wed Nov 11 2026. No macro, syntax, notation, axiom, sorry.
-/
import Derived.Test.YtmcidhdjbcjonaaChecked
import GoSem.Claim
import GoSem.ClaimJoined
import GoSem.ClaimMapViews
import Derived.JoinedTies
import Derived.KernelRfl
namespace Go.Proofs.Ytmcidhdjbcjonaa
/- THE CELL 'sum', in the pinned program and in every row, IS THE sha256 OF THE DUMP (.gsa) THAT YtmcidhdjbcjonaaProg.lean LOADS. Nothing in Lean hashes anything: it is a label: what it is worth is what the hold of that sum in a sandbox is worth. -/
noncomputable def Try.pinned : Pinned := { name := "ytmcidhdjbcjonaa", sum := "340c6f55d227a7049f35633830fcb735ecf3fee92bd58d31398dcb9269e2ef0e", checked := Try.checked }
namespace Rows
def none {H : Type} : Left H := { results := [], args := [] }

/-- 'redoubtlaw23.RtoDoes': WHATEVER THE INPUT: true; the input reads as it did. -/
def rtoDoesSpec : ChangeSpec := { name := "rtoDoes", fn := fun _ => fun
  | [d] => { results := [.lit (.bool true)], args := [d] }
  | _ => none }
def rtoDoesRow : OpenClaim := { program := "ytmcidhdjbcjonaa", sum := "340c6f55d227a7049f35633830fcb735ecf3fee92bd58d31398dcb9269e2ef0e", func := "redoubt/redoubtlaw23.RtoDoes", spec := "rtoDoes", unfollowed := true, recurses := true, apart := false }
def RtoDoesSaid : Prop := rtoDoesRow.holds Try.pinned (OpenSpec.ofChange rtoDoesSpec)

/-- ITS FALSE NEIGHBOUR: 'it returns false'. Refute it at one input. -/
def rtoDoesWrong : ChangeSpec := { name := "rtoDoes", fn := fun _ => fun
  | [d] => { results := [.lit (.bool false)], args := [d] }
  | _ => none }
def RtoDoesWrongFalsely : Prop := rtoDoesRow.holds Try.pinned (OpenSpec.ofChange rtoDoesWrong)

/-- 'redoubtlaw23.RtoBounds': WHATEVER THE INPUT: true; the input reads as it did. -/
def rtoBoundsSpec : ChangeSpec := { name := "rtoBounds", fn := fun _ => fun
  | [d] => { results := [.lit (.bool true)], args := [d] }
  | _ => none }
def rtoBoundsRow : OpenClaim := { program := "ytmcidhdjbcjonaa", sum := "340c6f55d227a7049f35633830fcb735ecf3fee92bd58d31398dcb9269e2ef0e", func := "redoubt/redoubtlaw23.RtoBounds", spec := "rtoBounds", unfollowed := true, recurses := true, apart := false }
def RtoBoundsSaid : Prop := rtoBoundsRow.holds Try.pinned (OpenSpec.ofChange rtoBoundsSpec)

/-- ITS FALSE NEIGHBOUR: 'it returns false'. Refute it at one input. -/
def rtoBoundsWrong : ChangeSpec := { name := "rtoBounds", fn := fun _ => fun
  | [d] => { results := [.lit (.bool false)], args := [d] }
  | _ => none }
def RtoBoundsWrongFalsely : Prop := rtoBoundsRow.holds Try.pinned (OpenSpec.ofChange rtoBoundsWrong)

/-- 'redoubtlaw23.RtoSteady': WHATEVER THE INPUT: true; the input reads as it did. -/
def rtoSteadySpec : ChangeSpec := { name := "rtoSteady", fn := fun _ => fun
  | [d1, d2] => { results := [.lit (.bool true)], args := [d1, d2] }
  | _ => none }
def rtoSteadyRow : OpenClaim := { program := "ytmcidhdjbcjonaa", sum := "340c6f55d227a7049f35633830fcb735ecf3fee92bd58d31398dcb9269e2ef0e", func := "redoubt/redoubtlaw23.RtoSteady", spec := "rtoSteady", unfollowed := true, recurses := true, apart := false }
def RtoSteadySaid : Prop := rtoSteadyRow.holds Try.pinned (OpenSpec.ofChange rtoSteadySpec)

/-- ITS FALSE NEIGHBOUR: 'it returns false'. Refute it at one input. -/
def rtoSteadyWrong : ChangeSpec := { name := "rtoSteady", fn := fun _ => fun
  | [d1, d2] => { results := [.lit (.bool false)], args := [d1, d2] }
  | _ => none }
def RtoSteadyWrongFalsely : Prop := rtoSteadyRow.holds Try.pinned (OpenSpec.ofChange rtoSteadyWrong)

/-- 'redoubtlaw23.RtoNil': WHATEVER THE INPUT: true; the input reads as it did. -/
def rtoNilSpec : ChangeSpec := { name := "rtoNil", fn := fun _ => fun
  | [d] => { results := [.lit (.bool true)], args := [d] }
  | _ => none }
def rtoNilRow : OpenClaim := { program := "ytmcidhdjbcjonaa", sum := "340c6f55d227a7049f35633830fcb735ecf3fee92bd58d31398dcb9269e2ef0e", func := "redoubt/redoubtlaw23.RtoNil", spec := "rtoNil", unfollowed := true, recurses := true, apart := false }
def RtoNilSaid : Prop := rtoNilRow.holds Try.pinned (OpenSpec.ofChange rtoNilSpec)

/-- ITS FALSE NEIGHBOUR: 'it returns false'. Refute it at one input. -/
def rtoNilWrong : ChangeSpec := { name := "rtoNil", fn := fun _ => fun
  | [d] => { results := [.lit (.bool false)], args := [d] }
  | _ => none }
def RtoNilWrongFalsely : Prop := rtoNilRow.holds Try.pinned (OpenSpec.ofChange rtoNilWrong)

/-- 'redoubtlaw23.RtoOlder': WHATEVER THE INPUT: true; the input reads as it did. -/
def rtoOlderSpec : ChangeSpec := { name := "rtoOlder", fn := fun _ => fun
  | [d1, d2] => { results := [.lit (.bool true)], args := [d1, d2] }
  | _ => none }
def rtoOlderRow : OpenClaim := { program := "ytmcidhdjbcjonaa", sum := "340c6f55d227a7049f35633830fcb735ecf3fee92bd58d31398dcb9269e2ef0e", func := "redoubt/redoubtlaw23.RtoOlder", spec := "rtoOlder", unfollowed := true, recurses := true, apart := false }
def RtoOlderSaid : Prop := rtoOlderRow.holds Try.pinned (OpenSpec.ofChange rtoOlderSpec)

/-- ITS FALSE NEIGHBOUR: 'it returns false'. Refute it at one input. -/
def rtoOlderWrong : ChangeSpec := { name := "rtoOlder", fn := fun _ => fun
  | [d1, d2] => { results := [.lit (.bool false)], args := [d1, d2] }
  | _ => none }
def RtoOlderWrongFalsely : Prop := rtoOlderRow.holds Try.pinned (OpenSpec.ofChange rtoOlderWrong)

/- THE SECOND FORM. 'bulk': how many values and letters a reading holds, each counted each time it is reached (what is shared counts as often as it is met; a slice's spare places count too). A statement '..UptoSaid' is the law's where the arguments, and the package variables that the reading takes, are together of bulk at most 1048576: NARROWER than '..Said'. Prove '..Said' where nothing that the law and all that it calls make is longer than what came in: it says more and counts as full. Else prove '..UptoSaid'. A law counts once. -/
mutual
def uptoBulk {H : Type} : DataW H → Nat
  | .lit (.string bytes) => bytes.length + 1
  | .lit _ => 1
  | .nil => 1
  | .ptr d => uptoBulk d + 1
  | .slice elems spare => uptoBulkAll elems + uptoBulkAll spare + 1
  | .agg parts => uptoBulkAll parts + 1
  | .iface _ d => uptoBulk d + 1
  | .map entries => uptoBulkEntries entries + 1
  | .held _ => 1
def uptoBulkAll {H : Type} : List (DataW H) → Nat
  | [] => 0
  | d :: r => uptoBulk d + uptoBulkAll r
def uptoBulkEntries {H : Type} : List (Lit × DataW H) → Nat
  | [] => 0
  | x :: r => uptoBulkEntry x + uptoBulkEntries r
def uptoBulkEntry {H : Type} : Lit × DataW H → Nat
  | (.string bytes, d) => bytes.length + uptoBulk d + 1
  | (_, d) => uptoBulk d + 1
 end
def uptoSmall : (H : Type) → List (DataW H) → Bool := fun _ ds => decide (uptoBulkAll ds ≤ 1048576)
def OpenSpec.upto (s : _root_.Go.ChangeSpec) : _root_.Go.OpenSpec := { _root_.Go.OpenSpec.ofChange s with cond := some uptoSmall }

/-- 'redoubtlaw23.RtoDoes', WHERE WHAT IT READS IS OF BULK AT MOST 1048576: true; the input reads as it did. -/
def rtoDoesUptoRow : OpenClaim := { program := "ytmcidhdjbcjonaa", sum := "340c6f55d227a7049f35633830fcb735ecf3fee92bd58d31398dcb9269e2ef0e", func := "redoubt/redoubtlaw23.RtoDoes", spec := "rtoDoes", unfollowed := true, recurses := true, apart := false, narrowed := true }
def RtoDoesUptoSaid : Prop := rtoDoesUptoRow.holds Try.pinned (OpenSpec.upto rtoDoesSpec)

/-- 'redoubtlaw23.RtoBounds', WHERE WHAT IT READS IS OF BULK AT MOST 1048576: true; the input reads as it did. -/
def rtoBoundsUptoRow : OpenClaim := { program := "ytmcidhdjbcjonaa", sum := "340c6f55d227a7049f35633830fcb735ecf3fee92bd58d31398dcb9269e2ef0e", func := "redoubt/redoubtlaw23.RtoBounds", spec := "rtoBounds", unfollowed := true, recurses := true, apart := false, narrowed := true }
def RtoBoundsUptoSaid : Prop := rtoBoundsUptoRow.holds Try.pinned (OpenSpec.upto rtoBoundsSpec)

/-- 'redoubtlaw23.RtoSteady', WHERE WHAT IT READS IS OF BULK AT MOST 1048576: true; the input reads as it did. -/
def rtoSteadyUptoRow : OpenClaim := { program := "ytmcidhdjbcjonaa", sum := "340c6f55d227a7049f35633830fcb735ecf3fee92bd58d31398dcb9269e2ef0e", func := "redoubt/redoubtlaw23.RtoSteady", spec := "rtoSteady", unfollowed := true, recurses := true, apart := false, narrowed := true }
def RtoSteadyUptoSaid : Prop := rtoSteadyUptoRow.holds Try.pinned (OpenSpec.upto rtoSteadySpec)

/-- 'redoubtlaw23.RtoNil', WHERE WHAT IT READS IS OF BULK AT MOST 1048576: true; the input reads as it did. -/
def rtoNilUptoRow : OpenClaim := { program := "ytmcidhdjbcjonaa", sum := "340c6f55d227a7049f35633830fcb735ecf3fee92bd58d31398dcb9269e2ef0e", func := "redoubt/redoubtlaw23.RtoNil", spec := "rtoNil", unfollowed := true, recurses := true, apart := false, narrowed := true }
def RtoNilUptoSaid : Prop := rtoNilUptoRow.holds Try.pinned (OpenSpec.upto rtoNilSpec)

/-- 'redoubtlaw23.RtoOlder', WHERE WHAT IT READS IS OF BULK AT MOST 1048576: true; the input reads as it did. -/
def rtoOlderUptoRow : OpenClaim := { program := "ytmcidhdjbcjonaa", sum := "340c6f55d227a7049f35633830fcb735ecf3fee92bd58d31398dcb9269e2ef0e", func := "redoubt/redoubtlaw23.RtoOlder", spec := "rtoOlder", unfollowed := true, recurses := true, apart := false, narrowed := true }
def RtoOlderUptoSaid : Prop := rtoOlderUptoRow.holds Try.pinned (OpenSpec.upto rtoOlderSpec)

end Rows
end Go.Proofs.Ytmcidhdjbcjonaa

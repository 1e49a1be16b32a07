/-
  No cell of these rows narrows 'for every input' (looked for: loops, veiled, ifaces, maps, wideKeys, modest, calm, conditions, laid).
  DERIVED. THE GIVEN ROWS OF THIS SEAT. 4 by the template 'for every input the law returns true; each argument reads behind the call as it read before'; 0 by the template 'total and deterministic' (their statements: YtbmlbomildfmcaaTotals.lean).
  GIVEN WITH THE SEED: the statements are not yours to turn. If you find one false, say at which input.
  Laid BY PROGRAM, IN A SANDBOX (cutbox-rows.mjs): the forced cells as the released guide's own fill.sh prints them over the translation 525bdd7a911c2b8b… (all of the seat's roots in one cut). By AI agents, Wed Nov 11 2026. No macro, syntax, notation, axiom, sorry.
-/
import Derived.Test.YtbmlbomildfmcaaChecked
import GoSem.Claim
import GoSem.ClaimJoined
import GoSem.ClaimMapViews
import Derived.JoinedTies
import Derived.KernelRfl
namespace Go.Proofs.Ytbmlbomildfmcaa
/- THE CELL 'sum', in the pinned program and in every row, IS THE sha256 OF THE DUMP (.gsa) THAT YtbmlbomildfmcaaProg.lean LOADS. Nothing in Lean hashes anything: it is a label: what it is worth is what the hold of that sum in a sandbox is worth. -/
noncomputable def Try.pinned : Pinned := { name := "ytbmlbomildfmcaa", sum := "525bdd7a911c2b8bf5f33a6a905ce665d5628cfa731dcd3840c7e63c2bc35d3a", checked := Try.checked }
namespace Rows
def none {H : Type} : Left H := { results := [], args := [] }

/-- 'redoubtlaw05.UdpLays': WHATEVER THE INPUT: true; the input reads as it did. -/
def udpLaysSpec : ChangeSpec := { name := "udpLays", fn := fun _ => fun
  | [d1, d2, d3] => { results := [.lit (.bool true)], args := [d1, d2, d3] }
  | _ => none }
def udpLaysRow : OpenClaim := { program := "ytbmlbomildfmcaa", sum := "525bdd7a911c2b8bf5f33a6a905ce665d5628cfa731dcd3840c7e63c2bc35d3a", func := "redoubt/redoubtlaw05.UdpLays", spec := "udpLays", unfollowed := true, recurses := true, apart := false }
def UdpLaysSaid : Prop := udpLaysRow.holds Try.pinned (OpenSpec.ofChange udpLaysSpec)

/-- ITS FALSE NEIGHBOUR: 'it returns false'. Refute it at one input. -/
def udpLaysWrong : ChangeSpec := { name := "udpLays", fn := fun _ => fun
  | [d1, d2, d3] => { results := [.lit (.bool false)], args := [d1, d2, d3] }
  | _ => none }
def UdpLaysWrongFalsely : Prop := udpLaysRow.holds Try.pinned (OpenSpec.ofChange udpLaysWrong)

/-- 'redoubtlaw05.UdpParses': WHATEVER THE INPUT: true; the input reads as it did. -/
def udpParsesSpec : ChangeSpec := { name := "udpParses", fn := fun _ => fun
  | [d1, d2, d3] => { results := [.lit (.bool true)], args := [d1, d2, d3] }
  | _ => none }
def udpParsesRow : OpenClaim := { program := "ytbmlbomildfmcaa", sum := "525bdd7a911c2b8bf5f33a6a905ce665d5628cfa731dcd3840c7e63c2bc35d3a", func := "redoubt/redoubtlaw05.UdpParses", spec := "udpParses", unfollowed := true, recurses := true, apart := false }
def UdpParsesSaid : Prop := udpParsesRow.holds Try.pinned (OpenSpec.ofChange udpParsesSpec)

/-- ITS FALSE NEIGHBOUR: 'it returns false'. Refute it at one input. -/
def udpParsesWrong : ChangeSpec := { name := "udpParses", fn := fun _ => fun
  | [d1, d2, d3] => { results := [.lit (.bool false)], args := [d1, d2, d3] }
  | _ => none }
def UdpParsesWrongFalsely : Prop := udpParsesRow.holds Try.pinned (OpenSpec.ofChange udpParsesWrong)

/-- 'redoubtlaw05.UdpBack': WHATEVER THE INPUT: true; the input reads as it did. -/
def udpBackSpec : ChangeSpec := { name := "udpBack", fn := fun _ => fun
  | [d1, d2, d3, d4] => { results := [.lit (.bool true)], args := [d1, d2, d3, d4] }
  | _ => none }
def udpBackRow : OpenClaim := { program := "ytbmlbomildfmcaa", sum := "525bdd7a911c2b8bf5f33a6a905ce665d5628cfa731dcd3840c7e63c2bc35d3a", func := "redoubt/redoubtlaw05.UdpBack", spec := "udpBack", unfollowed := true, recurses := true, apart := false }
def UdpBackSaid : Prop := udpBackRow.holds Try.pinned (OpenSpec.ofChange udpBackSpec)

/-- ITS FALSE NEIGHBOUR: 'it returns false'. Refute it at one input. -/
def udpBackWrong : ChangeSpec := { name := "udpBack", fn := fun _ => fun
  | [d1, d2, d3, d4] => { results := [.lit (.bool false)], args := [d1, d2, d3, d4] }
  | _ => none }
def UdpBackWrongFalsely : Prop := udpBackRow.holds Try.pinned (OpenSpec.ofChange udpBackWrong)

/-- 'redoubtlaw05.UdpTurned': WHATEVER THE INPUT: true; the input reads as it did. -/
def udpTurnedSpec : ChangeSpec := { name := "udpTurned", fn := fun _ => fun
  | [d1, d2, d3, d4, d5] => { results := [.lit (.bool true)], args := [d1, d2, d3, d4, d5] }
  | _ => none }
def udpTurnedRow : OpenClaim := { program := "ytbmlbomildfmcaa", sum := "525bdd7a911c2b8bf5f33a6a905ce665d5628cfa731dcd3840c7e63c2bc35d3a", func := "redoubt/redoubtlaw05.UdpTurned", spec := "udpTurned", unfollowed := true, recurses := true, apart := false }
def UdpTurnedSaid : Prop := udpTurnedRow.holds Try.pinned (OpenSpec.ofChange udpTurnedSpec)

/-- ITS FALSE NEIGHBOUR: 'it returns false'. Refute it at one input. -/
def udpTurnedWrong : ChangeSpec := { name := "udpTurned", fn := fun _ => fun
  | [d1, d2, d3, d4, d5] => { results := [.lit (.bool false)], args := [d1, d2, d3, d4, d5] }
  | _ => none }
def UdpTurnedWrongFalsely : Prop := udpTurnedRow.holds Try.pinned (OpenSpec.ofChange udpTurnedWrong)

/- THE SECOND FORM. 'bulk': how many values and letters a reading holds, each counted each time it is reached (what is shared counts as often as it is met; a slice's spare places count too). A statement '..UptoSaid' is the law's where the arguments, and the package variables that the reading takes, are together of bulk at most 1048576: NARROWER than '..Said'. Prove '..Said' where nothing that the law and all that it calls make is longer than what came in: it says more and counts as full. Else prove '..UptoSaid'. A law counts once. -/
mutual
def uptoBulk {H : Type} : DataW H → Nat
  | .lit (.string bytes) => bytes.length + 1
  | .lit _ => 1
  | .nil => 1
  | .ptr d => uptoBulk d + 1
  | .slice elems spare => uptoBulkAll elems + uptoBulkAll spare + 1
  | .agg parts => uptoBulkAll parts + 1
  | .iface _ d => uptoBulk d + 1
  | .map entries => uptoBulkEntries entries + 1
  | .held _ => 1
def uptoBulkAll {H : Type} : List (DataW H) → Nat
  | [] => 0
  | d :: r => uptoBulk d + uptoBulkAll r
def uptoBulkEntries {H : Type} : List (Lit × DataW H) → Nat
  | [] => 0
  | x :: r => uptoBulkEntry x + uptoBulkEntries r
def uptoBulkEntry {H : Type} : Lit × DataW H → Nat
  | (.string bytes, d) => bytes.length + uptoBulk d + 1
  | (_, d) => uptoBulk d + 1
 end
def uptoSmall : (H : Type) → List (DataW H) → Bool := fun _ ds => decide (uptoBulkAll ds ≤ 1048576)
def OpenSpec.upto (s : _root_.Go.ChangeSpec) : _root_.Go.OpenSpec := { _root_.Go.OpenSpec.ofChange s with cond := some uptoSmall }

/-- 'redoubtlaw05.UdpLays', WHERE WHAT IT READS IS OF BULK AT MOST 1048576: true; the input reads as it did. -/
def udpLaysUptoRow : OpenClaim := { program := "ytbmlbomildfmcaa", sum := "525bdd7a911c2b8bf5f33a6a905ce665d5628cfa731dcd3840c7e63c2bc35d3a", func := "redoubt/redoubtlaw05.UdpLays", spec := "udpLays", unfollowed := true, recurses := true, apart := false, narrowed := true }
def UdpLaysUptoSaid : Prop := udpLaysUptoRow.holds Try.pinned (OpenSpec.upto udpLaysSpec)

/-- 'redoubtlaw05.UdpParses', WHERE WHAT IT READS IS OF BULK AT MOST 1048576: true; the input reads as it did. -/
def udpParsesUptoRow : OpenClaim := { program := "ytbmlbomildfmcaa", sum := "525bdd7a911c2b8bf5f33a6a905ce665d5628cfa731dcd3840c7e63c2bc35d3a", func := "redoubt/redoubtlaw05.UdpParses", spec := "udpParses", unfollowed := true, recurses := true, apart := false, narrowed := true }
def UdpParsesUptoSaid : Prop := udpParsesUptoRow.holds Try.pinned (OpenSpec.upto udpParsesSpec)

/-- 'redoubtlaw05.UdpBack', WHERE WHAT IT READS IS OF BULK AT MOST 1048576: true; the input reads as it did. -/
def udpBackUptoRow : OpenClaim := { program := "ytbmlbomildfmcaa", sum := "525bdd7a911c2b8bf5f33a6a905ce665d5628cfa731dcd3840c7e63c2bc35d3a", func := "redoubt/redoubtlaw05.UdpBack", spec := "udpBack", unfollowed := true, recurses := true, apart := false, narrowed := true }
def UdpBackUptoSaid : Prop := udpBackUptoRow.holds Try.pinned (OpenSpec.upto udpBackSpec)

/-- 'redoubtlaw05.UdpTurned', WHERE WHAT IT READS IS OF BULK AT MOST 1048576: true; the input reads as it did. -/
def udpTurnedUptoRow : OpenClaim := { program := "ytbmlbomildfmcaa", sum := "525bdd7a911c2b8bf5f33a6a905ce665d5628cfa731dcd3840c7e63c2bc35d3a", func := "redoubt/redoubtlaw05.UdpTurned", spec := "udpTurned", unfollowed := true, recurses := true, apart := false, narrowed := true }
def UdpTurnedUptoSaid : Prop := udpTurnedUptoRow.holds Try.pinned (OpenSpec.upto udpTurnedSpec)

end Rows
end Go.Proofs.Ytbmlbomildfmcaa

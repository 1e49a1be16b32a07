/-
  No cell of these rows narrows 'for every input' (looked for: loops, veiled, ifaces, maps, wideKeys, modest, calm, conditions, laid).
  DERIVED. THE GIVEN ROWS OF THIS SEAT. 5 by the template 'for every input the law returns true; each argument reads behind the call as it read before'; 0 by the template 'total and deterministic' (their statements: YtfcccglkhdfodaaTotals.lean).
  GIVEN WITH THE SEED: the statements are not yours to turn. If you find one false, say at which input.
  Laid BY PROGRAM, IN A SANDBOX (cutbox-rows.mjs): the forced cells as the released guide's own fill.sh prints them over the translation 9212dbbe1ec6f3df… (all of the seat's roots in one cut). By AI agents, Wed Nov 11 2026. No macro, syntax, notation, axiom, sorry.
-/
import Derived.Test.YtfcccglkhdfodaaChecked
import GoSem.Claim
import GoSem.ClaimJoined
import GoSem.ClaimMapViews
import Derived.JoinedTies
import Derived.KernelRfl
namespace Go.Proofs.Ytfcccglkhdfodaa
/- THE CELL 'sum', in the pinned program and in every row, IS THE sha256 OF THE DUMP (.gsa) THAT YtfcccglkhdfodaaProg.lean LOADS. Nothing in Lean hashes anything: it is a label: what it is worth is what the hold of that sum in a sandbox is worth. -/
noncomputable def Try.pinned : Pinned := { name := "ytfcccglkhdfodaa", sum := "9212dbbe1ec6f3df676d6b0549ddd3cfa1640ac7be7fd2d2c3c02a87c17d518f", checked := Try.checked }
namespace Rows
def none {H : Type} : Left H := { results := [], args := [] }

/-- 'redoubtlaw07.IcmpLays': WHATEVER THE INPUT: true; the input reads as it did. -/
def icmpLaysSpec : ChangeSpec := { name := "icmpLays", fn := fun _ => fun
  | [d1, d2, d3] => { results := [.lit (.bool true)], args := [d1, d2, d3] }
  | _ => none }
def icmpLaysRow : OpenClaim := { program := "ytfcccglkhdfodaa", sum := "9212dbbe1ec6f3df676d6b0549ddd3cfa1640ac7be7fd2d2c3c02a87c17d518f", func := "redoubt/redoubtlaw07.IcmpLays", spec := "icmpLays", unfollowed := true, recurses := true, apart := false }
def IcmpLaysSaid : Prop := icmpLaysRow.holds Try.pinned (OpenSpec.ofChange icmpLaysSpec)

/-- ITS FALSE NEIGHBOUR: 'it returns false'. Refute it at one input. -/
def icmpLaysWrong : ChangeSpec := { name := "icmpLays", fn := fun _ => fun
  | [d1, d2, d3] => { results := [.lit (.bool false)], args := [d1, d2, d3] }
  | _ => none }
def IcmpLaysWrongFalsely : Prop := icmpLaysRow.holds Try.pinned (OpenSpec.ofChange icmpLaysWrong)

/-- 'redoubtlaw07.IcmpParses': WHATEVER THE INPUT: true; the input reads as it did. -/
def icmpParsesSpec : ChangeSpec := { name := "icmpParses", fn := fun _ => fun
  | [d1, d2, d3] => { results := [.lit (.bool true)], args := [d1, d2, d3] }
  | _ => none }
def icmpParsesRow : OpenClaim := { program := "ytfcccglkhdfodaa", sum := "9212dbbe1ec6f3df676d6b0549ddd3cfa1640ac7be7fd2d2c3c02a87c17d518f", func := "redoubt/redoubtlaw07.IcmpParses", spec := "icmpParses", unfollowed := true, recurses := true, apart := false }
def IcmpParsesSaid : Prop := icmpParsesRow.holds Try.pinned (OpenSpec.ofChange icmpParsesSpec)

/-- ITS FALSE NEIGHBOUR: 'it returns false'. Refute it at one input. -/
def icmpParsesWrong : ChangeSpec := { name := "icmpParses", fn := fun _ => fun
  | [d1, d2, d3] => { results := [.lit (.bool false)], args := [d1, d2, d3] }
  | _ => none }
def IcmpParsesWrongFalsely : Prop := icmpParsesRow.holds Try.pinned (OpenSpec.ofChange icmpParsesWrong)

/-- 'redoubtlaw07.IcmpKinds': WHATEVER THE INPUT: true; the input reads as it did. -/
def icmpKindsSpec : ChangeSpec := { name := "icmpKinds", fn := fun _ => fun
  | [d1, d2, d3, d4] => { results := [.lit (.bool true)], args := [d1, d2, d3, d4] }
  | _ => none }
def icmpKindsRow : OpenClaim := { program := "ytfcccglkhdfodaa", sum := "9212dbbe1ec6f3df676d6b0549ddd3cfa1640ac7be7fd2d2c3c02a87c17d518f", func := "redoubt/redoubtlaw07.IcmpKinds", spec := "icmpKinds", unfollowed := true, recurses := true, apart := false }
def IcmpKindsSaid : Prop := icmpKindsRow.holds Try.pinned (OpenSpec.ofChange icmpKindsSpec)

/-- ITS FALSE NEIGHBOUR: 'it returns false'. Refute it at one input. -/
def icmpKindsWrong : ChangeSpec := { name := "icmpKinds", fn := fun _ => fun
  | [d1, d2, d3, d4] => { results := [.lit (.bool false)], args := [d1, d2, d3, d4] }
  | _ => none }
def IcmpKindsWrongFalsely : Prop := icmpKindsRow.holds Try.pinned (OpenSpec.ofChange icmpKindsWrong)

/-- 'redoubtlaw07.IcmpBack': WHATEVER THE INPUT: true; the input reads as it did. -/
def icmpBackSpec : ChangeSpec := { name := "icmpBack", fn := fun _ => fun
  | [d1, d2, d3, d4] => { results := [.lit (.bool true)], args := [d1, d2, d3, d4] }
  | _ => none }
def icmpBackRow : OpenClaim := { program := "ytfcccglkhdfodaa", sum := "9212dbbe1ec6f3df676d6b0549ddd3cfa1640ac7be7fd2d2c3c02a87c17d518f", func := "redoubt/redoubtlaw07.IcmpBack", spec := "icmpBack", unfollowed := true, recurses := true, apart := false }
def IcmpBackSaid : Prop := icmpBackRow.holds Try.pinned (OpenSpec.ofChange icmpBackSpec)

/-- ITS FALSE NEIGHBOUR: 'it returns false'. Refute it at one input. -/
def icmpBackWrong : ChangeSpec := { name := "icmpBack", fn := fun _ => fun
  | [d1, d2, d3, d4] => { results := [.lit (.bool false)], args := [d1, d2, d3, d4] }
  | _ => none }
def IcmpBackWrongFalsely : Prop := icmpBackRow.holds Try.pinned (OpenSpec.ofChange icmpBackWrong)

/-- 'redoubtlaw07.IcmpAnswers': WHATEVER THE INPUT: true; the input reads as it did. -/
def icmpAnswersSpec : ChangeSpec := { name := "icmpAnswers", fn := fun _ => fun
  | [d1, d2, d3, d4] => { results := [.lit (.bool true)], args := [d1, d2, d3, d4] }
  | _ => none }
def icmpAnswersRow : OpenClaim := { program := "ytfcccglkhdfodaa", sum := "9212dbbe1ec6f3df676d6b0549ddd3cfa1640ac7be7fd2d2c3c02a87c17d518f", func := "redoubt/redoubtlaw07.IcmpAnswers", spec := "icmpAnswers", unfollowed := true, recurses := true, apart := false }
def IcmpAnswersSaid : Prop := icmpAnswersRow.holds Try.pinned (OpenSpec.ofChange icmpAnswersSpec)

/-- ITS FALSE NEIGHBOUR: 'it returns false'. Refute it at one input. -/
def icmpAnswersWrong : ChangeSpec := { name := "icmpAnswers", fn := fun _ => fun
  | [d1, d2, d3, d4] => { results := [.lit (.bool false)], args := [d1, d2, d3, d4] }
  | _ => none }
def IcmpAnswersWrongFalsely : Prop := icmpAnswersRow.holds Try.pinned (OpenSpec.ofChange icmpAnswersWrong)

/- THE SECOND FORM. 'bulk': how many values and letters a reading holds, each counted each time it is reached (what is shared counts as often as it is met; a slice's spare places count too). A statement '..UptoSaid' is the law's where the arguments, and the package variables that the reading takes, are together of bulk at most 1048576: NARROWER than '..Said'. Prove '..Said' where nothing that the law and all that it calls make is longer than what came in: it says more and counts as full. Else prove '..UptoSaid'. A law counts once. -/
mutual
def uptoBulk {H : Type} : DataW H → Nat
  | .lit (.string bytes) => bytes.length + 1
  | .lit _ => 1
  | .nil => 1
  | .ptr d => uptoBulk d + 1
  | .slice elems spare => uptoBulkAll elems + uptoBulkAll spare + 1
  | .agg parts => uptoBulkAll parts + 1
  | .iface _ d => uptoBulk d + 1
  | .map entries => uptoBulkEntries entries + 1
  | .held _ => 1
def uptoBulkAll {H : Type} : List (DataW H) → Nat
  | [] => 0
  | d :: r => uptoBulk d + uptoBulkAll r
def uptoBulkEntries {H : Type} : List (Lit × DataW H) → Nat
  | [] => 0
  | x :: r => uptoBulkEntry x + uptoBulkEntries r
def uptoBulkEntry {H : Type} : Lit × DataW H → Nat
  | (.string bytes, d) => bytes.length + uptoBulk d + 1
  | (_, d) => uptoBulk d + 1
 end
def uptoSmall : (H : Type) → List (DataW H) → Bool := fun _ ds => decide (uptoBulkAll ds ≤ 1048576)
def OpenSpec.upto (s : _root_.Go.ChangeSpec) : _root_.Go.OpenSpec := { _root_.Go.OpenSpec.ofChange s with cond := some uptoSmall }

/-- 'redoubtlaw07.IcmpLays', WHERE WHAT IT READS IS OF BULK AT MOST 1048576: true; the input reads as it did. -/
def icmpLaysUptoRow : OpenClaim := { program := "ytfcccglkhdfodaa", sum := "9212dbbe1ec6f3df676d6b0549ddd3cfa1640ac7be7fd2d2c3c02a87c17d518f", func := "redoubt/redoubtlaw07.IcmpLays", spec := "icmpLays", unfollowed := true, recurses := true, apart := false, narrowed := true }
def IcmpLaysUptoSaid : Prop := icmpLaysUptoRow.holds Try.pinned (OpenSpec.upto icmpLaysSpec)

/-- 'redoubtlaw07.IcmpParses', WHERE WHAT IT READS IS OF BULK AT MOST 1048576: true; the input reads as it did. -/
def icmpParsesUptoRow : OpenClaim := { program := "ytfcccglkhdfodaa", sum := "9212dbbe1ec6f3df676d6b0549ddd3cfa1640ac7be7fd2d2c3c02a87c17d518f", func := "redoubt/redoubtlaw07.IcmpParses", spec := "icmpParses", unfollowed := true, recurses := true, apart := false, narrowed := true }
def IcmpParsesUptoSaid : Prop := icmpParsesUptoRow.holds Try.pinned (OpenSpec.upto icmpParsesSpec)

/-- 'redoubtlaw07.IcmpKinds', WHERE WHAT IT READS IS OF BULK AT MOST 1048576: true; the input reads as it did. -/
def icmpKindsUptoRow : OpenClaim := { program := "ytfcccglkhdfodaa", sum := "9212dbbe1ec6f3df676d6b0549ddd3cfa1640ac7be7fd2d2c3c02a87c17d518f", func := "redoubt/redoubtlaw07.IcmpKinds", spec := "icmpKinds", unfollowed := true, recurses := true, apart := false, narrowed := true }
def IcmpKindsUptoSaid : Prop := icmpKindsUptoRow.holds Try.pinned (OpenSpec.upto icmpKindsSpec)

/-- 'redoubtlaw07.IcmpBack', WHERE WHAT IT READS IS OF BULK AT MOST 1048576: true; the input reads as it did. -/
def icmpBackUptoRow : OpenClaim := { program := "ytfcccglkhdfodaa", sum := "9212dbbe1ec6f3df676d6b0549ddd3cfa1640ac7be7fd2d2c3c02a87c17d518f", func := "redoubt/redoubtlaw07.IcmpBack", spec := "icmpBack", unfollowed := true, recurses := true, apart := false, narrowed := true }
def IcmpBackUptoSaid : Prop := icmpBackUptoRow.holds Try.pinned (OpenSpec.upto icmpBackSpec)

/-- 'redoubtlaw07.IcmpAnswers', WHERE WHAT IT READS IS OF BULK AT MOST 1048576: true; the input reads as it did. -/
def icmpAnswersUptoRow : OpenClaim := { program := "ytfcccglkhdfodaa", sum := "9212dbbe1ec6f3df676d6b0549ddd3cfa1640ac7be7fd2d2c3c02a87c17d518f", func := "redoubt/redoubtlaw07.IcmpAnswers", spec := "icmpAnswers", unfollowed := true, recurses := true, apart := false, narrowed := true }
def IcmpAnswersUptoSaid : Prop := icmpAnswersUptoRow.holds Try.pinned (OpenSpec.upto icmpAnswersSpec)

end Rows
end Go.Proofs.Ytfcccglkhdfodaa

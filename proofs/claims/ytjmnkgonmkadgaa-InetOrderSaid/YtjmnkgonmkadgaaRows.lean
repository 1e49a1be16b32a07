/-
  No cell of these rows narrows 'for every input' (looked for: loops, veiled, ifaces, maps, wideKeys, modest, calm, conditions, laid).
  DERIVED. THE GIVEN ROWS OF THIS SEAT. 6 by the template 'for every input the law returns true; each argument reads behind the call as it read before'; 0 by the template 'total and deterministic' (their statements: YtjmnkgonmkadgaaTotals.lean).
  GIVEN WITH THE SEED: the statements are not yours to turn. If you find one false, say at which input.
  Laid BY PROGRAM, IN A SANDBOX (cutbox-rows.mjs): the forced cells as the released guide's own fill.sh prints them over the translation 65b7af986819b6d1… (all of the seat's roots in one cut). By AI agents, Wed Nov 11 2026. No macro, syntax, notation, axiom, sorry.
-/
import Derived.Test.YtjmnkgonmkadgaaChecked
import GoSem.Claim
import GoSem.ClaimJoined
import GoSem.ClaimMapViews
import Derived.JoinedTies
import Derived.KernelRfl
namespace Go.Proofs.Ytjmnkgonmkadgaa
/- THE CELL 'sum', in the pinned program and in every row, IS THE sha256 OF THE DUMP (.gsa) THAT YtjmnkgonmkadgaaProg.lean LOADS. Nothing in Lean hashes anything: it is a label: what it is worth is what the hold of that sum in a sandbox is worth. -/
noncomputable def Try.pinned : Pinned := { name := "ytjmnkgonmkadgaa", sum := "65b7af986819b6d1deed9964cb1a90a634b5d6aa7310cb4272e4bbd94500bec7", checked := Try.checked }
namespace Rows
def none {H : Type} : Left H := { results := [], args := [] }

/-- 'redoubtlaw01.InetSums': WHATEVER THE INPUT: true; the input reads as it did. -/
def inetSumsSpec : ChangeSpec := { name := "inetSums", fn := fun _ => fun
  | [d1, d2, d3] => { results := [.lit (.bool true)], args := [d1, d2, d3] }
  | _ => none }
def inetSumsRow : OpenClaim := { program := "ytjmnkgonmkadgaa", sum := "65b7af986819b6d1deed9964cb1a90a634b5d6aa7310cb4272e4bbd94500bec7", func := "redoubt/redoubtlaw01.InetSums", spec := "inetSums", apart := false }
def InetSumsSaid : Prop := inetSumsRow.holds Try.pinned (OpenSpec.ofChange inetSumsSpec)

/-- ITS FALSE NEIGHBOUR: 'it returns false'. Refute it at one input. -/
def inetSumsWrong : ChangeSpec := { name := "inetSums", fn := fun _ => fun
  | [d1, d2, d3] => { results := [.lit (.bool false)], args := [d1, d2, d3] }
  | _ => none }
def InetSumsWrongFalsely : Prop := inetSumsRow.holds Try.pinned (OpenSpec.ofChange inetSumsWrong)

/-- 'redoubtlaw01.InetParts': WHATEVER THE INPUT: true; the input reads as it did. -/
def inetPartsSpec : ChangeSpec := { name := "inetParts", fn := fun _ => fun
  | [d1, d2] => { results := [.lit (.bool true)], args := [d1, d2] }
  | _ => none }
def inetPartsRow : OpenClaim := { program := "ytjmnkgonmkadgaa", sum := "65b7af986819b6d1deed9964cb1a90a634b5d6aa7310cb4272e4bbd94500bec7", func := "redoubt/redoubtlaw01.InetParts", spec := "inetParts", apart := false }
def InetPartsSaid : Prop := inetPartsRow.holds Try.pinned (OpenSpec.ofChange inetPartsSpec)

/-- ITS FALSE NEIGHBOUR: 'it returns false'. Refute it at one input. -/
def inetPartsWrong : ChangeSpec := { name := "inetParts", fn := fun _ => fun
  | [d1, d2] => { results := [.lit (.bool false)], args := [d1, d2] }
  | _ => none }
def InetPartsWrongFalsely : Prop := inetPartsRow.holds Try.pinned (OpenSpec.ofChange inetPartsWrong)

/-- 'redoubtlaw01.InetOrder': WHATEVER THE INPUT: true; the input reads as it did. -/
def inetOrderSpec : ChangeSpec := { name := "inetOrder", fn := fun _ => fun
  | [d1, d2, d3] => { results := [.lit (.bool true)], args := [d1, d2, d3] }
  | _ => none }
def inetOrderRow : OpenClaim := { program := "ytjmnkgonmkadgaa", sum := "65b7af986819b6d1deed9964cb1a90a634b5d6aa7310cb4272e4bbd94500bec7", func := "redoubt/redoubtlaw01.InetOrder", spec := "inetOrder", apart := false }
def InetOrderSaid : Prop := inetOrderRow.holds Try.pinned (OpenSpec.ofChange inetOrderSpec)

/-- ITS FALSE NEIGHBOUR: 'it returns false'. Refute it at one input. -/
def inetOrderWrong : ChangeSpec := { name := "inetOrder", fn := fun _ => fun
  | [d1, d2, d3] => { results := [.lit (.bool false)], args := [d1, d2, d3] }
  | _ => none }
def InetOrderWrongFalsely : Prop := inetOrderRow.holds Try.pinned (OpenSpec.ofChange inetOrderWrong)

/-- 'redoubtlaw01.InetWhole': WHATEVER THE INPUT: true; the input reads as it did. -/
def inetWholeSpec : ChangeSpec := { name := "inetWhole", fn := fun _ => fun
  | [d1, d2, d3] => { results := [.lit (.bool true)], args := [d1, d2, d3] }
  | _ => none }
def inetWholeRow : OpenClaim := { program := "ytjmnkgonmkadgaa", sum := "65b7af986819b6d1deed9964cb1a90a634b5d6aa7310cb4272e4bbd94500bec7", func := "redoubt/redoubtlaw01.InetWhole", spec := "inetWhole", apart := false }
def InetWholeSaid : Prop := inetWholeRow.holds Try.pinned (OpenSpec.ofChange inetWholeSpec)

/-- ITS FALSE NEIGHBOUR: 'it returns false'. Refute it at one input. -/
def inetWholeWrong : ChangeSpec := { name := "inetWhole", fn := fun _ => fun
  | [d1, d2, d3] => { results := [.lit (.bool false)], args := [d1, d2, d3] }
  | _ => none }
def InetWholeWrongFalsely : Prop := inetWholeRow.holds Try.pinned (OpenSpec.ofChange inetWholeWrong)

/-- 'redoubtlaw01.InetErrors': WHATEVER THE INPUT: true; the input reads as it did. -/
def inetErrorsSpec : ChangeSpec := { name := "inetErrors", fn := fun _ => fun
  | [d1, d2, d3, d4] => { results := [.lit (.bool true)], args := [d1, d2, d3, d4] }
  | _ => none }
def inetErrorsRow : OpenClaim := { program := "ytjmnkgonmkadgaa", sum := "65b7af986819b6d1deed9964cb1a90a634b5d6aa7310cb4272e4bbd94500bec7", func := "redoubt/redoubtlaw01.InetErrors", spec := "inetErrors", apart := false }
def InetErrorsSaid : Prop := inetErrorsRow.holds Try.pinned (OpenSpec.ofChange inetErrorsSpec)

/-- ITS FALSE NEIGHBOUR: 'it returns false'. Refute it at one input. -/
def inetErrorsWrong : ChangeSpec := { name := "inetErrors", fn := fun _ => fun
  | [d1, d2, d3, d4] => { results := [.lit (.bool false)], args := [d1, d2, d3, d4] }
  | _ => none }
def InetErrorsWrongFalsely : Prop := inetErrorsRow.holds Try.pinned (OpenSpec.ofChange inetErrorsWrong)

/-- 'redoubtlaw01.InetPseudo': WHATEVER THE INPUT: true; the input reads as it did. -/
def inetPseudoSpec : ChangeSpec := { name := "inetPseudo", fn := fun _ => fun
  | [d1, d2, d3, d4, d5] => { results := [.lit (.bool true)], args := [d1, d2, d3, d4, d5] }
  | _ => none }
def inetPseudoRow : OpenClaim := { program := "ytjmnkgonmkadgaa", sum := "65b7af986819b6d1deed9964cb1a90a634b5d6aa7310cb4272e4bbd94500bec7", func := "redoubt/redoubtlaw01.InetPseudo", spec := "inetPseudo", apart := false }
def InetPseudoSaid : Prop := inetPseudoRow.holds Try.pinned (OpenSpec.ofChange inetPseudoSpec)

/-- ITS FALSE NEIGHBOUR: 'it returns false'. Refute it at one input. -/
def inetPseudoWrong : ChangeSpec := { name := "inetPseudo", fn := fun _ => fun
  | [d1, d2, d3, d4, d5] => { results := [.lit (.bool false)], args := [d1, d2, d3, d4, d5] }
  | _ => none }
def InetPseudoWrongFalsely : Prop := inetPseudoRow.holds Try.pinned (OpenSpec.ofChange inetPseudoWrong)

/- THE SECOND FORM. 'bulk': how many values and letters a reading holds, each counted each time it is reached (what is shared counts as often as it is met; a slice's spare places count too). A statement '..UptoSaid' is the law's where the arguments, and the package variables that the reading takes, are together of bulk at most 1048576: NARROWER than '..Said'. Prove '..Said' where nothing that the law and all that it calls make is longer than what came in: it says more and counts as full. Else prove '..UptoSaid'. A law counts once. -/
mutual
def uptoBulk {H : Type} : DataW H → Nat
  | .lit (.string bytes) => bytes.length + 1
  | .lit _ => 1
  | .nil => 1
  | .ptr d => uptoBulk d + 1
  | .slice elems spare => uptoBulkAll elems + uptoBulkAll spare + 1
  | .agg parts => uptoBulkAll parts + 1
  | .iface _ d => uptoBulk d + 1
  | .map entries => uptoBulkEntries entries + 1
  | .held _ => 1
def uptoBulkAll {H : Type} : List (DataW H) → Nat
  | [] => 0
  | d :: r => uptoBulk d + uptoBulkAll r
def uptoBulkEntries {H : Type} : List (Lit × DataW H) → Nat
  | [] => 0
  | x :: r => uptoBulkEntry x + uptoBulkEntries r
def uptoBulkEntry {H : Type} : Lit × DataW H → Nat
  | (.string bytes, d) => bytes.length + uptoBulk d + 1
  | (_, d) => uptoBulk d + 1
 end
def uptoSmall : (H : Type) → List (DataW H) → Bool := fun _ ds => decide (uptoBulkAll ds ≤ 1048576)
def OpenSpec.upto (s : _root_.Go.ChangeSpec) : _root_.Go.OpenSpec := { _root_.Go.OpenSpec.ofChange s with cond := some uptoSmall }

/-- 'redoubtlaw01.InetSums', WHERE WHAT IT READS IS OF BULK AT MOST 1048576: true; the input reads as it did. -/
def inetSumsUptoRow : OpenClaim := { program := "ytjmnkgonmkadgaa", sum := "65b7af986819b6d1deed9964cb1a90a634b5d6aa7310cb4272e4bbd94500bec7", func := "redoubt/redoubtlaw01.InetSums", spec := "inetSums", apart := false, narrowed := true }
def InetSumsUptoSaid : Prop := inetSumsUptoRow.holds Try.pinned (OpenSpec.upto inetSumsSpec)

/-- 'redoubtlaw01.InetParts', WHERE WHAT IT READS IS OF BULK AT MOST 1048576: true; the input reads as it did. -/
def inetPartsUptoRow : OpenClaim := { program := "ytjmnkgonmkadgaa", sum := "65b7af986819b6d1deed9964cb1a90a634b5d6aa7310cb4272e4bbd94500bec7", func := "redoubt/redoubtlaw01.InetParts", spec := "inetParts", apart := false, narrowed := true }
def InetPartsUptoSaid : Prop := inetPartsUptoRow.holds Try.pinned (OpenSpec.upto inetPartsSpec)

/-- 'redoubtlaw01.InetOrder', WHERE WHAT IT READS IS OF BULK AT MOST 1048576: true; the input reads as it did. -/
def inetOrderUptoRow : OpenClaim := { program := "ytjmnkgonmkadgaa", sum := "65b7af986819b6d1deed9964cb1a90a634b5d6aa7310cb4272e4bbd94500bec7", func := "redoubt/redoubtlaw01.InetOrder", spec := "inetOrder", apart := false, narrowed := true }
def InetOrderUptoSaid : Prop := inetOrderUptoRow.holds Try.pinned (OpenSpec.upto inetOrderSpec)

/-- 'redoubtlaw01.InetWhole', WHERE WHAT IT READS IS OF BULK AT MOST 1048576: true; the input reads as it did. -/
def inetWholeUptoRow : OpenClaim := { program := "ytjmnkgonmkadgaa", sum := "65b7af986819b6d1deed9964cb1a90a634b5d6aa7310cb4272e4bbd94500bec7", func := "redoubt/redoubtlaw01.InetWhole", spec := "inetWhole", apart := false, narrowed := true }
def InetWholeUptoSaid : Prop := inetWholeUptoRow.holds Try.pinned (OpenSpec.upto inetWholeSpec)

/-- 'redoubtlaw01.InetErrors', WHERE WHAT IT READS IS OF BULK AT MOST 1048576: true; the input reads as it did. -/
def inetErrorsUptoRow : OpenClaim := { program := "ytjmnkgonmkadgaa", sum := "65b7af986819b6d1deed9964cb1a90a634b5d6aa7310cb4272e4bbd94500bec7", func := "redoubt/redoubtlaw01.InetErrors", spec := "inetErrors", apart := false, narrowed := true }
def InetErrorsUptoSaid : Prop := inetErrorsUptoRow.holds Try.pinned (OpenSpec.upto inetErrorsSpec)

/-- 'redoubtlaw01.InetPseudo', WHERE WHAT IT READS IS OF BULK AT MOST 1048576: true; the input reads as it did. -/
def inetPseudoUptoRow : OpenClaim := { program := "ytjmnkgonmkadgaa", sum := "65b7af986819b6d1deed9964cb1a90a634b5d6aa7310cb4272e4bbd94500bec7", func := "redoubt/redoubtlaw01.InetPseudo", spec := "inetPseudo", apart := false, narrowed := true }
def InetPseudoUptoSaid : Prop := inetPseudoUptoRow.holds Try.pinned (OpenSpec.upto inetPseudoSpec)

end Rows
end Go.Proofs.Ytjmnkgonmkadgaa

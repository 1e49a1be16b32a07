/- What the rows over structs by value share. Conditions: those that each lemma states. -/
import Derived.Test.YtljdkfgnoalgpaaRowB
import Derived.Lib.SmallJoins
namespace Go.Proofs.Ytljdkfgnoalgpaa
open Go.ChangeShapes Go.WideShapes Go.ChangeAt Go.RowKit
/-- What is within reach in a struct is so in its fields. -/
theorem sized_agg {H : Type} {P : Program} {ts : List TypeId} {ds parts : List (DataW H)} {fs : Array Field} (h : (DataW.weightsEach P ts ds).all (· ≤ reachBytes) = true) {j : Nat} {t : TypeId} (ht : ts[j]? = some t) (hd : ds[j]? = some (.agg parts)) (hu : P.underlying t = some (.struct fs)) :
    (DataW.weightsEach P (fs.toList.map (·.type)) parts).all (· ≤ reachBytes) = true := by
  rw [List.all_eq_true] at h ⊢
  intro n hn
  exact h n (DataW.weights_mem_each ht hd n (by simpa [DataW.weights, hu] using hn))
/-- A slice of whole numbers in a field. -/
theorem row_of_field {H : Type} {enc : TypeId × Value → H} {P : Program} {w : World} {base fuel : Nat} {held : Bool} {t e : TypeId} {k : IntKind} {v : Value} {y : DataW H × List MemPlace}
    (hu : P.underlying t = some (.slice e)) (he : P.underlying e = some (.int k)) (hc : P.cellsOf e = 1) (h : DataW.trod enc P w base (fun _ => true) held fuel t [v] = some y) :
    ∃ a len cap zs, v = .slice a len cap ∧ IsRow k w a len cap zs ∧ DataW.Trod enc P w base (fun _ => true) held t (.slice a len cap) y.1 y.2 := by
  rcases open_ints hu he hc h with ⟨hcs, _⟩ | ⟨x, l, c, zs, hcs, _, hl, hm, hz, _, hcell, hwz⟩
  · injection hcs with hcs
    subst hcs
    exact ⟨none, 0, 0, [], rfl, .inl ⟨rfl, rfl, rfl, rfl⟩, fuel, h⟩
  · injection hcs with hcs
    subst hcs
    exact ⟨_, _, _, zs, rfl, .inr ⟨_, rfl, hl, hm, by simpa using hz, hcell, hwz⟩, fuel, h⟩
end Go.Proofs.Ytljdkfgnoalgpaa

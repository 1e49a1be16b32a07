/- A slice of int that is read. Conditions: those that each lemma states. -/
import Derived.Test.YtaooibcihjkhfaaDoorBase
namespace Go.Proofs.YtaooibcihjkhfaaDoor
open Go.RowKit Go.Proofs.YtaooibcihjkhfaaDoorW.PrintWords

structure Its (w : World) (A : Option Addr) (n c : Nat) (xs : List Int) : Prop where
  rd : ReadsInt w .i64 A n xs
  le : n ≤ c
  cap : c ≤ 9223372036854775807
  max : n ≤ 17592186044416
  rng : ∀ x ∈ xs, I64 x
section
variable {w w1 : World} {A : Option Addr} {n c : Nat} {xs : List Int}
theorem Its.len (h : Its w A n c xs) : xs.length = n := h.rd.1
theorem Its.below (h : Its w A n c xs) (hb : Below w.heap.size w w1) : Its w1 A n c xs := ⟨h.rd.below hb, h.le, h.cap, h.max, h.rng⟩
theorem Its.at_ (h : Its w A n c xs) (i : Nat) (hi : i < n) : ∃ ad, A = some ad ∧ w.cell? (ad.add i) = some (.int .i64 (xs.getD i 0)) := by
  obtain ⟨ad, e, hc⟩ := h.rd.2.2 (by omega)
  exact ⟨ad, e, hc i hi⟩
theorem Its.get (h : Its w A n c xs) (i : Nat) (hi : i < n) : I64 (xs.getD i 0) := by
  have hi : i < xs.length := by rw [h.len]; exact hi
  rw [List.getD_eq_getElem?_getD, List.getElem?_eq_getElem hi]
  exact h.rng _ (List.getElem_mem hi)
end
theorem Its.of_row {w : World} {a : Option Addr} {len cap : Nat} {zs : List Int} (h : (a = none ∧ len = 0 ∧ cap = 0 ∧ zs = []) ∨
  ∃ x, a = some x ∧ len ≤ cap ∧ cap ≤ maxLen ∧ zs.length = cap ∧ (∀ i, i < zs.length → w.cell? (x.add i) = some (.int .i64 (zs.getD i 0))) ∧ ∀ n ∈ zs, (Lit.int .i64 n).wf = true) (y : len * 8 ≤ 140737488351232) : Its w a len cap (zs.take len) := by
  rcases h with ⟨rfl, rfl, rfl, rfl⟩ | ⟨x, rfl, hl, hm, hz, hc, hw⟩
  · exact ⟨⟨rfl, by omega, fun h => absurd h (Nat.lt_irrefl 0)⟩, Nat.zero_le _, by omega, Nat.zero_le _, fun x hx => by simp at hx⟩
  · unfold maxLen at hm
    refine ⟨⟨by rw [List.length_take]; omega, by omega, fun _ => ⟨x, rfl, fun j hj => ?_⟩⟩, hl, by omega, by omega, fun n hn => ?_⟩
    · rw [hc j (by omega)]
      simp [List.getD_eq_getElem?_getD, hj]
    · have := hw n (List.mem_of_mem_take hn)
      simp only [Lit.wf, Bool.and_eq_true, decide_eq_true_eq] at this
      exact this
end Go.Proofs.YtaooibcihjkhfaaDoor

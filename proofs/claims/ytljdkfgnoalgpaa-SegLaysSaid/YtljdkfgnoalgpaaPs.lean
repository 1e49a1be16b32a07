/- Sums of what stands ahead and of bytes, for any protocol. Conditions: those that each lemma states. -/
import Derived.Test.YtljdkfgnoalgpaaInet
namespace Go.Proofs.Ytljdkfgnoalgpaa

/-- Two addresses of one version. -/
def pairOk (a b : Nat) : Prop := a = b ∧ (a = 4 ∨ a = 16)
instance (a b : Nat) : Decidable (pairOk a b) := by unfold pairOk; infer_instance
theorem psOk_zero (a b : Nat) : psOk a b 0 0 ↔ pairOk a b := by unfold psOk pairOk; omega
theorem psOk_of {a b : Nat} (h : pairOk a b) (p : Int) (n : Int) (h0 : 0 ≤ p) (hp : p ≤ 255) (hn : 0 ≤ n ∧ n ≤ 65535) : psOk a b p n := by unfold psOk; unfold pairOk at h; omega
theorem canon_full (t : Int) : canon t = 65535 ↔ 0 < t ∧ t % 65535 = 0 := by unfold canon; split <;> omega
theorem tot_set : ∀ (l : List Int) (i : Nat) (c : Int), i < l.length → tot (l.set i c) = tot l + (if i % 2 = 0 then 256 else 1) * (c - l.getD i 0)
  | [], _, _, h => by simp at h
  | [x], i, c, h => by
    obtain rfl : i = 0 := by simp at h; omega
    simp [tot]; omega
  | x :: y :: r, 0, c, _ => by simp [tot]; omega
  | x :: y :: r, 1, c, _ => by simp [tot]; omega
  | x :: y :: r, i + 2, c, h => by
    have := tot_set r i c (by simp at h; omega)
    simp only [List.set_cons_succ, tot, this, List.getD_cons_succ, Nat.add_mod_right]
    omega
theorem psTot_comm (s d : List Int) (p n : Int) (h : s.length = d.length) : psTot s d p n = psTot d s p n := by unfold psTot; rw [h]; omega
/-- The sum of what stands ahead, and of bytes. -/
def psSum (p : Int) (b s d : List Int) : Int := addm (canon (psTot s d p b.length)) (sumL b)
theorem psSum_bd (p : Int) (b s d : List Int) : 0 ≤ psSum p b s d ∧ psSum p b s d ≤ 65535 := addm_bd _ _
theorem psSum_canon (p : Int) (b s d : List Int) (hp : 1 ≤ p) (hb : Byt b) (hs : Byt s) (hd : Byt d) (hn : b.length ≤ 65535) : psSum p b s d = canon (psTot s d p b.length + tot b) ∧ 0 < psTot s d p b.length := by
  have h1 := tot_nonneg s hs
  have h2 := tot_nonneg d hd
  have h3 : 0 < tot (psTail s.length p b.length) := by
    unfold psTail
    split <;> simp only [tot] <;> omega
  have h4 : 0 < psTot s d p b.length := by unfold psTot; omega
  refine ⟨?_, h4⟩
  unfold psSum sumL
  exact canon_add _ _ (by omega) (tot_nonneg b hb)
theorem psSum_comm (p : Int) (b s d : List Int) (h : s.length = d.length) : psSum p b s d = psSum p b d s := by unfold psSum; rw [psTot_comm s d _ _ h]
/-- A check: what is added to a sum that makes it full. -/
theorem check_full (T : Int) (hT : 0 < T) : canon (T + (65535 - canon T)) = 65535 := by
  have ht : canon T = (T - 1) % 65535 + 1 := by unfold canon; rw [if_neg (by omega)]
  rw [canon_full, ht]
  omega
theorem check_inv (T c : Int) (hT : 0 < T) (h0 : 0 ≤ c) (h1 : c ≤ 65535) (h : canon (T + c) = 65535) : c = 65535 - canon T ∨ (c = 65535 ∧ 65535 - canon T = 0) := by
  have ht : canon T = (T - 1) % 65535 + 1 := by unfold canon; rw [if_neg (by omega)]
  rw [canon_full] at h
  rw [ht]
  omega
end Go.Proofs.Ytljdkfgnoalgpaa

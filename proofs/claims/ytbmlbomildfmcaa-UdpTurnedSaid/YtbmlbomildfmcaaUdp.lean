/- Datagrams between ports as plain lists: their sum, their bytes, what is read. Conditions: those that each lemma states. -/
import Derived.Test.YtbmlbomildfmcaaInet
namespace Go.Proofs.Ytbmlbomildfmcaa

/-- Two addresses of one version. -/
def pairOk (a b : Nat) : Prop := a = b ∧ (a = 4 ∨ a = 16)
instance (a b : Nat) : Decidable (pairOk a b) := by unfold pairOk; infer_instance
theorem psOk_zero (a b : Nat) : psOk a b 0 0 ↔ pairOk a b := by unfold psOk pairOk; omega
theorem psOk_of {a b : Nat} (h : pairOk a b) (p : Int) (n : Nat) (h0 : 0 ≤ p) (hp : p ≤ 255) (hn : n ≤ 65535) : psOk a b p n := by unfold psOk; unfold pairOk at h; omega
/-- The sum of what stands ahead, and of bytes. -/
def dgSum (b s d : List Int) : Int := addm (canon (psTot s d 17 b.length)) (sumL b)
/-- The bytes of a datagram but for its check. -/
def dgFront (x y : Int) (xs : List Int) : List Int := [x / 256, x % 256, y / 256, y % 256, (8 + xs.length : Nat) / 256, (8 + xs.length : Nat) % 256]
def dgCheck (x y : Int) (xs s d : List Int) : Int :=
  if 65535 - dgSum (dgFront x y xs ++ [0, 0] ++ xs) s d = 0 then 65535 else 65535 - dgSum (dgFront x y xs ++ [0, 0] ++ xs) s d
def dgBytes (x y : Int) (xs s d : List Int) : List Int := dgFront x y xs ++ [dgCheck x y xs s d / 256, dgCheck x y xs s d % 256] ++ xs
/-- Which error. -/
def dgLayErr (x y : Int) (n : Nat) (a b : Nat) : Int := if ¬ (0 ≤ x ∧ x ≤ 65535 ∧ 0 ≤ y ∧ y ≤ 65535 ∧ pairOk a b) then 1 else if 65535 < 8 + n then 2 else 0
def dgLen (b : List Int) : Int := 256 * b.getD 4 0 + b.getD 5 0
def dgNone (b : List Int) : Prop := b.getD 6 0 = 0 ∧ b.getD 7 0 = 0
instance (b : List Int) : Decidable (dgNone b) := by unfold dgNone; infer_instance
def dgErr (b s d : List Int) : Int :=
  if ¬ pairOk s.length d.length then 1 else if b.length < 8 then 8 else if (b.length : Int) < dgLen b then 8 else if dgLen b < 8 ∨ dgLen b < b.length then 4
  else if (dgNone b ∧ s.length = 16) ∨ (¬ dgNone b ∧ dgSum b s d ≠ 65535) then 5 else 0
def dgSix (b : List Int) : Int := 256 * b.getD 6 0 + b.getD 7 0
def dgSrc (b : List Int) : Int := 256 * b.getD 0 0 + b.getD 1 0
def dgDst (b : List Int) : Int := 256 * b.getD 2 0 + b.getD 3 0
theorem dgSix_none (b : List Int) (h : Byt b) : dgSix b = 0 ↔ dgNone b := by
  have h6 := byt_get h 6
  have h7 := byt_get h 7
  unfold dgSix dgNone
  omega
theorem dgLen_bd (b : List Int) (h : Byt b) : 0 ≤ dgLen b ∧ dgLen b ≤ 65535 := by
  have h6 := byt_get h 4
  have h7 := byt_get h 5
  unfold dgLen
  omega
theorem dgErr_pair (b s d : List Int) (h : ¬ pairOk s.length d.length) : dgErr b s d = 1 := by unfold dgErr; rw [if_pos h]
theorem dgErr_short (b s d : List Int) (h : pairOk s.length d.length) (h8 : b.length < 8) : dgErr b s d = 8 := by unfold dgErr; rw [if_neg (fun q => q h), if_pos h8]
theorem dgErr_more (b s d : List Int) (h : pairOk s.length d.length) (h8 : ¬ b.length < 8) (hl : (b.length : Int) < dgLen b) : dgErr b s d = 8 := by
  unfold dgErr; rw [if_neg (fun q => q h), if_neg h8, if_pos hl]
theorem dgErr_form (b s d : List Int) (h : pairOk s.length d.length) (h8 : ¬ b.length < 8) (hl : ¬ (b.length : Int) < dgLen b) (hf : dgLen b < 8 ∨ dgLen b < b.length) : dgErr b s d = 4 := by
  unfold dgErr; rw [if_neg (fun q => q h), if_neg h8, if_neg hl, if_pos hf]
theorem dgErr_sum (b s d : List Int) (h : pairOk s.length d.length) (h8 : ¬ b.length < 8) (hl : dgLen b = b.length) (hf : (dgNone b ∧ s.length = 16) ∨ (¬ dgNone b ∧ dgSum b s d ≠ 65535)) : dgErr b s d = 5 := by
  unfold dgErr; rw [if_neg (fun q => q h), if_neg h8, if_neg (by omega), if_neg (by omega), if_pos hf]
theorem dgErr_ok (b s d : List Int) (h : pairOk s.length d.length) (h8 : ¬ b.length < 8) (hl : dgLen b = b.length) (hf : ¬ ((dgNone b ∧ s.length = 16) ∨ (¬ dgNone b ∧ dgSum b s d ≠ 65535))) : dgErr b s d = 0 := by
  unfold dgErr; rw [if_neg (fun q => q h), if_neg h8, if_neg (by omega), if_neg (by omega), if_neg hf]
theorem dgSum_bd (b s d : List Int) : 0 ≤ dgSum b s d ∧ dgSum b s d ≤ 65535 := addm_bd _ _
theorem dgCheck_bd (x y : Int) (xs s d : List Int) : 1 ≤ dgCheck x y xs s d ∧ dgCheck x y xs s d ≤ 65535 := by
  have := dgSum_bd (dgFront x y xs ++ [0, 0] ++ xs) s d
  unfold dgCheck
  split <;> omega
theorem dgFront_byt (x y : Int) (xs : List Int) (hx : 0 ≤ x ∧ x ≤ 65535) (hy : 0 ≤ y ∧ y ≤ 65535) (hn : 8 + xs.length ≤ 65535) : Byt (dgFront x y xs) := by
  unfold dgFront
  simp only [byt_cons]
  refine ⟨?_, ?_, ?_, ?_, ?_, ?_, byt_nil⟩ <;> omega
theorem dgBytes_byt (x y : Int) (xs s d : List Int) (hx : 0 ≤ x ∧ x ≤ 65535) (hy : 0 ≤ y ∧ y ≤ 65535) (hn : 8 + xs.length ≤ 65535) (hb : Byt xs) : Byt (dgBytes x y xs s d) := by
  have := dgCheck_bd x y xs s d
  unfold dgBytes
  refine byt_append.2 ⟨byt_append.2 ⟨dgFront_byt x y xs hx hy hn, ?_⟩, hb⟩
  simp only [byt_cons]
  exact ⟨by omega, by omega, byt_nil⟩
end Go.Proofs.Ytbmlbomildfmcaa

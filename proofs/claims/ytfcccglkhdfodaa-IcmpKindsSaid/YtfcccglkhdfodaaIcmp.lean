/- Messages as plain lists: their check, their bytes, what is read; kinds. Conditions: those that each lemma states. -/
import Derived.Test.YtfcccglkhdfodaaPs
namespace Go.Proofs.Ytfcccglkhdfodaa

/-- The sum of a message's bytes. -/
def icSum (b s d : List Int) : Int := if s.length = 16 then psSum 58 b s d else sumL b
def icFour (r : Int) : List Int := [r / 16777216, r / 65536 % 256, r / 256 % 256, r % 256]
def icZero (t c r : Int) (xs : List Int) : List Int := [t, c, 0, 0] ++ (icFour r ++ xs)
def icCheck (t c r : Int) (xs s d : List Int) : Int := 65535 - icSum (icZero t c r xs) s d
def icBytes (t c r : Int) (xs s d : List Int) : List Int := [t, c, icCheck t c r xs s d / 256, icCheck t c r xs s d % 256] ++ (icFour r ++ xs)
def icOk (t c r : Int) : Prop := 0 ≤ t ∧ t ≤ 255 ∧ 0 ≤ c ∧ c ≤ 255 ∧ 0 ≤ r ∧ r ≤ 4294967295
instance (t c r : Int) : Decidable (icOk t c r) := by unfold icOk; infer_instance
def icLayErr (t c r : Int) (n a b : Nat) : Int := if ¬ (icOk t c r ∧ pairOk a b) then 1 else if 65535 < 8 + n then 2 else 0
def icErr (b s d : List Int) : Int :=
  if ¬ pairOk s.length d.length then 1 else if b.length < 8 then 8 else if 65535 < b.length then 2 else if icSum b s d ≠ 65535 then 5 else 0
def icRest (b : List Int) : Int := 16777216 * b.getD 4 0 + 65536 * b.getD 5 0 + 256 * b.getD 6 0 + b.getD 7 0
theorem icSum_bd (b s d : List Int) : 0 ≤ icSum b s d ∧ icSum b s d ≤ 65535 := by
  unfold icSum
  split
  · exact psSum_bd _ _ _ _
  · exact sumL_bd _
theorem icCheck_bd (t c r : Int) (xs s d : List Int) : 0 ≤ icCheck t c r xs s d ∧ icCheck t c r xs s d ≤ 65535 := by
  have := icSum_bd (icZero t c r xs) s d
  unfold icCheck; omega
theorem icFour_byt {r : Int} (h : 0 ≤ r ∧ r ≤ 4294967295) : Byt (icFour r) := by
  unfold icFour
  simp only [byt_cons]
  exact ⟨by omega, by omega, by omega, by omega, byt_nil⟩
theorem icZero_byt {t c r : Int} {xs : List Int} (h : icOk t c r) (hb : Byt xs) : Byt (icZero t c r xs) := by
  unfold icOk at h
  unfold icZero
  refine byt_append.2 ⟨?_, byt_append.2 ⟨icFour_byt ⟨h.2.2.2.2.1, h.2.2.2.2.2⟩, hb⟩⟩
  simp only [byt_cons]
  exact ⟨by omega, by omega, by omega, by omega, byt_nil⟩
theorem icBytes_byt {t c r : Int} {xs : List Int} (s d : List Int) (h : icOk t c r) (hb : Byt xs) : Byt (icBytes t c r xs s d) := by
  have := icCheck_bd t c r xs s d
  unfold icOk at h
  unfold icBytes
  refine byt_append.2 ⟨?_, byt_append.2 ⟨icFour_byt ⟨h.2.2.2.2.1, h.2.2.2.2.2⟩, hb⟩⟩
  simp only [byt_cons]
  exact ⟨by omega, by omega, by omega, by omega, byt_nil⟩
theorem icLayErr_zero {t c r : Int} {n a b : Nat} : icLayErr t c r n a b = 0 ↔ icOk t c r ∧ pairOk a b ∧ 8 + n ≤ 65535 := by
  unfold icLayErr
  constructor
  · intro h
    split at h
    · omega
    next q =>
    split at h
    · omega
    next q2 =>
    have q' := Decidable.not_not.1 q
    exact ⟨q'.1, q'.2, by omega⟩
  · rintro ⟨h1, h2, h3⟩
    rw [if_neg (fun q => q ⟨h1, h2⟩), if_neg (by omega)]
theorem icErr_pair (b s d : List Int) (h : ¬ pairOk s.length d.length) : icErr b s d = 1 := by unfold icErr; rw [if_pos h]
theorem icErr_short (b s d : List Int) (h : pairOk s.length d.length) (h8 : b.length < 8) : icErr b s d = 8 := by unfold icErr; rw [if_neg (fun q => q h), if_pos h8]
theorem icErr_long (b s d : List Int) (h : pairOk s.length d.length) (h8 : ¬ b.length < 8) (hl : 65535 < b.length) : icErr b s d = 2 := by unfold icErr; rw [if_neg (fun q => q h), if_neg h8, if_pos hl]
theorem icErr_sum (b s d : List Int) (h : pairOk s.length d.length) (h8 : ¬ b.length < 8) (hl : ¬ 65535 < b.length) (hs : icSum b s d ≠ 65535) : icErr b s d = 5 := by unfold icErr; rw [if_neg (fun q => q h), if_neg h8, if_neg hl, if_pos hs]
theorem icErr_ok (b s d : List Int) (h : pairOk s.length d.length) (h8 : ¬ b.length < 8) (hl : ¬ 65535 < b.length) (hs : icSum b s d = 65535) : icErr b s d = 0 := by unfold icErr; rw [if_neg (fun q => q h), if_neg h8, if_neg hl, if_neg (fun q => q hs)]
theorem icErr_zero {b s d : List Int} (h : icErr b s d = 0) : pairOk s.length d.length ∧ 8 ≤ b.length ∧ b.length ≤ 65535 ∧ icSum b s d = 65535 := by
  unfold icErr at h
  split at h
  · omega
  next h1 =>
  split at h
  · omega
  next h2 =>
  split at h
  · omega
  next h3 =>
  split at h
  · omega
  next h4 => exact ⟨Decidable.not_not.1 h1, by omega, by omega, Decidable.not_not.1 h4⟩
theorem icBytes_length (t c r : Int) (xs s d : List Int) : (icBytes t c r xs s d).length = 8 + xs.length := by simp [icBytes, icFour]; omega
theorem icZero_length (t c r : Int) (xs : List Int) : (icZero t c r xs).length = 8 + xs.length := by simp [icZero, icFour]; omega
theorem icBytes_get (t c r : Int) (xs s d : List Int) : (icBytes t c r xs s d).getD 0 0 = t ∧ (icBytes t c r xs s d).getD 1 0 = c ∧ icRest (icBytes t c r xs s d) = r ∧ (icBytes t c r xs s d).drop 8 = xs := by
  refine ⟨rfl, rfl, ?_, rfl⟩
  show 16777216 * (r / 16777216) + 65536 * (r / 65536 % 256) + 256 * (r / 256 % 256) + r % 256 = r
  omega
theorem tot_icBytes (t c r : Int) (xs s d : List Int) : tot (icBytes t c r xs s d) = tot (icZero t c r xs) + icCheck t c r xs s d := by
  simp only [icBytes, icZero, icFour, List.cons_append, List.nil_append, tot]
  omega
/-- What is laid down has a full sum. -/
theorem icBytes_sum (t c r : Int) (xs s d : List Int) (h : icOk t c r) (hb : Byt xs) (hs : Byt s) (hd : Byt d) (hn : 8 + xs.length ≤ 65535) (hT : s.length = 16 ∨ 0 < tot (icZero t c r xs)) : icSum (icBytes t c r xs s d) s d = 65535 := by
  have hz := icZero_byt h hb
  have t0 := tot_nonneg _ hz
  have hl := icBytes_length t c r xs s d
  have hl0 := icZero_length t c r xs
  by_cases q : s.length = 16
  · have e1 : icCheck t c r xs s d = 65535 - canon (psTot s d 58 (8 + xs.length : Nat) + tot (icZero t c r xs)) := by
      unfold icCheck icSum
      rw [if_pos q, (psSum_canon 58 _ s d (by omega) hz hs hd (by omega)).1, hl0]
    have p0 := (psSum_canon 58 (icZero t c r xs) s d (by omega) hz hs hd (by omega)).2
    rw [hl0] at p0
    unfold icSum
    rw [if_pos q, (psSum_canon 58 _ s d (by omega) (icBytes_byt s d h hb) hs hd (by omega)).1, hl, tot_icBytes, e1, ← Int.add_assoc]
    exact check_full _ (by omega)
  · have e1 : icCheck t c r xs s d = 65535 - canon (tot (icZero t c r xs)) := by
      unfold icCheck icSum sumL
      rw [if_neg q]
    unfold icSum sumL
    rw [if_neg q, tot_icBytes, e1]
    exact check_full _ (hT.resolve_left q)
/-- .. but for a message that is all 0, whose sum is full by its check. -/
theorem icBytes_full (t c r : Int) (xs s d : List Int) (h : icOk t c r) (hb : Byt xs) (hs : Byt s) (hd : Byt d) (hn : 8 + xs.length ≤ 65535) : icSum (icBytes t c r xs s d) s d = 65535 := by
  by_cases hT : s.length = 16 ∨ 0 < tot (icZero t c r xs)
  · exact icBytes_sum t c r xs s d h hb hs hd hn hT
  · have t0 := tot_nonneg _ (icZero_byt h hb)
    have q : ¬ s.length = 16 := fun e => hT (.inl e)
    have z : tot (icZero t c r xs) = 0 := by have : ¬ 0 < tot (icZero t c r xs) := fun e => hT (.inr e); omega
    have e1 : icCheck t c r xs s d = 65535 := by
      unfold icCheck icSum sumL
      rw [if_neg q, z]
      rfl
    unfold icSum sumL
    rw [if_neg q, tot_icBytes, e1, z]
    rfl
theorem icBytes_err (t c r : Int) (xs s d : List Int) (h : icOk t c r) (hb : Byt xs) (hs : Byt s) (hd : Byt d) (hn : 8 + xs.length ≤ 65535) (hp : pairOk s.length d.length) : icErr (icBytes t c r xs s d) s d = 0 := by
  have hl := icBytes_length t c r xs s d
  exact icErr_ok _ _ _ hp (by omega) (by omega) (icBytes_full t c r xs s d h hb hs hd hn)
theorem icRest_bd {b : List Int} (h : Byt b) : 0 ≤ icRest b ∧ icRest b ≤ 4294967295 := by
  have b4 := byt_get h 4
  have b5 := byt_get h 5
  have b6 := byt_get h 6
  have b7 := byt_get h 7
  unfold icRest; omega
/-- Kinds. -/
def icKind (t c : Int) (wide : Bool) : Int :=
  if wide then (if t = 128 ∧ c = 0 then 1 else if t = 129 ∧ c = 0 then 2 else if t = 1 then 3 else if t = 2 then 4 else if t = 3 then 5 else if t = 4 then 6 else 0)
  else (if t = 8 ∧ c = 0 then 1 else if t = 0 ∧ c = 0 then 2 else if t = 3 ∧ c = 4 then 4 else if t = 3 then 3 else if t = 11 then 5 else if t = 12 then 6 else 0)
def icType (k : Int) (wide : Bool) : Int := if wide then (if k = 1 then 128 else if k = 2 then 129 else k - 2) else (if k = 1 then 8 else if k = 2 then 0 else if k = 3 then 3 else if k = 4 then 3 else if k = 5 then 11 else 12)
def icCode (k : Int) (wide : Bool) : Int := if wide then 0 else (if k = 4 then 4 else if k = 3 then 1 else 0)
def icMakeErr (k r : Int) : Int := if 1 ≤ k ∧ k ≤ 6 ∧ 0 ≤ r ∧ r ≤ 4294967295 then 0 else 1
theorem icMake_kind (k : Int) (wide : Bool) (h1 : 1 ≤ k) (h2 : k ≤ 6) : icKind (icType k wide) (icCode k wide) wide = k := by
  obtain rfl | rfl | rfl | rfl | rfl | rfl : k = 1 ∨ k = 2 ∨ k = 3 ∨ k = 4 ∨ k = 5 ∨ k = 6 := by omega
  all_goals cases wide <;> decide
theorem icMake_ok (k r : Int) (wide : Bool) (h1 : 1 ≤ k) (h2 : k ≤ 6) (h3 : 0 ≤ r) (h4 : r ≤ 4294967295) : icOk (icType k wide) (icCode k wide) r := by
  unfold icOk
  obtain rfl | rfl | rfl | rfl | rfl | rfl : k = 1 ∨ k = 2 ∨ k = 3 ∨ k = 4 ∨ k = 5 ∨ k = 6 := by omega
  all_goals cases wide <;> simp [icType, icCode] <;> omega
theorem icKind_bd (t c : Int) (wide : Bool) : 0 ≤ icKind t c wide ∧ icKind t c wide ≤ 6 := by
  unfold icKind
  repeat' split
  all_goals omega
theorem icMakeErr_zero {k r : Int} : icMakeErr k r = 0 ↔ 1 ≤ k ∧ k ≤ 6 ∧ 0 ≤ r ∧ r ≤ 4294967295 := by
  unfold icMakeErr
  split <;> simp_all
end Go.Proofs.Ytfcccglkhdfodaa

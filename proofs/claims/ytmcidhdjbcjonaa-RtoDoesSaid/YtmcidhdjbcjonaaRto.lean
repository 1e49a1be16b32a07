/- The retransmission timer as plain arithmetic: its state, a sample, a backoff, its value. Conditions: those that each lemma states. -/
import Derived.WalkKit
namespace Go.Proofs.Ytmcidhdjbcjonaa

/-- Eight times the smoothed time, four times the variation, whether there was a sample, how often it was backed off. -/
structure St where
  s : Int
  v : Int
  k : Bool
  b : Nat
def St.new : St := ⟨0, 0, false, 0⟩
def ab (d : Int) : Int := if d < 0 then 0 - d else d
def St.sample (t : St) (n : Int) : St := if t.k = true then ⟨t.s + (n - t.s / 8), t.v + ab (n - t.s / 8) - t.v / 4, true, 0⟩ else ⟨8 * n, 2 * n, true, 0⟩
def St.back (t : St) : St := ⟨t.s, t.v, t.k, t.b + 1⟩
def clamp (x : Int) : Int := if x < 100 then 100 else if 6000 < x then 6000 else x
def St.once (t : St) : Int := if t.k = true then clamp (t.s / 8 + (if t.v < 1 then 1 else t.v)) else 100
def dbl (x : Int) : Int := if 6000 < 2 * x then 6000 else 2 * x
def dbls : Nat → Int → Int
  | 0, x => x
  | n + 1, x => dbl (dbls n x)
def St.value (t : St) : Int := dbls t.b t.once
/-- What may happen to a state. -/
def St.ok (t : St) : Prop := 0 ≤ t.s ∧ t.s ≤ 8000000 ∧ 0 ≤ t.v ∧ t.v ≤ 4000003

theorem St.ok_new : St.new.ok := by simp [St.ok, St.new]
theorem St.ok_back {t : St} (h : t.ok) : t.back.ok := h
theorem St.ok_sample {t : St} (h : t.ok) (n : Int) (h0 : 0 ≤ n) (h1 : n ≤ 1000000) : (t.sample n).ok := by
  unfold St.ok at *
  obtain ⟨a, b, c, d⟩ := h
  unfold St.sample
  split
  · unfold ab
    simp only
    split <;> refine ⟨?_, ?_, ?_, ?_⟩ <;> omega
  · simp only
    refine ⟨?_, ?_, ?_, ?_⟩ <;> omega
theorem clamp_bd (x : Int) : 100 ≤ clamp x ∧ clamp x ≤ 6000 := by unfold clamp; split <;> (try split) <;> omega
theorem St.once_bd (t : St) : 100 ≤ t.once ∧ t.once ≤ 6000 := by
  unfold St.once
  split
  · exact clamp_bd _
  · omega
theorem dbl_bd (x : Int) (h : 100 ≤ x ∧ x ≤ 6000) : 100 ≤ dbl x ∧ dbl x ≤ 6000 := by unfold dbl; split <;> omega
theorem dbls_bd (n : Nat) (x : Int) (h : 100 ≤ x ∧ x ≤ 6000) : 100 ≤ dbls n x ∧ dbls n x ≤ 6000 := by
  induction n with
  | zero => exact h
  | succ n ih => exact dbl_bd _ ih
theorem St.value_bd (t : St) : 100 ≤ t.value ∧ t.value ≤ 6000 := dbls_bd _ _ t.once_bd
/-- At the greatest it stays. -/
theorem dbls_top (n : Nat) (x : Int) (h : dbls n x = 6000) : ∀ m, n ≤ m → dbls m x = 6000 := by
  intro m hm
  induction m with
  | zero => obtain rfl : n = 0 := by omega
            exact h
  | succ m ih =>
    by_cases e : n = m + 1
    · rw [← e]; exact h
    · have := ih (by omega)
      simp only [dbls, this]
      rfl
theorem St.value_back (t : St) : t.back.value = dbl t.value := rfl
/-- What a list of samples, and of backoffs (below 0), makes. -/
def St.run (l : List Int) : St := l.foldl (fun t n => if n < 0 then t.back else t.sample n) St.new
theorem St.run_snoc (l : List Int) (n : Int) : St.run (l ++ [n]) = if n < 0 then (St.run l).back else (St.run l).sample n := by
  simp [St.run, List.foldl_append]
theorem St.run_take (l : List Int) (k : Nat) (h : k < l.length) : St.run (l.take (k + 1)) = if l.getD k 0 < 0 then (St.run (l.take k)).back else (St.run (l.take k)).sample (l.getD k 0) := by
  rw [List.take_succ_eq_append_getElem h, St.run_snoc]
  have e : l.getD k 0 = l[k] := by simp [List.getD_eq_getElem?_getD, h]
  rw [e]
end Go.Proofs.Ytmcidhdjbcjonaa

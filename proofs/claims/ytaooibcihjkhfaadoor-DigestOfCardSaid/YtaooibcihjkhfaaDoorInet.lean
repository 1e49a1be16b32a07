/- The Internet checksum as plain arithmetic: sums of words are numbers by what is left of them by 65535. Conditions: those that each lemma states. -/
import Derived.WalkKit
namespace Go.Proofs.YtaooibcihjkhfaaDoor

/-- A number as a one's complement word: 0 of 0, else 1 to 65535. -/
def canon (t : Int) : Int := if t ≤ 0 then 0 else (t - 1) % 65535 + 1
/-- The sum of two words. -/
def addm (a b : Int) : Int := if 65535 < a % 65536 + b % 65536 then a % 65536 + b % 65536 - 65535 else a % 65536 + b % 65536
/-- The plain sum of the words of bytes. -/
def tot : List Int → Int
  | [] => 0
  | [x] => 256 * x
  | x :: y :: r => 256 * x + y + tot r
/-- The Internet sum of bytes. -/
def sumL (l : List Int) : Int := canon (tot l)
/-- All are bytes. -/
def Byt (l : List Int) : Prop := ∀ x ∈ l, 0 ≤ x ∧ x ≤ 255

instance (l : List Int) : Decidable (Byt l) := inferInstanceAs (Decidable (∀ x ∈ l, 0 ≤ x ∧ x ≤ 255))
theorem gd_lt (l : List Int) (i : Nat) (h : i < l.length) : l.getD i 0 = l[i] := by simp [List.getD_eq_getElem?_getD, h]
theorem gd_ge (l : List Int) (i : Nat) (h : l.length ≤ i) : l.getD i 0 = 0 := by simp [List.getD_eq_getElem?_getD, h]
theorem byt_nil : Byt [] := fun _ h => by cases h
theorem byt_cons {x : Int} {l : List Int} : Byt (x :: l) ↔ (0 ≤ x ∧ x ≤ 255) ∧ Byt l := by
  simp [Byt]
theorem byt_append {l r : List Int} : Byt (l ++ r) ↔ Byt l ∧ Byt r := by
  simp only [Byt, List.mem_append]
  exact ⟨fun h => ⟨fun x hx => h x (.inl hx), fun x hx => h x (.inr hx)⟩, fun h x hx => hx.elim (h.1 x) (h.2 x)⟩
theorem byt_take {l : List Int} (h : Byt l) (n : Nat) : Byt (l.take n) := fun x hx => h x (List.mem_of_mem_take hx)
theorem byt_drop {l : List Int} (h : Byt l) (n : Nat) : Byt (l.drop n) := fun x hx => h x (List.mem_of_mem_drop hx)
theorem byt_get {l : List Int} (h : Byt l) (i : Nat) : 0 ≤ l.getD i 0 ∧ l.getD i 0 ≤ 255 := by
  rcases Nat.lt_or_ge i l.length with hi | hi
  · rw [gd_lt _ _ hi]; exact h _ (List.getElem_mem hi)
  · rw [gd_ge _ _ hi]; omega
theorem byt_set {l : List Int} (h : Byt l) (i : Nat) (x : Int) (hx : 0 ≤ x ∧ x ≤ 255) : Byt (l.set i x) := fun y hy => by
  rcases List.mem_or_eq_of_mem_set hy with h1 | rfl
  · exact h y h1
  · exact hx

theorem addm_bd (a b : Int) : 0 ≤ addm a b ∧ addm a b ≤ 65535 := by unfold addm; split <;> omega
theorem addm_comm (a b : Int) : addm a b = addm b a := by unfold addm; rw [Int.add_comm (a % 65536)]
theorem canon_bd (t : Int) : 0 ≤ canon t ∧ canon t ≤ 65535 := by unfold canon; split <;> omega
theorem canon_add (s t : Int) (hs : 0 ≤ s) (ht : 0 ≤ t) : addm (canon s) (canon t) = canon (s + t) := by
  unfold canon addm
  by_cases h1 : s ≤ 0 <;> by_cases h2 : t ≤ 0 <;> by_cases h3 : s + t ≤ 0 <;> simp only [h1, h2, h3, if_true, if_false] <;> (try split) <;> omega
theorem canon_small (w : Int) (h0 : 0 ≤ w) (h1 : w ≤ 65535) : canon w = w := by unfold canon; split <;> omega
theorem canon_word (s w : Int) (hs : 0 ≤ s) (h0 : 0 ≤ w) (h1 : w ≤ 65535) : addm (canon s) w = canon (s + w) := by
  conv => lhs; rw [← canon_small w h0 h1]
  exact canon_add s w hs h0
theorem canon_eq (s t : Int) (hs : 0 < s) (ht : 0 < t) (h : s % 65535 = t % 65535) : canon s = canon t := by
  unfold canon
  rw [if_neg (by omega), if_neg (by omega)]
  omega

theorem tot_nonneg : ∀ (l : List Int), Byt l → 0 ≤ tot l
  | [], _ => by simp [tot]
  | [x], h => by have := h x (by simp); simp only [tot]; omega
  | x :: y :: r, h => by
    have h1 := h x (by simp)
    have h2 := h y (by simp)
    have h3 := tot_nonneg r (fun z hz => h z (by simp [hz]))
    simp only [tot]; omega
theorem tot_append : ∀ (l r : List Int), l.length % 2 = 0 → tot (l ++ r) = tot l + tot r
  | [], r, _ => by simp [tot]
  | [x], r, h => by simp at h
  | x :: y :: l, r, h => by
    have := tot_append l r (by simp at h; omega)
    simp only [List.cons_append, tot, this]; omega
theorem sumL_bd (l : List Int) : 0 ≤ sumL l ∧ sumL l ≤ 65535 := canon_bd _
/-- The words from place i on: two more bytes are a word more. -/
theorem tot_drop (l : List Int) (i : Nat) (h : i + 1 < l.length) : tot (l.drop i) = 256 * l.getD i 0 + l.getD (i + 1) 0 + tot (l.drop (i + 2)) := by
  rw [List.drop_eq_getElem_cons (by omega), List.drop_eq_getElem_cons h]
  simp only [tot]
  rw [gd_lt _ _ (by omega), gd_lt _ _ h]
theorem tot_drop_last (l : List Int) (i : Nat) (h : i + 1 = l.length) : tot (l.drop i) = 256 * l.getD i 0 := by
  rw [List.drop_eq_getElem_cons (by omega), List.drop_eq_nil_of_le (by omega)]
  simp only [tot]
  rw [gd_lt _ _ (by omega)]
/-- The words in front of place i. -/
theorem tot_take (l : List Int) (i : Nat) (hi : i % 2 = 0) (h : i + 1 < l.length) : tot (l.take (i + 2)) = tot (l.take i) + (256 * l.getD i 0 + l.getD (i + 1) 0) := by
  have e : l.take (i + 2) = l.take i ++ [l.getD i 0, l.getD (i + 1) 0] := by
    rw [List.take_succ_eq_append_getElem h, List.take_succ_eq_append_getElem (by omega : i < l.length), List.append_assoc]
    rw [gd_lt _ _ (by omega), gd_lt _ _ h]; rfl
  rw [e, tot_append _ _ (by rw [List.length_take]; omega)]
  simp [tot]
theorem tot_take_last (l : List Int) (i : Nat) (hi : i % 2 = 0) (h : i + 1 = l.length) : tot l = tot (l.take i) + 256 * l.getD i 0 := by
  have e : l = l.take i ++ l.drop i := (List.take_append_drop i l).symm
  conv => lhs; rw [e]
  rw [tot_append _ _ (by rw [List.length_take]; omega), tot_drop_last l i h]
theorem tot_split (l : List Int) (i : Nat) (hi : i % 2 = 0) (h : i + 1 < l.length) : tot l = tot (l.take i) + (256 * l.getD i 0 + l.getD (i + 1) 0) + tot (l.drop (i + 2)) := by
  conv => lhs; rw [← List.take_append_drop i l]
  rw [tot_append _ _ (by rw [List.length_take]; omega), tot_drop l i h]
  omega
theorem tot_set2 (l : List Int) (i : Nat) (hi : i % 2 = 0) (h : i + 1 < l.length) (u v : Int) :
    tot ((l.set i u).set (i + 1) v) = tot (l.take i) + (256 * u + v) + tot (l.drop (i + 2)) := by
  rw [tot_split _ i hi (by simpa using h)]
  have e1 : ((l.set i u).set (i + 1) v).take i = l.take i := by
    rw [List.take_set_of_le (by omega), List.take_set_of_le (by omega)]
  have e2 : ((l.set i u).set (i + 1) v).drop (i + 2) = l.drop (i + 2) := by
    rw [List.drop_set_of_lt (by omega), List.drop_set_of_lt (by omega)]
  have e3 : ((l.set i u).set (i + 1) v).getD i 0 = u := by
    simp [List.getD_eq_getElem?_getD, show i < l.length by omega]
  have e4 : ((l.set i u).set (i + 1) v).getD (i + 1) 0 = v := by
    simp [List.getD_eq_getElem?_getD, h]
  rw [e1, e2, e3, e4]
/-- A check when a word is turned. -/
def turnm (c was now : Int) : Int := 65535 - addm (addm (65535 - c % 65536) (65535 - was % 65536)) now
theorem addm_mod (a b a' b' : Int) (ha : a % 65536 = a' % 65536) (hb : b % 65536 = b' % 65536) : addm a b = addm a' b' := by unfold addm; rw [ha, hb]
/-- May these stand ahead? (The lengths of two addresses, a protocol, a length.) -/
def psOk (a b : Nat) (p n : Int) : Prop := a = b ∧ 0 ≤ p ∧ p ≤ 255 ∧ 0 ≤ n ∧ ((a = 4 ∧ n ≤ 65535) ∨ (a = 16 ∧ n ≤ 4294967295))
instance (a b : Nat) (p n : Int) : Decidable (psOk a b p n) := by unfold psOk; infer_instance
/-- What stands behind the addresses. -/
def psTail (a : Nat) (p n : Int) : List Int := if a = 4 then [0, p, n / 256 % 256, n % 256] else [n / 16777216 % 256, n / 65536 % 256, n / 256 % 256, n % 256, 0, 0, 0, p]
/-- The plain sum of what stands ahead. -/
def psTot (s d : List Int) (p n : Int) : Int := tot s + tot d + tot (psTail s.length p n)
theorem psTail_byt (a : Nat) (p n : Int) (hp : 0 ≤ p ∧ p ≤ 255) : Byt (psTail a p n) := by
  unfold psTail
  split <;> simp only [byt_cons] <;> refine ⟨?_, ?_, ?_, ?_, ?_⟩ <;> first | omega | exact byt_nil | (refine ⟨?_, ?_, ?_, ?_, byt_nil⟩ <;> omega)
end Go.Proofs.YtaooibcihjkhfaaDoor

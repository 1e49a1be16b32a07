/- Datagrams between ports as plain lists: what is laid down is read as itself; what is read is laid down; a byte that is another one is found. Conditions: those that each lemma states. -/
import Derived.Test.YtbmlbomildfmcaaUdp
namespace Go.Proofs.Ytbmlbomildfmcaa

theorem canon_full (t : Int) : canon t = 65535 ↔ 0 < t ∧ t % 65535 = 0 := by unfold canon; split <;> omega
theorem tot_set : ∀ (l : List Int) (i : Nat) (c : Int), i < l.length → tot (l.set i c) = tot l + (if i % 2 = 0 then 256 else 1) * (c - l.getD i 0)
  | [], _, _, h => by simp at h
  | [x], i, c, h => by
    obtain rfl : i = 0 := by simp at h; omega
    simp [tot]; omega
  | x :: y :: r, 0, c, _ => by simp [tot]; omega
  | x :: y :: r, 1, c, _ => by simp [tot]; omega
  | x :: y :: r, i + 2, c, h => by
    have := tot_set r i c (by simp at h; omega)
    simp only [List.set_cons_succ, tot, this, List.getD_cons_succ, Nat.add_mod_right]
    omega
theorem dgSum_canon (b s d : List Int) (hb : Byt b) (hs : Byt s) (hd : Byt d) (hn : b.length ≤ 65535) : dgSum b s d = canon (psTot s d 17 b.length + tot b) ∧ 0 < psTot s d 17 b.length := by
  have h1 := tot_nonneg s hs
  have h2 := tot_nonneg d hd
  have h3 : 0 < tot (psTail s.length 17 b.length) := by
    unfold psTail
    split <;> simp only [tot] <;> omega
  have h4 : 0 < psTot s d 17 b.length := by unfold psTot; omega
  refine ⟨?_, h4⟩
  unfold dgSum sumL
  exact canon_add _ _ (by omega) (tot_nonneg b hb)
theorem psTot_comm (s d : List Int) (p n : Int) (h : s.length = d.length) : psTot s d p n = psTot d s p n := by unfold psTot; rw [h]; omega
theorem dgSum_comm (b s d : List Int) (h : s.length = d.length) : dgSum b s d = dgSum b d s := by unfold dgSum; rw [psTot_comm s d _ _ h]
theorem dgErr_comm (b s d : List Int) (h : s.length = d.length) : dgErr b s d = dgErr b d s := by
  unfold dgErr
  rw [dgSum_comm b s d h, h]
theorem dgFront_length (x y : Int) (xs : List Int) : (dgFront x y xs).length = 6 := rfl
theorem dgBytes_length (x y : Int) (xs s d : List Int) : (dgBytes x y xs s d).length = 8 + xs.length := by simp [dgBytes, dgFront]; omega
theorem tot_front (x y : Int) (xs : List Int) (u v : Int) : tot (dgFront x y xs ++ [u, v] ++ xs) = tot (dgFront x y xs) + (256 * u + v) + tot xs := by
  simp [dgFront, tot]; omega
theorem dg_check (T c D : Int) (hT : 0 < T) (hD : D = canon T) (hc : c = if 65535 - D = 0 then 65535 else 65535 - D) : canon (T + c) = 65535 := by
  subst hD
  have ht : canon T = (T - 1) % 65535 + 1 := by unfold canon; rw [if_neg (by omega)]
  rw [canon_full]
  rw [ht] at hc
  split at hc <;> omega
theorem dg_check_inv (T c D : Int) (hT : 0 < T) (hD : D = canon T) (h0 : 1 ≤ c) (h1 : c ≤ 65535) (h : canon (T + c) = 65535) : c = if 65535 - D = 0 then 65535 else 65535 - D := by
  subst hD
  have ht : canon T = (T - 1) % 65535 + 1 := by unfold canon; rw [if_neg (by omega)]
  rw [canon_full] at h
  rw [ht]
  split <;> omega
theorem dgBytes_sum (x y : Int) (xs s d : List Int) (hx : 0 ≤ x ∧ x ≤ 65535) (hy : 0 ≤ y ∧ y ≤ 65535) (hn : 8 + xs.length ≤ 65535) (hb : Byt xs) (hs : Byt s) (hd : Byt d) : dgSum (dgBytes x y xs s d) s d = 65535 := by
  have hF := dgFront_byt x y xs hx hy hn
  have b0 : Byt (dgFront x y xs ++ [0, 0] ++ xs) := byt_append.2 ⟨byt_append.2 ⟨hF, by decide⟩, hb⟩
  have l0 : (dgFront x y xs ++ [0, 0] ++ xs).length = 8 + xs.length := by simp [dgFront]; omega
  have l1 := dgBytes_length x y xs s d
  obtain ⟨e0, p0⟩ := dgSum_canon _ s d b0 hs hd (by omega)
  obtain ⟨e1, p1⟩ := dgSum_canon _ s d (dgBytes_byt x y xs s d hx hy hn hb) hs hd (by omega)
  have t0 := tot_nonneg _ b0
  rw [e1, l1]
  rw [l0] at e0 p0
  have hc : dgCheck x y xs s d = if 65535 - dgSum (dgFront x y xs ++ [0, 0] ++ xs) s d = 0 then 65535 else 65535 - dgSum (dgFront x y xs ++ [0, 0] ++ xs) s d := rfl
  have q := dg_check _ _ _ (by omega) e0 hc
  rw [← q]
  congr 1
  unfold dgBytes
  rw [tot_front, tot_front]
  have := dgCheck_bd x y xs s d
  omega
theorem dgBytes_get (x y : Int) (xs s d : List Int) : dgLen (dgBytes x y xs s d) = 8 + xs.length ∧ dgSrc (dgBytes x y xs s d) = x ∧ dgDst (dgBytes x y xs s d) = y ∧ (dgBytes x y xs s d).drop 8 = xs ∧ (dgBytes x y xs s d).getD 6 0 = dgCheck x y xs s d / 256 ∧ (dgBytes x y xs s d).getD 7 0 = dgCheck x y xs s d % 256 := by
  refine ⟨?_, ?_, ?_, rfl, rfl, rfl⟩
  · show 256 * (((8 + xs.length : Nat) : Int) / 256) + ((8 + xs.length : Nat) : Int) % 256 = _; omega
  · show 256 * (x / 256) + x % 256 = x; omega
  · show 256 * (y / 256) + y % 256 = y; omega
theorem dgBytes_some (x y : Int) (xs s d : List Int) : ¬ dgNone (dgBytes x y xs s d) := by
  obtain ⟨_, _, _, _, h6, h7⟩ := dgBytes_get x y xs s d
  have := dgCheck_bd x y xs s d
  unfold dgNone
  rw [h6, h7]
  omega
/-- What is laid down is read. -/
theorem dgBytes_err (x y : Int) (xs s d : List Int) (hx : 0 ≤ x ∧ x ≤ 65535) (hy : 0 ≤ y ∧ y ≤ 65535) (hn : 8 + xs.length ≤ 65535) (hb : Byt xs) (hs : Byt s) (hd : Byt d) (hp : pairOk s.length d.length) : dgErr (dgBytes x y xs s d) s d = 0 := by
  have l1 := dgBytes_length x y xs s d
  refine dgErr_ok _ _ _ hp (by omega) (by rw [l1, (dgBytes_get x y xs s d).1]; omega) ?_
  rintro (⟨q, _⟩ | ⟨_, q⟩)
  · exact dgBytes_some x y xs s d q
  · exact q (dgBytes_sum x y xs s d hx hy hn hb hs hd)
theorem dgErr_zero {b s d : List Int} (h : dgErr b s d = 0) : pairOk s.length d.length ∧ 8 ≤ b.length ∧ dgLen b = b.length ∧ (dgNone b ∨ dgSum b s d = 65535) := by
  unfold dgErr at h
  split at h
  · omega
  next h1 =>
  split at h
  · omega
  next h2 =>
  split at h
  · omega
  next h3 =>
  split at h
  · omega
  next h4 =>
  split at h
  · omega
  next h5 =>
  refine ⟨Decidable.not_not.1 h1, by omega, by omega, ?_⟩
  by_cases q : dgNone b
  · exact .inl q
  · exact .inr (Decidable.not_not.1 fun r => h5 (.inr ⟨q, r⟩))
theorem list8 (b : List Int) (h : 8 ≤ b.length) : b = [b.getD 0 0, b.getD 1 0, b.getD 2 0, b.getD 3 0, b.getD 4 0, b.getD 5 0, b.getD 6 0, b.getD 7 0] ++ b.drop 8 := by
  match b, h with
  | a0 :: a1 :: a2 :: a3 :: a4 :: a5 :: a6 :: a7 :: r, _ => rfl
/-- What is read is laid down as the same bytes, if its check is not 0. -/
theorem dgBytes_back (b s d : List Int) (hb : Byt b) (hs : Byt s) (hd : Byt d) (h : dgErr b s d = 0) (hno : ¬ dgNone b) : dgBytes (dgSrc b) (dgDst b) (b.drop 8) s d = b := by
  obtain ⟨hp, h8, hl, hq⟩ := dgErr_zero h
  have hq' : dgSum b s d = 65535 := hq.resolve_left hno
  have hL := dgLen_bd b hb
  have b0 := byt_get hb 0
  have b1 := byt_get hb 1
  have b2 := byt_get hb 2
  have b3 := byt_get hb 3
  have b4 := byt_get hb 4
  have b5 := byt_get hb 5
  have b6 := byt_get hb 6
  have b7 := byt_get hb 7
  have hf : dgFront (dgSrc b) (dgDst b) (b.drop 8) = [b.getD 0 0, b.getD 1 0, b.getD 2 0, b.getD 3 0, b.getD 4 0, b.getD 5 0] := by
    have e : (8 + (b.drop 8).length : Nat) = b.length := by rw [List.length_drop]; omega
    unfold dgFront
    rw [e, ← hl]
    unfold dgSrc dgDst dgLen
    generalize b.getD 0 0 = x0 at *
    generalize b.getD 1 0 = x1 at *
    generalize b.getD 2 0 = x2 at *
    generalize b.getD 3 0 = x3 at *
    generalize b.getD 4 0 = x4 at *
    generalize b.getD 5 0 = x5 at *
    rw [show (256 * x0 + x1) / 256 = x0 by omega, show (256 * x0 + x1) % 256 = x1 by omega, show (256 * x2 + x3) / 256 = x2 by omega, show (256 * x2 + x3) % 256 = x3 by omega, show (256 * x4 + x5) / 256 = x4 by omega, show (256 * x4 + x5) % 256 = x5 by omega]
  have B0 : Byt (dgFront (dgSrc b) (dgDst b) (b.drop 8) ++ [0, 0] ++ b.drop 8) := by
    refine byt_append.2 ⟨byt_append.2 ⟨?_, by decide⟩, byt_drop hb 8⟩
    rw [hf]
    simp only [byt_cons]
    exact ⟨b0, b1, b2, b3, b4, b5, byt_nil⟩
  have l0 : (dgFront (dgSrc b) (dgDst b) (b.drop 8) ++ [0, 0] ++ b.drop 8).length = b.length := by simp [dgFront]; omega
  obtain ⟨e0, p0⟩ := dgSum_canon _ s d B0 hs hd (by omega)
  obtain ⟨e1, p1⟩ := dgSum_canon b s d hb hs hd (by omega)
  rw [l0] at e0 p0
  have t0 := tot_nonneg _ B0
  have eb : b = dgFront (dgSrc b) (dgDst b) (b.drop 8) ++ [b.getD 6 0, b.getD 7 0] ++ b.drop 8 := by
    rw [hf]; exact list8 b h8
  have et : tot b = tot (dgFront (dgSrc b) (dgDst b) (b.drop 8) ++ [0, 0] ++ b.drop 8) + (256 * b.getD 6 0 + b.getD 7 0) := by
    conv => lhs; rw [eb]
    rw [tot_front, tot_front]
    omega
  have hc : dgCheck (dgSrc b) (dgDst b) (b.drop 8) s d = 256 * b.getD 6 0 + b.getD 7 0 := by
    have q := dg_check_inv _ (256 * b.getD 6 0 + b.getD 7 0) _ (by omega) e0 (by unfold dgNone at hno; omega) (by omega) (by rw [Int.add_assoc, ← et, ← e1]; exact hq')
    rw [q]; rfl
  conv => rhs; rw [eb]
  unfold dgBytes
  rw [hc, show (256 * b.getD 6 0 + b.getD 7 0) / 256 = b.getD 6 0 by omega, show (256 * b.getD 6 0 + b.getD 7 0) % 256 = b.getD 7 0 by omega]
/-- What is read may be laid down. -/
theorem dg_back_ok (b s d : List Int) (hb : Byt b) (h : dgErr b s d = 0) : (0 ≤ dgSrc b ∧ dgSrc b ≤ 65535 ∧ 0 ≤ dgDst b ∧ dgDst b ≤ 65535) ∧ pairOk s.length d.length ∧ 8 + (b.drop 8).length ≤ 65535 ∧ 8 ≤ b.length := by
  obtain ⟨hp, h8, hl, _⟩ := dgErr_zero h
  have hL := dgLen_bd b hb
  have b0 := byt_get hb 0
  have b1 := byt_get hb 1
  have b2 := byt_get hb 2
  have b3 := byt_get hb 3
  refine ⟨by unfold dgSrc dgDst; omega, hp, by rw [List.length_drop]; omega, h8⟩
/-- A byte that is another one is found, but where there is no check. -/
theorem dg_turned (b s d : List Int) (i : Nat) (c : Int) (hb : Byt b) (hs : Byt s) (hd : Byt d) (h : dgErr b s d = 0) (hno : ¬ dgNone b) (hi : i < b.length) (hc : 0 ≤ c ∧ c ≤ 255) (hne : b.getD i 0 ≠ c) :
    dgErr (b.set i c) s d ≠ 0 ∨ dgNone (b.set i c) := by
  by_cases q : dgNone (b.set i c)
  · exact .inr q
  refine .inl fun h' => ?_
  obtain ⟨_, _, hl, hq⟩ := dgErr_zero h
  obtain ⟨_, _, hl', hq'⟩ := dgErr_zero h'
  replace hq := hq.resolve_left hno
  replace hq' := hq'.resolve_left q
  have hL := dgLen_bd b hb
  have hi' := byt_get hb i
  rw [List.length_set] at hl'
  have B' := byt_set hb i c hc
  rw [(dgSum_canon b s d hb hs hd (by omega)).1, canon_full] at hq
  rw [(dgSum_canon _ s d B' hs hd (by rw [List.length_set]; omega)).1, canon_full, List.length_set, tot_set b i c hi] at hq'
  split at hq' <;> omega
end Go.Proofs.Ytbmlbomildfmcaa

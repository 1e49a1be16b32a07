/- Segments as plain lists: their check, their bytes, what is read. Conditions: those that each lemma states. -/
import Derived.Test.YtljdkfgnoalgpaaPs
namespace Go.Proofs.Ytljdkfgnoalgpaa

/-- A segment's numbers: ports, numbers of the stream, flags, window, urgent. -/
structure Sg where
  p : Int
  q : Int
  s : Int
  a : Int
  f : Int
  w : Int
  u : Int
def sgZ : Sg := ⟨0, 0, 0, 0, 0, 0, 0⟩
def sgOk (S : Sg) (m : Nat) : Prop :=
  (0 ≤ S.p ∧ S.p ≤ 65535) ∧ (0 ≤ S.q ∧ S.q ≤ 65535) ∧ (0 ≤ S.w ∧ S.w ≤ 65535) ∧ (0 ≤ S.u ∧ S.u ≤ 65535) ∧ (0 ≤ S.s ∧ S.s ≤ 4294967295) ∧ (0 ≤ S.a ∧ S.a ≤ 4294967295) ∧ (0 ≤ S.f ∧ S.f ≤ 255) ∧ m % 4 = 0 ∧ m ≤ 40
instance (S : Sg) (m : Nat) : Decidable (sgOk S m) := by unfold sgOk; infer_instance
def sgErr (S : Sg) (m n : Nat) : Int := if ¬ sgOk S m then 1 else if 65535 < 20 + m + n then 2 else 0
def sgLayErr (S : Sg) (m n a b : Nat) : Int := if ¬ pairOk a b then 1 else sgErr S m n
def sgFour (r : Int) : List Int := [r / 16777216, r / 65536 % 256, r / 256 % 256, r % 256]
def sgTwo (r : Int) : List Int := [r / 256, r % 256]
def sgHead (S : Sg) (m : Nat) : List Int :=
  [S.p / 256, S.p % 256, S.q / 256, S.q % 256, S.s / 16777216, S.s / 65536 % 256, S.s / 256 % 256, S.s % 256, S.a / 16777216, S.a / 65536 % 256, S.a / 256 % 256, S.a % 256, (16 * (5 + m / 4) : Nat), S.f, S.w / 256, S.w % 256]
def sgBack (S : Sg) (o xs : List Int) : List Int := [S.u / 256, S.u % 256] ++ (o ++ xs)
def sgZero (S : Sg) (o xs : List Int) : List Int := sgHead S o.length ++ ([0, 0] ++ sgBack S o xs)
def sgCheck (S : Sg) (o xs s d : List Int) : Int := 65535 - psSum 6 (sgZero S o xs) s d
def sgBytes (S : Sg) (o xs s d : List Int) : List Int := sgHead S o.length ++ ([sgCheck S o xs s d / 256, sgCheck S o xs s d % 256] ++ sgBack S o xs)
def two8 (x y : Int) : Int := 256 * x + y
def four8 (x y z v : Int) : Int := 65536 * two8 x y + two8 z v
def sgOf (b : List Int) : Sg := ⟨two8 (b.getD 0 0) (b.getD 1 0), two8 (b.getD 2 0) (b.getD 3 0), four8 (b.getD 4 0) (b.getD 5 0) (b.getD 6 0) (b.getD 7 0), four8 (b.getD 8 0) (b.getD 9 0) (b.getD 10 0) (b.getD 11 0), b.getD 13 0, two8 (b.getD 14 0) (b.getD 15 0), two8 (b.getD 18 0) (b.getD 19 0)⟩
def sgSize (b : List Int) : Nat := 4 * ((b.getD 12 0).toNat / 16)
def sgOpt (b : List Int) : List Int := (b.drop 20).take (sgSize b - 20)
def sgData (b : List Int) : List Int := b.drop (sgSize b)
def sgPErr (b s d : List Int) : Int :=
  if ¬ pairOk s.length d.length then 1 else if b.length < 20 then 8 else if b.length < sgSize b then 8 else if 65535 < b.length then 2
  else if sgSize b < 20 ∨ b.getD 12 0 % 16 ≠ 0 then 4 else if psSum 6 b s d ≠ 65535 then 5 else 0
theorem sgErr_zero {S : Sg} {m n : Nat} : sgErr S m n = 0 ↔ sgOk S m ∧ 20 + m + n ≤ 65535 := by
  unfold sgErr
  by_cases h : sgOk S m
  · rw [if_neg (fun q => q h)]
    by_cases h2 : 65535 < 20 + m + n
    · rw [if_pos h2]; exact ⟨(fun e => by cases e), fun e => by omega⟩
    · rw [if_neg h2]; exact ⟨fun _ => ⟨h, by omega⟩, fun _ => rfl⟩
  · rw [if_pos h]; exact ⟨(fun e => by cases e), fun e => absurd e.1 h⟩
theorem sgLayErr_zero {S : Sg} {m n a b : Nat} : sgLayErr S m n a b = 0 ↔ pairOk a b ∧ sgOk S m ∧ 20 + m + n ≤ 65535 := by
  unfold sgLayErr
  by_cases h : pairOk a b
  · rw [if_neg (fun q => q h), sgErr_zero]; exact ⟨fun e => ⟨h, e⟩, fun e => e.2⟩
  · rw [if_pos h]; exact ⟨(fun e => by cases e), fun e => absurd e.1 h⟩
theorem sgHead_len (S : Sg) (m : Nat) : (sgHead S m).length = 16 := rfl
theorem sgZero_len (S : Sg) (o xs : List Int) : (sgZero S o xs).length = 20 + o.length + xs.length := by simp [sgZero, sgHead, sgBack]; omega
theorem sgBytes_len (S : Sg) (o xs s d : List Int) : (sgBytes S o xs s d).length = 20 + o.length + xs.length := by simp [sgBytes, sgHead, sgBack]; omega
theorem sgCheck_bd (S : Sg) (o xs s d : List Int) : 0 ≤ sgCheck S o xs s d ∧ sgCheck S o xs s d ≤ 65535 := by
  have := psSum_bd 6 (sgZero S o xs) s d
  unfold sgCheck; omega
theorem sgHead_byt {S : Sg} {m : Nat} (h : sgOk S m) : Byt (sgHead S m) := by
  unfold sgOk at h
  unfold sgHead
  simp only [byt_cons]
  refine ⟨?_, ?_, ?_, ?_, ?_, ?_, ?_, ?_, ?_, ?_, ?_, ?_, ?_, ?_, ?_, ?_, byt_nil⟩ <;> omega
theorem sgBack_byt {S : Sg} {m : Nat} {o xs : List Int} (h : sgOk S m) (ho : Byt o) (hx : Byt xs) : Byt (sgBack S o xs) := by
  unfold sgOk at h
  unfold sgBack
  refine byt_append.2 ⟨?_, byt_append.2 ⟨ho, hx⟩⟩
  simp only [byt_cons]
  exact ⟨by omega, by omega, byt_nil⟩
theorem sgZero_byt {S : Sg} {o xs : List Int} (h : sgOk S o.length) (ho : Byt o) (hx : Byt xs) : Byt (sgZero S o xs) := by
  unfold sgZero
  refine byt_append.2 ⟨sgHead_byt h, byt_append.2 ⟨?_, sgBack_byt h ho hx⟩⟩
  simp only [byt_cons]
  exact ⟨by omega, by omega, byt_nil⟩
theorem sgBytes_byt {S : Sg} {o xs : List Int} (s d : List Int) (h : sgOk S o.length) (ho : Byt o) (hx : Byt xs) : Byt (sgBytes S o xs s d) := by
  have := sgCheck_bd S o xs s d
  unfold sgBytes
  refine byt_append.2 ⟨sgHead_byt h, byt_append.2 ⟨?_, sgBack_byt h ho hx⟩⟩
  simp only [byt_cons]
  exact ⟨by omega, by omega, byt_nil⟩
/-- What is laid down, out of what was laid down with no check. -/
theorem sgBytes_set (S : Sg) (o xs s d : List Int) : ((sgZero S o xs).set 16 (sgCheck S o xs s d / 256)).set 17 (sgCheck S o xs s d % 256) = sgBytes S o xs s d := rfl
theorem tot_sgBytes (S : Sg) (o xs s d : List Int) : tot (sgBytes S o xs s d) = tot (sgZero S o xs) + sgCheck S o xs s d := by
  simp only [sgBytes, sgZero, sgHead, List.cons_append, List.nil_append, tot]
  omega
theorem sgBytes_sum (S : Sg) (o xs s d : List Int) (h : sgOk S o.length) (ho : Byt o) (hx : Byt xs) (hs : Byt s) (hd : Byt d) (hn : 20 + o.length + xs.length ≤ 65535) : psSum 6 (sgBytes S o xs s d) s d = 65535 := by
  have hl := sgBytes_len S o xs s d
  have hl0 := sgZero_len S o xs
  have hz := sgZero_byt h ho hx
  have t0 := tot_nonneg _ hz
  have e1 : sgCheck S o xs s d = 65535 - canon (psTot s d 6 (20 + o.length + xs.length : Nat) + tot (sgZero S o xs)) := by
    unfold sgCheck
    rw [(psSum_canon 6 _ s d (by omega) hz hs hd (by omega)).1, hl0]
  have p0 := (psSum_canon 6 (sgZero S o xs) s d (by omega) hz hs hd (by omega)).2
  rw [hl0] at p0
  rw [(psSum_canon 6 _ s d (by omega) (sgBytes_byt s d h ho hx) hs hd (by omega)).1, hl, tot_sgBytes, e1, ← Int.add_assoc]
  exact check_full _ (by omega)
theorem sgBytes_get (S : Sg) (o xs s d : List Int) (h : sgOk S o.length) : sgOf (sgBytes S o xs s d) = S ∧ sgSize (sgBytes S o xs s d) = 20 + o.length ∧ (sgBytes S o xs s d).getD 12 0 % 16 = 0 := by
  obtain ⟨p, q, z, a, f, w, u⟩ := S
  unfold sgOk at h
  dsimp only at h
  refine ⟨?_, ?_, ?_⟩
  · show Sg.mk (two8 (p / 256) (p % 256)) (two8 (q / 256) (q % 256)) (four8 (z / 16777216) (z / 65536 % 256) (z / 256 % 256) (z % 256)) (four8 (a / 16777216) (a / 65536 % 256) (a / 256 % 256) (a % 256)) f (two8 (w / 256) (w % 256)) (two8 (u / 256) (u % 256)) = _
    unfold four8 two8
    congr 1 <;> omega
  · show 4 * ((((16 * (5 + o.length / 4) : Nat) : Int)).toNat / 16) = _
    omega
  · show (((16 * (5 + o.length / 4) : Nat) : Int)) % 16 = 0
    omega
theorem sgBytes_drop (S : Sg) (o xs s d : List Int) : (sgBytes S o xs s d).drop 20 = o ++ xs := rfl
theorem sgBytes_opt (S : Sg) (o xs s d : List Int) (h : sgOk S o.length) : sgOpt (sgBytes S o xs s d) = o ∧ sgData (sgBytes S o xs s d) = xs := by
  unfold sgOpt sgData
  rw [(sgBytes_get S o xs s d h).2.1, ← List.drop_drop, sgBytes_drop, show 20 + o.length - 20 = o.length by omega]
  exact ⟨by simp, by simp⟩
theorem sgBytes_err (S : Sg) (o xs s d : List Int) (h : sgOk S o.length) (ho : Byt o) (hx : Byt xs) (hs : Byt s) (hd : Byt d) (hn : 20 + o.length + xs.length ≤ 65535) (hp : pairOk s.length d.length) : sgPErr (sgBytes S o xs s d) s d = 0 := by
  have hl := sgBytes_len S o xs s d
  obtain ⟨_, g2, g3⟩ := sgBytes_get S o xs s d h
  unfold sgPErr
  rw [if_neg (fun q => q hp), if_neg (by omega), if_neg (by omega), if_neg (by omega), if_neg (fun q => by rcases q with q | q; omega; exact q g3), if_neg (fun q => q (sgBytes_sum S o xs s d h ho hx hs hd hn))]
theorem sgPErr_zero {b s d : List Int} (h : sgPErr b s d = 0) : pairOk s.length d.length ∧ 20 ≤ b.length ∧ sgSize b ≤ b.length ∧ b.length ≤ 65535 ∧ 20 ≤ sgSize b ∧ b.getD 12 0 % 16 = 0 ∧ psSum 6 b s d = 65535 := by
  unfold sgPErr at h
  split at h
  · cases h
  next h1 =>
  split at h
  · cases h
  next h2 =>
  split at h
  · cases h
  next h3 =>
  split at h
  · cases h
  next h4 =>
  split at h
  · cases h
  next h5 =>
  split at h
  · cases h
  next h6 => exact ⟨Decidable.not_not.1 h1, by omega, by omega, by omega, by omega, by omega, Decidable.not_not.1 h6⟩
theorem sgPErr_comm (b s d : List Int) (h : pairOk s.length d.length) : sgPErr b s d = sgPErr b d s := by
  have h' : pairOk d.length s.length := by unfold pairOk at *; omega
  unfold sgPErr
  rw [if_neg (show ¬ ¬ pairOk s.length d.length from fun q => q h), if_neg (show ¬ ¬ pairOk d.length s.length from fun q => q h'), psSum_comm 6 b s d h.1]
theorem cons_of {n : Nat} : ∀ {b : List Int}, n + 1 ≤ b.length → ∃ x r, b = x :: r ∧ n ≤ r.length
  | [], h => by simp at h
  | x :: r, h => ⟨x, r, rfl, by simpa using h⟩
theorem list20 (b : List Int) (h : 20 ≤ b.length) : ∃ b0 b1 b2 b3 b4 b5 b6 b7 b8 b9 b10 b11 b12 b13 b14 b15 b16 b17 b18 b19 r, b = b0 :: b1 :: b2 :: b3 :: b4 :: b5 :: b6 :: b7 :: b8 :: b9 :: b10 :: b11 :: b12 :: b13 :: b14 :: b15 :: b16 :: b17 :: b18 :: b19 :: r := by
  obtain ⟨b0, r0, rfl, h0⟩ := cons_of h
  obtain ⟨b1, r1, rfl, h1⟩ := cons_of h0
  obtain ⟨b2, r2, rfl, h2⟩ := cons_of h1
  obtain ⟨b3, r3, rfl, h3⟩ := cons_of h2
  obtain ⟨b4, r4, rfl, h4⟩ := cons_of h3
  obtain ⟨b5, r5, rfl, h5⟩ := cons_of h4
  obtain ⟨b6, r6, rfl, h6⟩ := cons_of h5
  obtain ⟨b7, r7, rfl, h7⟩ := cons_of h6
  obtain ⟨b8, r8, rfl, h8⟩ := cons_of h7
  obtain ⟨b9, r9, rfl, h9⟩ := cons_of h8
  obtain ⟨b10, r10, rfl, h10⟩ := cons_of h9
  obtain ⟨b11, r11, rfl, h11⟩ := cons_of h10
  obtain ⟨b12, r12, rfl, h12⟩ := cons_of h11
  obtain ⟨b13, r13, rfl, h13⟩ := cons_of h12
  obtain ⟨b14, r14, rfl, h14⟩ := cons_of h13
  obtain ⟨b15, r15, rfl, h15⟩ := cons_of h14
  obtain ⟨b16, r16, rfl, h16⟩ := cons_of h15
  obtain ⟨b17, r17, rfl, h17⟩ := cons_of h16
  obtain ⟨b18, r18, rfl, h18⟩ := cons_of h17
  obtain ⟨b19, r19, rfl, h19⟩ := cons_of h18
  exact ⟨b0, b1, b2, b3, b4, b5, b6, b7, b8, b9, b10, b11, b12, b13, b14, b15, b16, b17, b18, b19, r19, rfl⟩
/-- What is read and laid down with no check. -/
theorem sgZero_of {b : List Int} (hb : Byt b) (h20 : 20 ≤ b.length) (hz : 20 ≤ sgSize b) (hle : sgSize b ≤ b.length) (h12 : b.getD 12 0 % 16 = 0) :
    sgOk (sgOf b) (sgOpt b).length ∧ sgZero (sgOf b) (sgOpt b) (sgData b) = (b.set 16 0).set 17 0 ∧ 20 + (sgOpt b).length + (sgData b).length = b.length := by
  have hm : (sgOpt b).length = sgSize b - 20 := by unfold sgOpt; rw [List.length_take, List.length_drop]; omega
  have hd : (sgData b).length = b.length - sgSize b := by unfold sgData; rw [List.length_drop]
  have hr : sgOpt b ++ sgData b = b.drop 20 := by
    unfold sgOpt sgData
    rw [show b.drop (sgSize b) = (b.drop 20).drop (sgSize b - 20) by rw [List.drop_drop]; congr 1; omega, List.take_append_drop]
  have hs12 := byt_get hb 12
  have hsz : sgSize b = 4 * ((b.getD 12 0).toNat / 16) := rfl
  have hback : ∀ S : Sg, sgBack S (sgOpt b) (sgData b) = [S.u / 256, S.u % 256] ++ b.drop 20 := fun S => by unfold sgBack; rw [hr]
  refine ⟨?_, ?_, by omega⟩
  · have h0 := byt_get hb 0
    have h1 := byt_get hb 1
    have h2 := byt_get hb 2
    have h3 := byt_get hb 3
    have h4 := byt_get hb 4
    have h5 := byt_get hb 5
    have h6 := byt_get hb 6
    have h7 := byt_get hb 7
    have h8 := byt_get hb 8
    have h9 := byt_get hb 9
    have h10 := byt_get hb 10
    have h11 := byt_get hb 11
    have h13 := byt_get hb 13
    have h14 := byt_get hb 14
    have h15 := byt_get hb 15
    have h18 := byt_get hb 18
    have h19 := byt_get hb 19
    unfold sgOk sgOf four8 two8
    dsimp only
    refine ⟨?_, ?_, ?_, ?_, ?_, ?_, ?_, ?_, ?_⟩ <;> omega
  · unfold sgZero
    rw [hback, hm]
    have hq : (((16 * (5 + (sgSize b - 20) / 4) : Nat) : Int)) = b.getD 12 0 := by omega
    unfold sgHead
    rw [hq]
    clear hq hback hr hd hm hsz hle hz
    obtain ⟨b0, b1, b2, b3, b4, b5, b6, b7, b8, b9, b10, b11, b12, b13, b14, b15, b16, b17, b18, b19, r, rfl⟩ := list20 b h20
    simp only [byt_cons] at hb
    obtain ⟨h0, h1, h2, h3, h4, h5, h6, h7, h8, h9, h10, h11, h12, h13, h14, h15, h16, h17, h18, h19, _⟩ := hb
    show two8 b0 b1 / 256 :: two8 b0 b1 % 256 :: two8 b2 b3 / 256 :: two8 b2 b3 % 256 :: four8 b4 b5 b6 b7 / 16777216 :: four8 b4 b5 b6 b7 / 65536 % 256 :: four8 b4 b5 b6 b7 / 256 % 256 :: four8 b4 b5 b6 b7 % 256 ::
      four8 b8 b9 b10 b11 / 16777216 :: four8 b8 b9 b10 b11 / 65536 % 256 :: four8 b8 b9 b10 b11 / 256 % 256 :: four8 b8 b9 b10 b11 % 256 :: b12 :: b13 :: two8 b14 b15 / 256 :: two8 b14 b15 % 256 :: 0 :: 0 :: two8 b18 b19 / 256 :: two8 b18 b19 % 256 :: r =
      b0 :: b1 :: b2 :: b3 :: b4 :: b5 :: b6 :: b7 :: b8 :: b9 :: b10 :: b11 :: b12 :: b13 :: b14 :: b15 :: 0 :: 0 :: b18 :: b19 :: r
    unfold four8 two8
    simp only [List.cons.injEq, and_true, true_and]
    refine ⟨?_, ?_, ?_, ?_, ?_, ?_, ?_, ?_, ?_, ?_, ?_, ?_, ?_, ?_, ?_, ?_⟩ <;> omega
/-- What is read is laid down as the same bytes, but for the check. -/
theorem sgBytes_of {b s d : List Int} (hb : Byt b) (hs : Byt s) (hd : Byt d) (h : sgPErr b s d = 0) :
    sgLayErr (sgOf b) (sgOpt b).length (sgData b).length s.length d.length = 0 ∧
    ∃ c, 0 ≤ c ∧ c ≤ 65535 ∧ sgBytes (sgOf b) (sgOpt b) (sgData b) s d = (b.set 16 (c / 256)).set 17 (c % 256) ∧
      (256 * b.getD 16 0 + b.getD 17 0 = c ∨ (256 * b.getD 16 0 + b.getD 17 0 + c = 65535 ∧ (256 * b.getD 16 0 + b.getD 17 0) % 65535 = 0)) := by
  obtain ⟨hp, h20, hle, hmx, hz, h12, hsum⟩ := sgPErr_zero h
  obtain ⟨k1, k2, k3⟩ := sgZero_of hb h20 hz hle h12
  refine ⟨sgLayErr_zero.2 ⟨hp, k1, by omega⟩, sgCheck (sgOf b) (sgOpt b) (sgData b) s d, (sgCheck_bd _ _ _ _ _).1, (sgCheck_bd _ _ _ _ _).2, ?_, ?_⟩
  · rw [← sgBytes_set, k2]
    rw [List.set_comm (0 : Int) _ (by decide : (17 : Nat) ≠ 16), List.set_set, List.set_set]
  · have hzb : Byt ((b.set 16 0).set 17 0) := byt_set (byt_set hb 16 0 (by omega)) 17 0 (by omega)
    have hl : ((b.set 16 0).set 17 0).length = b.length := by rw [List.length_set, List.length_set]
    have e1 := psSum_canon 6 ((b.set 16 0).set 17 0) s d (by omega) hzb hs hd (by omega)
    have e2 := psSum_canon 6 b s d (by omega) hb hs hd (by omega)
    rw [hl] at e1
    have t : tot b = tot ((b.set 16 0).set 17 0) + (256 * b.getD 16 0 + b.getD 17 0) := by
      rw [tot_set _ 17 0 (by rw [List.length_set]; omega), tot_set _ 16 0 (by omega)]
      have : (b.set 16 0).getD 17 0 = b.getD 17 0 := by simp [List.getD_eq_getElem?_getD]
      rw [this]
      simp
      omega
    have hc : sgCheck (sgOf b) (sgOpt b) (sgData b) s d = 65535 - canon (psTot s d 6 b.length + tot ((b.set 16 0).set 17 0)) := by
      unfold sgCheck; rw [k2, e1.1]
    rw [hsum, t, ← Int.add_assoc] at e2
    have b16 := byt_get hb 16
    have b17 := byt_get hb 17
    have t0 := tot_nonneg _ hzb
    rcases check_inv _ (256 * b.getD 16 0 + b.getD 17 0) (by omega : 0 < psTot s d 6 b.length + tot ((b.set 16 0).set 17 0)) (by omega) (by omega) e2.1.symm with q | ⟨q1, q2⟩
    · left; omega
    · right; omega
end Go.Proofs.Ytljdkfgnoalgpaa

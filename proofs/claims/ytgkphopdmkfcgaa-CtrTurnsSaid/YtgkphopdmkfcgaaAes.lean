/- Bytes as polynomials, the table, keys, blocks, as plain functions. Conditions: those that each lemma states. -/
import Derived.Test.YtgkphopdmkfcgaaInet
import Derived.Test.YtgkphopdmkfcgaaNum
namespace Go.Proofs.Ytgkphopdmkfcgaa

/-- Two bytes, bit by bit. -/
def bx (a b : Int) : Int := ((a.toNat ^^^ b.toNat : Nat) : Int)
def dbl (x : Int) : Int := bx ((x * 2) % 256) (if 128 ≤ x then 27 else 0)
def timesL : Nat → Int → Int → Int → Int
  | 0, _, _, n => n
  | k + 1, x, y, n => timesL k (dbl x) (y / 2) (if y % 2 = 1 then bx n x else n)
/-- The product. -/
def times (x y : Int) : Int := timesL 8 x y 0
def rot (b : Int) (k : Nat) : Int := (b * 2 ^ k) % 256 + b / 2 ^ (8 - k)
def boxV (b : Int) : Int := bx (bx (bx (bx (bx b (rot b 1)) (rot b 2)) (rot b 3)) (rot b 4)) 99
def boxL : Nat → Int → Int → List Int → List Int
  | 0, _, _, out => out
  | k + 1, p, q, out => boxL k (bx (dbl p) p) (times q 246) (out.set p.toNat (boxV q))
def zl256 : List Int := List.replicate 256 0
theorem zl256_len : zl256.length = 256 := by unfold zl256; rw [List.length_replicate]
theorem zl256_byt : Byt zl256 := by intro x hx; unfold zl256 at hx; rw [List.mem_replicate] at hx; omega
/-- The table of Box. -/
def boxT : List Int := (boxL 255 1 1 zl256).set 0 99

theorem bx_nat (a b : Nat) : bx a b = ((a ^^^ b : Nat) : Int) := rfl
theorem bx_byte {a b : Int} (ha : 0 ≤ a ∧ a ≤ 255) (hb : 0 ≤ b ∧ b ≤ 255) : 0 ≤ bx a b ∧ bx a b ≤ 255 := by
  have := Nat.xor_lt_two_pow (n := 8) (x := a.toNat) (y := b.toNat) (by omega) (by omega)
  unfold bx; omega
theorem bx_nn (a b : Int) : 0 ≤ bx a b := by unfold bx; omega
theorem bx_comm (a b : Int) : bx a b = bx b a := by unfold bx; rw [Nat.xor_comm]
theorem bx_assoc (a b c : Int) : bx (bx a b) c = bx a (bx b c) := by unfold bx; rw [Int.toNat_natCast, Int.toNat_natCast, Nat.xor_assoc]
theorem bx_self (a : Int) : bx a a = 0 := by unfold bx; rw [Nat.xor_self]; rfl
theorem bx_zero {a : Int} (h : 0 ≤ a) : bx a 0 = a := by unfold bx; simp; omega
theorem zero_bx {a : Int} (h : 0 ≤ a) : bx 0 a = a := by rw [bx_comm, bx_zero h]
theorem bx_cancel {a b : Int} (hb : 0 ≤ b) : bx a (bx a b) = b := by rw [← bx_assoc, bx_self, zero_bx hb]
theorem bx_right {a b c : Int} (ha : 0 ≤ a) (hb : 0 ≤ b) (h : bx a c = bx b c) : a = b := by
  have := congrArg (bx · c) h
  simp only [bx_assoc, bx_self] at this
  rwa [bx_zero ha, bx_zero hb] at this
theorem k_xor_u8 (a b : Int) (ha : 0 ≤ a ∧ a ≤ 255) (hb : 0 ≤ b ∧ b ≤ 255) : bits .xor .u8 a b = bx a b := u8_xor a b ha.1 (by omega) hb.1 (by omega)
theorem byte_all {p : Int → Prop} (h : ∀ n : Nat, n < 256 → p n) (x : Int) (hx : 0 ≤ x ∧ x ≤ 255) : p x := by
  obtain ⟨n, rfl⟩ := Int.eq_ofNat_of_zero_le hx.1
  exact h n (by omega)
theorem dbl_byte {x : Int} : 0 ≤ dbl x ∧ dbl x ≤ 255 := by
  unfold dbl
  exact bx_byte (by omega) (by split <;> omega)
theorem timesL_byte : ∀ (k : Nat) (x y n : Int), 0 ≤ x ∧ x ≤ 255 → 0 ≤ n ∧ n ≤ 255 → 0 ≤ timesL k x y n ∧ timesL k x y n ≤ 255
  | 0, _, _, n, _, h => h
  | k + 1, x, y, n, hx, h => timesL_byte k _ _ _ dbl_byte (by split; exact bx_byte h hx; exact h)
theorem times_byte {x y : Int} (hx : 0 ≤ x ∧ x ≤ 255) : 0 ≤ times x y ∧ times x y ≤ 255 := timesL_byte 8 x y 0 hx (by omega)
theorem timesL_zero : ∀ (k : Nat) (x n : Int), timesL k x 0 n = n
  | 0, _, _ => rfl
  | k + 1, x, n => by unfold timesL; rw [show (0 : Int) / 2 = 0 by decide, if_neg (by decide), timesL_zero k]
/-- What a round of Go's text does is a round. -/
theorem double_go (x : Int) (hx : 0 ≤ x ∧ x ≤ 255) : bits .xor .u8 ((x * 2) % 256) (bits .and .u8 27 ((-(x / 128)) % 256)) = dbl x := by
  revert x
  refine byte_all ?_
  decide +kernel
theorem and_neg_go (x y : Int) (hx : 0 ≤ x ∧ x ≤ 255) (hy : 0 ≤ y ∧ y ≤ 255) : bits .and .u8 x ((-(bits .and .u8 y 1)) % 256) = if y % 2 = 1 then x else 0 := by
  have e1 : ∀ n : Nat, n < 256 → bits .and .u8 (n : Int) 1 = (n : Int) % 2 := by decide +kernel
  have e2 : ∀ n : Nat, n < 256 → bits .and .u8 (n : Int) 255 = (n : Int) := by decide +kernel
  have e3 : ∀ n : Nat, n < 256 → bits .and .u8 (n : Int) 0 = 0 := by decide +kernel
  have f1 : bits .and .u8 y 1 = y % 2 := byte_all (p := fun y => bits .and .u8 y 1 = y % 2) e1 y hy
  have f2 : bits .and .u8 x 255 = x := byte_all (p := fun x => bits .and .u8 x 255 = x) e2 x hx
  have f3 : bits .and .u8 x 0 = 0 := byte_all (p := fun x => bits .and .u8 x 0 = 0) e3 x hx
  rw [f1]
  by_cases h : y % 2 = 1
  · rw [if_pos h, h]; exact f2
  · rw [if_neg h, show y % 2 = 0 by omega]; exact f3
theorem rot_byte (b : Int) (k : Nat) (hb : 0 ≤ b ∧ b ≤ 255) (hk : k = 1 ∨ k = 2 ∨ k = 3 ∨ k = 4) : 0 ≤ rot b k ∧ rot b k ≤ 255 := by
  unfold rot
  rcases hk with rfl | rfl | rfl | rfl <;> simp <;> omega
theorem rot_go1 (x : Int) (hx : 0 ≤ x ∧ x ≤ 255) : bits .or .u8 ((x * 2) % 256) (x / 128) = rot x 1 := by
  revert x
  refine byte_all ?_
  decide +kernel
theorem rot_go2 (x : Int) (hx : 0 ≤ x ∧ x ≤ 255) : bits .or .u8 ((x * 4) % 256) (x / 64) = rot x 2 := by
  revert x
  refine byte_all ?_
  decide +kernel
theorem rot_go3 (x : Int) (hx : 0 ≤ x ∧ x ≤ 255) : bits .or .u8 ((x * 8) % 256) (x / 32) = rot x 3 := by
  revert x
  refine byte_all ?_
  decide +kernel
theorem rot_go4 (x : Int) (hx : 0 ≤ x ∧ x ≤ 255) : bits .or .u8 ((x * 16) % 256) (x / 16) = rot x 4 := by
  revert x
  refine byte_all ?_
  decide +kernel
theorem boxV_byte {b : Int} (hb : 0 ≤ b ∧ b ≤ 255) : 0 ≤ boxV b ∧ boxV b ≤ 255 := by
  unfold boxV
  exact bx_byte (bx_byte (bx_byte (bx_byte (bx_byte hb (rot_byte b 1 hb (by omega))) (rot_byte b 2 hb (by omega))) (rot_byte b 3 hb (by omega))) (rot_byte b 4 hb (by omega))) (by omega)
theorem boxV_go (b : Int) (hb : 0 ≤ b ∧ b ≤ 255) : bits .xor .u8 (bits .xor .u8 (bits .xor .u8 (bits .xor .u8 (bits .xor .u8 b (rot b 1)) (rot b 2)) (rot b 3)) (rot b 4)) 99 = boxV b := by
  have b1 := rot_byte b 1 hb (by omega)
  have b2 := rot_byte b 2 hb (by omega)
  have b3 := rot_byte b 3 hb (by omega)
  have b4 := rot_byte b 4 hb (by omega)
  have c1 := bx_byte hb b1
  have c2 := bx_byte c1 b2
  have c3 := bx_byte c2 b3
  have c4 := bx_byte c3 b4
  unfold boxV
  rw [k_xor_u8 _ _ hb b1, k_xor_u8 _ _ c1 b2, k_xor_u8 _ _ c2 b3, k_xor_u8 _ _ c3 b4, k_xor_u8 _ _ c4 (by omega)]
theorem boxL_len : ∀ (k : Nat) (p q : Int) (out : List Int), (boxL k p q out).length = out.length
  | 0, _, _, _ => rfl
  | k + 1, p, q, out => by rw [boxL, boxL_len k, List.length_set]
set_option maxRecDepth 100000 in
theorem boxT_fact : boxT.length = 256 ∧ Byt boxT := by decide +kernel
theorem boxT_len : boxT.length = 256 := boxT_fact.1
theorem boxT_byt : Byt boxT := boxT_fact.2
/-- A byte's Box. -/
def box (x : Int) : Int := boxT.getD x.toNat 0
theorem box_byte (x : Int) : 0 ≤ box x ∧ box x ≤ 255 := byt_get boxT_byt _
end Go.Proofs.Ytgkphopdmkfcgaa

/- Bits of int64: masks, joins and complements as plain arithmetic. Conditions: those that each lemma states. -/
import Derived.WalkKit
import Derived.Laws.BitsAllLaws
namespace Go.Proofs.YtaooibcihjkhfaaDoor
/-- A number of Go's int. -/
def I64 (x : Int) : Prop := -9223372036854775808 ≤ x ∧ x ≤ 9223372036854775807
theorem k_ofInt_toNat (a : Int) : ((BitVec.ofInt 64 a).toNat : Int) = a % 18446744073709551616 := by
  rw [BitVec.toNat_ofInt]
  have : (0:Int) ≤ a % ((2 ^ 64 : Nat) : Int) := Int.emod_nonneg _ (by decide)
  rw [Int.toNat_of_nonneg this]
  rfl
theorem k_and_def (a b : Int) : bits .and .i64 a b = IntKind.i64.wrap (((BitVec.ofInt 64 a).toNat &&& (BitVec.ofInt 64 b).toNat : Nat) : Int) := by
  rw [← BitVec.toNat_and]; rfl
theorem k_or_def (a b : Int) : bits .or .i64 a b = IntKind.i64.wrap (((BitVec.ofInt 64 a).toNat ||| (BitVec.ofInt 64 b).toNat : Nat) : Int) := by
  rw [← BitVec.toNat_or]; rfl
theorem k_xor_def (a b : Int) : bits .xor .i64 a b = IntKind.i64.wrap (((BitVec.ofInt 64 a).toNat ^^^ (BitVec.ofInt 64 b).toNat : Nat) : Int) := by
  rw [← BitVec.toNat_xor]; rfl
theorem k_ofNat (n : Nat) (h : n < 2 ^ 63) : (BitVec.ofInt 64 (n : Int)).toNat = n := by
  rw [BitVec.ofInt_natCast, BitVec.toNat_ofNat]; omega
theorem k_wrap_nat (n : Nat) (h : n < 2 ^ 63) : IntKind.i64.wrap (n : Int) = n := by
  rw [IntKind.wrap_i64]; omega
theorem k_and_mask (a : Int) (i : Nat) (hi : i ≤ 62) : bits .and .i64 a (2 ^ i - 1) = a % 2 ^ i := by
  have hpos : 0 < 2 ^ i := Nat.two_pow_pos i
  have hle : 2 ^ i ≤ 2 ^ 62 := Nat.pow_le_pow_right (by decide) hi
  have hc : ((2 : Int) ^ i - 1) = ((2 ^ i - 1 : Nat) : Int) := by
    rw [Int.natCast_sub hpos]; simp
  rw [hc, k_and_def, k_ofNat _ (by omega), Nat.and_two_pow_sub_one_eq_mod]
  have h1 : (((BitVec.ofInt 64 a).toNat % 2 ^ i : Nat) : Int) = a % 2 ^ i := by
    rw [Int.natCast_emod, k_ofInt_toNat]
    have hd : ((2:Int) ^ i) ∣ 18446744073709551616 := by
      have : (18446744073709551616 : Int) = 2 ^ i * 2 ^ (64 - i) := by
        rw [← Int.pow_add]
        rw [show i + (64 - i) = 64 by omega]
        rfl
      exact ⟨_, this⟩
    rw [show ((2 ^ i : Nat) : Int) = (2:Int)^i by simp]
    exact Int.emod_emod_of_dvd _ hd
  rw [k_wrap_nat _ (Nat.lt_of_lt_of_le (Nat.mod_lt _ hpos) (by omega)), h1]
theorem k_and_65535 (a : Int) : bits .and .i64 a 65535 = a % 65536 := k_and_mask a 16 (by decide)
theorem k_or_join (i : Nat) (x y : Int) (hx0 : 0 ≤ x) (hx : x % 2 ^ i = 0) (hx1 : x < 2 ^ 62) (hy0 : 0 ≤ y) (hy : y < 2 ^ i) (hi : i ≤ 62) : bits .or .i64 y x = x + y := by
  obtain ⟨a, rfl⟩ := Int.eq_ofNat_of_zero_le hx0
  obtain ⟨b, rfl⟩ := Int.eq_ofNat_of_zero_le hy0
  have ha : a < 2 ^ 62 := by exact_mod_cast hx1
  have hb' : b < 2 ^ i := by exact_mod_cast hy
  have hle : 2 ^ i ≤ 2 ^ 62 := Nat.pow_le_pow_right (by decide) hi
  have hd : a % 2 ^ i = 0 := by exact_mod_cast hx
  rw [k_or_def, k_ofNat _ (by omega), k_ofNat _ (by omega), Nat.or_comm, nat_join i a b hd hb', k_wrap_nat _ (by omega)]
  simp
theorem k_andNot_def (a b : Int) : bits .andNot .i64 a b = IntKind.i64.wrap (((BitVec.ofInt 64 a).toNat &&& (2 ^ 64 - 1 - (BitVec.ofInt 64 b).toNat) : Nat) : Int) := by
  have : (2 ^ 64 - 1 - (BitVec.ofInt 64 b).toNat) = (~~~ (BitVec.ofInt 64 b)).toNat := by rw [BitVec.toNat_not]
  rw [this, ← BitVec.toNat_and]; rfl
theorem k_andNot_65535 (y : Int) (h0 : 0 ≤ y) (h1 : y ≤ 65535) : bits .andNot .i64 65535 y = 65535 - y := by
  obtain ⟨b, rfl⟩ := Int.eq_ofNat_of_zero_le h0
  rw [k_andNot_def, k_ofNat _ (by omega), show (BitVec.ofInt 64 65535).toNat = 65535 from rfl, nat_mask16', k_wrap_nat _ (by omega)]
  omega
theorem k_xor_m1_mod (a : Int) : (bits .xor .i64 (-1) a) % 65536 = 65535 - a % 65536 := by
  have h := k_ofInt_toNat a
  have hl : (BitVec.ofInt 64 a).toNat < 2 ^ 64 := (BitVec.ofInt 64 a).isLt
  have e : (BitVec.ofInt 64 (-1)).toNat ^^^ (BitVec.ofInt 64 a).toNat = 2 ^ 64 - 1 - (BitVec.ofInt 64 a).toNat := by
    have h1 : (BitVec.ofInt 64 (-1)).toNat ^^^ (BitVec.ofInt 64 a).toNat = (BitVec.allOnes 64 ^^^ BitVec.ofInt 64 a).toNat := by
      rw [BitVec.toNat_xor]; rfl
    rw [h1, BitVec.allOnes_xor, BitVec.toNat_not]
  rw [k_xor_def, e, IntKind.wrap_i64]
  omega
theorem tmod_word (a : Int) : (Int.tmod a 65536) % 65536 = a % 65536 ∧ -65536 < Int.tmod a 65536 ∧ Int.tmod a 65536 < 65536 := by
  have h := Int.tmod_add_mul_tdiv a 65536
  have h1 := Int.tmod_lt_of_pos a (by decide : (0:Int) < 65536)
  have h2 : -65536 < Int.tmod a 65536 := by
    rcases Int.le_total 0 a with h | h
    · have := Int.tmod_nonneg 65536 h; omega
    · have e : Int.tmod a 65536 = - Int.tmod (-a) 65536 := by rw [Int.neg_tmod]; omega
      have := Int.tmod_lt_of_pos (-a) (by decide : (0:Int) < 65536)
      omega
  exact ⟨by omega, h2, h1⟩
theorem tmod_pos (a b : Int) (h : 0 ≤ a) : Int.tmod a b = a % b := Int.tmod_eq_emod_of_nonneg h
theorem tdiv_pos (a b : Int) (h : 0 ≤ a) : Int.tdiv a b = a / b := Int.tdiv_eq_ediv_of_nonneg h
end Go.Proofs.YtaooibcihjkhfaaDoor

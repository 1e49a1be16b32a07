/- Contracts of a turn, a constant, the words of a block. Conditions: those that each lemma states. -/
import Derived.Test.YtaooibcihjkhfaaDoorArrW
import Derived.Deep.RegionHeld3
namespace Go.Proofs.YtaooibcihjkhfaaDoor
open Go.RowKit Go.Proofs.YtaooibcihjkhfaaDoorW.PrintWords

theorem u32_or_join (a b : Nat) (k : Nat) (h1 : a % 2 ^ k = 0) (h2 : b < 2 ^ k) (h3 : a < 4294967296) (h4 : b < 4294967296) : bits .or .u32 (a : Int) (b : Int) = ((a + b : Nat) : Int) := by
  rw [u32_or_nat a b h3 h4, nat_join k a b h1 h2]
theorem or_rot (x : Int) (h : W32 x) (n : Nat) (hn : n ≤ 32) : bits .or .u32 (IntKind.u32.wrap (x * 2 ^ (32 - n))) (x / 2 ^ n) = rot x n := by
  obtain ⟨a, rfl⟩ := Int.eq_ofNat_of_zero_le h.1
  have ha : a < 4294967296 := by have := h.2; omega
  have hp : (0 : Nat) < 2 ^ n := Nat.two_pow_pos n
  have hq0 : (0 : Nat) < 2 ^ (32 - n) := Nat.two_pow_pos _
  have hq : 2 ^ n * 2 ^ (32 - n) = 4294967296 := by rw [← Nat.pow_add, show n + (32 - n) = 32 by omega]
  have e1 : IntKind.u32.wrap ((a : Int) * 2 ^ (32 - n)) = ((a % 2 ^ n * 2 ^ (32 - n) : Nat) : Int) := by
    rw [IntKind.wrap_u32']
    have : (a : Int) * 2 ^ (32 - n) = ((a * 2 ^ (32 - n) : Nat) : Int) := by simp
    rw [this, show (4294967296 : Int) = ((2 ^ n * 2 ^ (32 - n) : Nat) : Int) by rw [hq]; rfl, ← Int.natCast_emod, Nat.mul_mod_mul_right]
  have e2 : (a : Int) / 2 ^ n = ((a / 2 ^ n : Nat) : Int) := by simp
  have h1 : a / 2 ^ n < 2 ^ (32 - n) := by rw [Nat.div_lt_iff_lt_mul hp, Nat.mul_comm, hq]; exact ha
  have h2 : a % 2 ^ n + 1 ≤ 2 ^ n := Nat.mod_lt _ hp
  have h3 : (a % 2 ^ n + 1) * 2 ^ (32 - n) ≤ 2 ^ n * 2 ^ (32 - n) := Nat.mul_le_mul_right _ h2
  rw [hq, Nat.add_mul] at h3
  have h4 : a / 2 ^ n ≤ a := Nat.div_le_self _ _
  have e3 : rot (a : Int) n = ((a % 2 ^ n * 2 ^ (32 - n) + a / 2 ^ n : Nat) : Int) := by unfold rot; simp; omega
  rw [e1, e2, e3]
  refine u32_or_join _ _ (32 - n) (Nat.mul_mod_left _ _) h1 ?_ ?_
  · generalize a % 2 ^ n * 2 ^ (32 - n) = r at h3 ⊢
    omega
  · omega

set_option maxHeartbeats 1000000 in
theorem bits_rot (x : Int) (n : Nat) (w : World) (h : W32 x) (hn : 0 < n ∧ n < 32) :
    Calls Tryd.prog 30 #[.int .u32 x, .int .i64 (-(n : Int))] w fun e w' => e = .returned (.int .u32 (rot x n)) ∧ w = w' := by
  have e0 : IntKind.u64.wrap (-(n : Int)) = 18446744073709551616 - (n : Int) := by rw [IntKind.wrap_u64]; omega
  have e1 : bits .and .u64 (18446744073709551616 - (n : Int)) 31 = ((32 - n : Nat) : Int) := by
    rw [show (18446744073709551616 - (n : Int)) = ((18446744073709551616 - n : Nat) : Int) by omega, show (31 : Int) = ((31 : Nat) : Int) by rfl, u64_and_nat _ _ (by omega) (by omega), show 31 = 2 ^ 5 - 1 by rfl, Nat.and_two_pow_sub_one_eq_mod]
    omega
  have e2 : IntKind.u64.wrap (32 - ((32 - n : Nat) : Int)) = (n : Int) := by rw [IntKind.wrap_u64]; omega
  obtain ⟨m, hm⟩ : ∃ m, 32 - n = m := ⟨_, rfl⟩
  have h := Lib.hid (or_rot x h n (by omega))
  rw [hm] at e1 e2 h
  have hm32 : (m : Int) ≤ 32 := by omega
  have hn32 : (n : Int) ≤ 32 := by omega
  have t1 : min m 32 = m := by omega
  have t2 : min n 32 = n := by omega
  clear hn hm
  go_enter Tryd.func30, Tryd.ntmps30
  go_wp2
  go_ret
  exact ⟨ret_int h.out, rfl⟩
set_option maxHeartbeats 1000000 in
theorem dig_right (x : Int) (n : Nat) (w : World) (h : W32 x) (hn : 0 < n ∧ n < 32) :
    Calls Tryd.prog 28 #[.int .u32 x, .int .i64 (n : Int)] w fun e w' => e = .returned (.int .u32 (rot x n)) ∧ w = w' := by
  have e0 : IntKind.i64.wrap (-(n : Int)) = -(n : Int) := IntWalk.i64_in _ (by omega)
  go_enter Tryd.func28, Tryd.ntmps28
  go_wp2_with fail
  refine (bits_rot x n _ h hn).mono ?_
  rintro e w' ⟨rfl, rfl⟩
  go_wp2
  go_ret
  exact ⟨rfl, rfl⟩
/-- The table of constants lies where it is laid. -/
def Tab (w : World) : Prop := ∀ i, i < 72 → w.cell? ⟨0, i, none⟩ = some (.int .u32 (K64.getD i 0))
theorem Tab.below {w w1 : World} (h : Tab w) (hb : Below w.heap.size w w1) : Tab w1 := fun i hi => pw_cell_below hb (h i hi)
theorem Tab.pos {w : World} (h : Tab w) : 0 < w.heap.size := World.block_lt_of_cell? w _ (h 0 (by decide))
def constS (i : Int) : Int := if i < 0 ∨ 71 < i then 0 else K64.getD i.toNat 0
set_option maxHeartbeats 1000000 in
theorem dig_Constant (i : Int) (w : World) (hT : Tab w) :
    Calls Tryd.prog 11 #[.int .i64 i] w fun e w' => e = .returned (.int .i64 (constS i)) ∧ w = w' := by
  by_cases h0 : i < 0
  · have e : constS i = 0 := if_pos (.inl h0)
    have d0 : decide (i < 0) = true := decide_eq_true h0
    rw [e]
    clear e
    go_enter Tryd.func11, Tryd.ntmps11
    go_wp2
    go_ret
    exact ⟨rfl, rfl⟩
  have d0 : decide (i < 0) = false := decide_eq_false h0
  by_cases h1 : 72 ≤ i
  · have e : constS i = 0 := if_pos (.inr (by omega))
    have d1 : decide (72 ≤ i) = true := decide_eq_true h1
    rw [e]
    clear e
    go_enter Tryd.func11, Tryd.ntmps11
    go_wp2
    go_ret
    exact ⟨rfl, rfl⟩
  have d1 : decide (72 ≤ i) = false := decide_eq_false h1
  obtain ⟨k, rfl⟩ := Int.eq_ofNat_of_zero_le (show 0 ≤ i by omega)
  have e : constS (k : Int) = K64.getD k 0 := by unfold constS; rw [if_neg (by omega)]; rfl
  rw [e]
  have c := hT k (by omega)
  have hw := all32_get K64_w k
  generalize K64.getD k 0 = v at c hw ⊢
  have w1 : IntKind.i64.wrap v = v := IntWalk.i64_in _ (by unfold W32 at hw; omega)
  have i1 : (k : Int) < 72 := by omega
  clear hT hw e
  go_enter Tryd.func11, Tryd.ntmps11
  go_wp2
  go_ret
  exact ⟨rfl, rfl⟩
end Go.Proofs.YtaooibcihjkhfaaDoor

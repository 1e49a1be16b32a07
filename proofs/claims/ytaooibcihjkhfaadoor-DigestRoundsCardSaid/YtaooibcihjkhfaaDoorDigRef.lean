/- What the reference reckons, by the printed functions, is the plain digest's: turns and words. Conditions: each lemma's own. -/
import Derived.Test.YtaooibcihjkhfaaDoorDig
import Derived.Test.YtaooibcihjkhfaaDoorPDigestRoundsx5
namespace Go.Proofs.YtaooibcihjkhfaaDoor
set_option linter.unusedSimpArgs false
set_option linter.unusedVariables false
open Go.RowKit Go.Proofs.YtaooibcihjkhfaaDoorW.PrintWords Go.Proofs.YtaooibcihjkhfaaDoor.PDigestRounds

theorem wr {x : Int} (h0 : -9223372036854775808 ≤ x) (h1 : x ≤ 9223372036854775807) : wrap64 x = x := by unfold wrap64; omega
theorem rd_nat (l : List Int) (n : Nat) : rd l (n : Int) = l.getD n 0 := by unfold rd; rw [Int.toNat_natCast]
theorem lift_fuel {α : Type} {f : Nat → Option α} (hm : ∀ k, LeO (f k) (f (k + 1))) {r : α} {k0 : Nat} (h : f k0 = some r) : ∀ k, k0 ≤ k → f k = some r := by
  intro k hk
  obtain ⟨d, rfl⟩ : ∃ d, k = k0 + d := ⟨k - k0, by omega⟩
  clear hk
  induction d with
  | zero => exact h
  | succ d ih => exact hm _ r ih
theorem power_at (n : Nat) (p : Int) (h : redoubtref10_power.f 30 (n : Int) = some p) (k : Nat) (hk : 30 ≤ k) : redoubtref10_power.f k (n : Int) = some p :=
  lift_fuel (f := fun k => redoubtref10_power.f k (n : Int)) (redoubtref10_power.mono _) h k hk
theorem turn_at (x : Int) (hx : W32 x) (n : Nat) (hn : n ≤ 26) (hp : redoubtref10_power.f 30 (n : Int) = some ((2 ^ n : Nat) : Int)) (k : Nat) (hk : 30 ≤ k) : redoubtref10_turn.f k x (n : Int) = some (rot x n) := by
  have h2 : 2 ^ n ≤ 2 ^ 26 := Nat.pow_le_pow_right (by decide) hn
  have h3 : 0 < 2 ^ n := Nat.two_pow_pos n
  have h4 : 2 ^ n * 2 ^ (32 - n) = 4294967296 := by rw [← Nat.pow_add, show n + (32 - n) = 32 by omega]
  have h5 : (4294967296 : Int) / ((2 ^ n : Nat) : Int) = ((2 ^ (32 - n) : Nat) : Int) := by
    rw [show (4294967296 : Int) = ((2 ^ n * 2 ^ (32 - n) : Nat) : Int) by rw [h4]; rfl, ← Int.natCast_ediv, Nat.mul_div_cancel_left _ h3]
  obtain ⟨a, rfl⟩ := Int.eq_ofNat_of_zero_le hx.1
  have ha : a < 4294967296 := by have := hx.2; omega
  have hw := rot_w hx n (by omega)
  have hr : rot (a : Int) n = ((a / 2 ^ n + a % 2 ^ n * 2 ^ (32 - n) : Nat) : Int) := by unfold rot; simp
  have hq0 : (0 : Nat) < 2 ^ (32 - n) := Nat.two_pow_pos _
  have hq1 : 2 ^ (32 - n) ≤ 4294967296 := by rw [← h4]; exact Nat.le_mul_of_pos_left _ h3
  unfold redoubtref10_turn.f
  rw [power_at n _ hp k hk, Option.bind_some, if_neg (by omega), h5, tdiv_pos _ _ hx.1, tmod_pos _ _ hx.1]
  rw [hr] at hw ⊢
  have hw2 := hw.2
  have h6 : ((a : Int) / ((2 ^ n : Nat) : Int)) = ((a / 2 ^ n : Nat) : Int) := by rw [Int.natCast_ediv]
  have h7 : ((a : Int) % ((2 ^ n : Nat) : Int)) = ((a % 2 ^ n : Nat) : Int) := by rw [Int.natCast_emod]
  rw [h6, h7]
  generalize a / 2 ^ n = u at hw2 ⊢
  generalize hv : a % 2 ^ n = v at hw2 ⊢
  generalize 2 ^ (32 - n) = q at hw2 hq0 hq1 ⊢
  have hvq : v * q ≤ 4294967295 := by omega
  rw [wr (x := (q : Int)) (by omega) (by omega), show (v : Int) * (q : Int) = ((v * q : Nat) : Int) by simp]
  generalize v * q = t at hw2 hvq ⊢
  rw [wr (x := (u : Int)) (by omega) (by omega), wr (x := (t : Int)) (by omega) (by omega), wr (by omega) (by omega)]
  simp
theorem turn7 (x : Int) (hx : W32 x) (k : Nat) (hk : 30 ≤ k) : redoubtref10_turn.f k x 7 = some (rot x 7) := turn_at x hx 7 (by decide) (by decide +kernel) k hk
theorem turn18 (x : Int) (hx : W32 x) (k : Nat) (hk : 30 ≤ k) : redoubtref10_turn.f k x 18 = some (rot x 18) := turn_at x hx 18 (by decide) (by decide +kernel) k hk
theorem turn17 (x : Int) (hx : W32 x) (k : Nat) (hk : 30 ≤ k) : redoubtref10_turn.f k x 17 = some (rot x 17) := turn_at x hx 17 (by decide) (by decide +kernel) k hk
theorem turn19 (x : Int) (hx : W32 x) (k : Nat) (hk : 30 ≤ k) : redoubtref10_turn.f k x 19 = some (rot x 19) := turn_at x hx 19 (by decide) (by decide +kernel) k hk
theorem turn6 (x : Int) (hx : W32 x) (k : Nat) (hk : 30 ≤ k) : redoubtref10_turn.f k x 6 = some (rot x 6) := turn_at x hx 6 (by decide) (by decide +kernel) k hk
theorem turn11 (x : Int) (hx : W32 x) (k : Nat) (hk : 30 ≤ k) : redoubtref10_turn.f k x 11 = some (rot x 11) := turn_at x hx 11 (by decide) (by decide +kernel) k hk
theorem turn25 (x : Int) (hx : W32 x) (k : Nat) (hk : 30 ≤ k) : redoubtref10_turn.f k x 25 = some (rot x 25) := turn_at x hx 25 (by decide) (by decide +kernel) k hk
theorem turn2 (x : Int) (hx : W32 x) (k : Nat) (hk : 30 ≤ k) : redoubtref10_turn.f k x 2 = some (rot x 2) := turn_at x hx 2 (by decide) (by decide +kernel) k hk
theorem turn13 (x : Int) (hx : W32 x) (k : Nat) (hk : 30 ≤ k) : redoubtref10_turn.f k x 13 = some (rot x 13) := turn_at x hx 13 (by decide) (by decide +kernel) k hk
theorem turn22 (x : Int) (hx : W32 x) (k : Nat) (hk : 30 ≤ k) : redoubtref10_turn.f k x 22 = some (rot x 22) := turn_at x hx 22 (by decide) (by decide +kernel) k hk
theorem nat32 {a : Int} (h : W32 a) : ∃ n : Nat, a = n ∧ n < 2 ^ 32 := by
  obtain ⟨n, rfl⟩ := Int.eq_ofNat_of_zero_le h.1
  exact ⟨n, rfl, by have := h.2; omega⟩
theorem x64 {a b : Int} (ha : W32 a) (hb : W32 b) : bits .xor .i64 a b = bx a b := by
  obtain ⟨x, rfl, hx⟩ := nat32 ha
  obtain ⟨y, rfl, hy⟩ := nat32 hb
  have hz := Nat.xor_lt_two_pow hx hy
  rw [k_xor_def, k_ofNat _ (by omega), k_ofNat _ (by omega), k_wrap_nat _ (by omega)]
  rfl
theorem a64 {a b : Int} (ha : W32 a) (hb : W32 b) : bits .and .i64 a b = ba a b := by
  obtain ⟨x, rfl, hx⟩ := nat32 ha
  obtain ⟨y, rfl, hy⟩ := nat32 hb
  have hz := Nat.and_le_left (n := x) (m := y)
  rw [k_and_def, k_ofNat _ (by omega), k_ofNat _ (by omega), k_wrap_nat _ (by omega)]
  rfl
/-- The two ways of a choice. -/
theorem chs_x {e f g : Int} (he : W32 e) (hf : W32 f) (hg : W32 g) : bx (ba e f) (ba (4294967295 - e) g) = chs e f g := by
  obtain ⟨x, rfl, hx⟩ := nat32 he
  obtain ⟨y, rfl, hy⟩ := nat32 hf
  obtain ⟨z, rfl, hz⟩ := nat32 hg
  have h1 : (4294967295 - (x : Int)).toNat = 2 ^ 32 - (x + 1) := by omega
  unfold chs bx bo ba
  simp only [Int.toNat_natCast, h1]
  congr 1
  apply Nat.eq_of_testBit_eq
  intro i
  simp only [Nat.testBit_xor, Nat.testBit_or, Nat.testBit_and, Nat.testBit_two_pow_sub_succ hx]
  cases x.testBit i <;> cases y.testBit i <;> cases z.testBit i <;> simp
theorem maj_x {a b c : Int} (ha : W32 a) (hb : W32 b) (hc : W32 c) : bx (bx (ba a b) (ba a c)) (ba b c) = maj a b c := by
  obtain ⟨x, rfl, hx⟩ := nat32 ha
  obtain ⟨y, rfl, hy⟩ := nat32 hb
  obtain ⟨z, rfl, hz⟩ := nat32 hc
  unfold maj bx bo ba
  simp only [Int.toNat_natCast]
  congr 1
  apply Nat.eq_of_testBit_eq
  intro i
  simp only [Nat.testBit_xor, Nat.testBit_or, Nat.testBit_and]
  cases x.testBit i <;> cases y.testBit i <;> cases z.testBit i <;> rfl
end Go.Proofs.YtaooibcihjkhfaaDoor

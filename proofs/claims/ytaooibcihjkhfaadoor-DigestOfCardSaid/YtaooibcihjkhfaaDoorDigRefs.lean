/- The reference's functions, as they are printed, are the plain ones. Conditions: those that each lemma states. -/
import Derived.Test.YtaooibcihjkhfaaDoorDig
import Derived.Test.YtaooibcihjkhfaaDoorPDigestRoundsx5
import Derived.Test.YtaooibcihjkhfaaDoorCDigG
import Derived.Test.YtaooibcihjkhfaaDoorPDigestRoundsx3
import Derived.Test.YtaooibcihjkhfaaDoorPDigestRoundsx4
namespace Go.Proofs.YtaooibcihjkhfaaDoor
set_option linter.unusedSimpArgs false
set_option linter.unusedVariables false
open Go.RowKit Go.Proofs.YtaooibcihjkhfaaDoorW.PrintWords Go.Proofs.YtaooibcihjkhfaaDoor.PDigestRounds

theorem wr {x : Int} (h0 : -9223372036854775808 ≤ x) (h1 : x ≤ 9223372036854775807) : wrap64 x = x := by unfold wrap64; omega
theorem rd_nat (l : List Int) (n : Nat) : rd l (n : Int) = l.getD n 0 := by unfold rd; rw [Int.toNat_natCast]
theorem lift_fuel {α : Type} {f : Nat → Option α} (hm : ∀ k, LeO (f k) (f (k + 1))) {r : α} {k0 : Nat} (h : f k0 = some r) : ∀ k, k0 ≤ k → f k = some r := by
  intro k hk
  obtain ⟨d, rfl⟩ : ∃ d, k = k0 + d := ⟨k - k0, by omega⟩
  clear hk
  induction d with
  | zero => exact h
  | succ d ih => exact hm _ r ih
theorem power_at (n : Nat) (p : Int) (h : redoubtref10_power.f 30 (n : Int) = some p) (k : Nat) (hk : 30 ≤ k) : redoubtref10_power.f k (n : Int) = some p :=
  lift_fuel (f := fun k => redoubtref10_power.f k (n : Int)) (redoubtref10_power.mono _) h k hk
theorem turn_at (x : Int) (hx : W32 x) (n : Nat) (hn : n ≤ 26) (hp : redoubtref10_power.f 30 (n : Int) = some ((2 ^ n : Nat) : Int)) (k : Nat) (hk : 30 ≤ k) : redoubtref10_turn.f k x (n : Int) = some (rot x n) := by
  have h2 : 2 ^ n ≤ 2 ^ 26 := Nat.pow_le_pow_right (by decide) hn
  have h3 : 0 < 2 ^ n := Nat.two_pow_pos n
  have h4 : 2 ^ n * 2 ^ (32 - n) = 4294967296 := by rw [← Nat.pow_add, show n + (32 - n) = 32 by omega]
  have h5 : (4294967296 : Int) / ((2 ^ n : Nat) : Int) = ((2 ^ (32 - n) : Nat) : Int) := by
    rw [show (4294967296 : Int) = ((2 ^ n * 2 ^ (32 - n) : Nat) : Int) by rw [h4]; rfl, ← Int.natCast_ediv, Nat.mul_div_cancel_left _ h3]
  obtain ⟨a, rfl⟩ := Int.eq_ofNat_of_zero_le hx.1
  have ha : a < 4294967296 := by have := hx.2; omega
  have hw := rot_w hx n (by omega)
  have hr : rot (a : Int) n = ((a / 2 ^ n + a % 2 ^ n * 2 ^ (32 - n) : Nat) : Int) := by unfold rot; simp
  have hq0 : (0 : Nat) < 2 ^ (32 - n) := Nat.two_pow_pos _
  have hq1 : 2 ^ (32 - n) ≤ 4294967296 := by rw [← h4]; exact Nat.le_mul_of_pos_left _ h3
  unfold redoubtref10_turn.f
  rw [power_at n _ hp k hk, Option.bind_some, if_neg (by omega), h5, tdiv_pos _ _ hx.1, tmod_pos _ _ hx.1]
  rw [hr] at hw ⊢
  have hw2 := hw.2
  have h6 : ((a : Int) / ((2 ^ n : Nat) : Int)) = ((a / 2 ^ n : Nat) : Int) := by rw [Int.natCast_ediv]
  have h7 : ((a : Int) % ((2 ^ n : Nat) : Int)) = ((a % 2 ^ n : Nat) : Int) := by rw [Int.natCast_emod]
  rw [h6, h7]
  generalize a / 2 ^ n = u at hw2 ⊢
  generalize hv : a % 2 ^ n = v at hw2 ⊢
  generalize 2 ^ (32 - n) = q at hw2 hq0 hq1 ⊢
  have hvq : v * q ≤ 4294967295 := by omega
  rw [wr (x := (q : Int)) (by omega) (by omega), show (v : Int) * (q : Int) = ((v * q : Nat) : Int) by simp]
  generalize v * q = t at hw2 hvq ⊢
  rw [wr (x := (u : Int)) (by omega) (by omega), wr (x := (t : Int)) (by omega) (by omega), wr (by omega) (by omega)]
  simp
theorem turn7 (x : Int) (hx : W32 x) (k : Nat) (hk : 30 ≤ k) : redoubtref10_turn.f k x 7 = some (rot x 7) := turn_at x hx 7 (by decide) (by decide +kernel) k hk
theorem turn18 (x : Int) (hx : W32 x) (k : Nat) (hk : 30 ≤ k) : redoubtref10_turn.f k x 18 = some (rot x 18) := turn_at x hx 18 (by decide) (by decide +kernel) k hk
theorem turn17 (x : Int) (hx : W32 x) (k : Nat) (hk : 30 ≤ k) : redoubtref10_turn.f k x 17 = some (rot x 17) := turn_at x hx 17 (by decide) (by decide +kernel) k hk
theorem turn19 (x : Int) (hx : W32 x) (k : Nat) (hk : 30 ≤ k) : redoubtref10_turn.f k x 19 = some (rot x 19) := turn_at x hx 19 (by decide) (by decide +kernel) k hk
theorem turn6 (x : Int) (hx : W32 x) (k : Nat) (hk : 30 ≤ k) : redoubtref10_turn.f k x 6 = some (rot x 6) := turn_at x hx 6 (by decide) (by decide +kernel) k hk
theorem turn11 (x : Int) (hx : W32 x) (k : Nat) (hk : 30 ≤ k) : redoubtref10_turn.f k x 11 = some (rot x 11) := turn_at x hx 11 (by decide) (by decide +kernel) k hk
theorem turn25 (x : Int) (hx : W32 x) (k : Nat) (hk : 30 ≤ k) : redoubtref10_turn.f k x 25 = some (rot x 25) := turn_at x hx 25 (by decide) (by decide +kernel) k hk
theorem turn2 (x : Int) (hx : W32 x) (k : Nat) (hk : 30 ≤ k) : redoubtref10_turn.f k x 2 = some (rot x 2) := turn_at x hx 2 (by decide) (by decide +kernel) k hk
theorem turn13 (x : Int) (hx : W32 x) (k : Nat) (hk : 30 ≤ k) : redoubtref10_turn.f k x 13 = some (rot x 13) := turn_at x hx 13 (by decide) (by decide +kernel) k hk
theorem turn22 (x : Int) (hx : W32 x) (k : Nat) (hk : 30 ≤ k) : redoubtref10_turn.f k x 22 = some (rot x 22) := turn_at x hx 22 (by decide) (by decide +kernel) k hk
theorem nat32 {a : Int} (h : W32 a) : ∃ n : Nat, a = n ∧ n < 2 ^ 32 := by
  obtain ⟨n, rfl⟩ := Int.eq_ofNat_of_zero_le h.1
  exact ⟨n, rfl, by have := h.2; omega⟩
theorem x64 {a b : Int} (ha : W32 a) (hb : W32 b) : bits .xor .i64 a b = bx a b := by
  obtain ⟨x, rfl, hx⟩ := nat32 ha
  obtain ⟨y, rfl, hy⟩ := nat32 hb
  have hz := Nat.xor_lt_two_pow hx hy
  rw [k_xor_def, k_ofNat _ (by omega), k_ofNat _ (by omega), k_wrap_nat _ (by omega)]
  rfl
theorem a64 {a b : Int} (ha : W32 a) (hb : W32 b) : bits .and .i64 a b = ba a b := by
  obtain ⟨x, rfl, hx⟩ := nat32 ha
  obtain ⟨y, rfl, hy⟩ := nat32 hb
  have hz := Nat.and_le_left (n := x) (m := y)
  rw [k_and_def, k_ofNat _ (by omega), k_ofNat _ (by omega), k_wrap_nat _ (by omega)]
  rfl
/-- The two ways of a choice. -/
theorem chs_x {e f g : Int} (he : W32 e) (hf : W32 f) (hg : W32 g) : bx (ba e f) (ba (4294967295 - e) g) = chs e f g := by
  obtain ⟨x, rfl, hx⟩ := nat32 he
  obtain ⟨y, rfl, hy⟩ := nat32 hf
  obtain ⟨z, rfl, hz⟩ := nat32 hg
  have h1 : (4294967295 - (x : Int)).toNat = 2 ^ 32 - (x + 1) := by omega
  unfold chs bx bo ba
  simp only [Int.toNat_natCast, h1]
  congr 1
  apply Nat.eq_of_testBit_eq
  intro i
  simp only [Nat.testBit_xor, Nat.testBit_or, Nat.testBit_and, Nat.testBit_two_pow_sub_succ hx]
  cases x.testBit i <;> cases y.testBit i <;> cases z.testBit i <;> simp
theorem maj_x {a b c : Int} (ha : W32 a) (hb : W32 b) (hc : W32 c) : bx (bx (ba a b) (ba a c)) (ba b c) = maj a b c := by
  obtain ⟨x, rfl, hx⟩ := nat32 ha
  obtain ⟨y, rfl, hy⟩ := nat32 hb
  obtain ⟨z, rfl, hz⟩ := nat32 hc
  unfold maj bx bo ba
  simp only [Int.toNat_natCast]
  congr 1
  apply Nat.eq_of_testBit_eq
  intro i
  simp only [Nat.testBit_xor, Nat.testBit_or, Nat.testBit_and]
  cases x.testBit i <;> cases y.testBit i <;> cases z.testBit i <;> rfl
end Go.Proofs.YtaooibcihjkhfaaDoor

namespace Go.Proofs.YtaooibcihjkhfaaDoor
set_option linter.unusedSimpArgs false
set_option linter.unusedVariables false
open Go.RowKit Go.Proofs.YtaooibcihjkhfaaDoorW.PrintWords Go.Proofs.YtaooibcihjkhfaaDoor.PDigestRounds

theorem word4 {x y z v : Int} (hx : 0 ≤ x ∧ x ≤ 255) (hy : 0 ≤ y ∧ y ≤ 255) (hz : 0 ≤ z ∧ z ≤ 255) (hv : 0 ≤ v ∧ v ≤ 255) :
    wrap64 (wrap64 (wrap64 (wrap64 (16777216 * wrap64 x) + wrap64 (65536 * wrap64 y)) + wrap64 (256 * wrap64 z)) + wrap64 v) = 16777216 * x + 65536 * y + 256 * z + v := by
  rw [wr (x := x) (by omega) (by omega), wr (x := y) (by omega) (by omega), wr (x := z) (by omega) (by omega), wr (x := v) (by omega) (by omega)]
  rw [wr (x := 16777216 * x) (by omega) (by omega), wr (x := 65536 * y) (by omega) (by omega), wr (x := 256 * z) (by omega) (by omega)]
  rw [wr (x := 16777216 * x + 65536 * y) (by omega) (by omega), wr (x := 16777216 * x + 65536 * y + 256 * z) (by omega) (by omega), wr (by omega) (by omega)]
theorem word16 {p a q b : Int} (hp : W32 p) (ha : W32 a) (hq : W32 q) (hb : W32 b) :
    Int.tmod (wrap64 (wrap64 (wrap64 (p + Go.bits .xor .i64 (Go.bits .xor .i64 (rot a 7) (rot a 18)) (wrap64 (Int.tdiv a 8))) + q) + Go.bits .xor .i64 (Go.bits .xor .i64 (rot b 17) (rot b 19)) (wrap64 (Int.tdiv b 1024)))) 4294967296 = m32 (p + sg0 a + q + sg1 b) := by
  have r1 := rot_w ha 7 (by omega)
  have r2 := rot_w ha 18 (by omega)
  have s1 := rot_w hb 17 (by omega)
  have s2 := rot_w hb 19 (by omega)
  have d1 := shr_w ha 8 (by omega)
  have d2 := shr_w hb 1024 (by omega)
  rw [tdiv_pos _ _ ha.1, tdiv_pos _ _ hb.1, wr (x := a / 8) (by have := d1.1; omega) (by have := d1.2; omega), wr (x := b / 1024) (by have := d2.1; omega) (by have := d2.2; omega)]
  rw [x64 r1 r2, x64 (bx_w r1 r2) d1, x64 s1 s2, x64 (bx_w s1 s2) d2]
  change Int.tmod (wrap64 (wrap64 (wrap64 (p + sg0 a) + q) + sg1 b)) 4294967296 = _
  have h0 := sg0_w ha
  have h1 := sg1_w hb
  generalize sg0 a = u at h0 ⊢
  generalize sg1 b = v at h1 ⊢
  have hp1 := hp.1
  have hp2 := hp.2
  have hq1 := hq.1
  have hq2 := hq.2
  have hu1 := h0.1
  have hu2 := h0.2
  have hv1 := h1.1
  have hv2 := h1.2
  rw [wr (x := p + u) (by omega) (by omega), wr (x := p + u + q) (by omega) (by omega), wr (by omega) (by omega), tmod_pos _ _ (by omega)]
  rfl
theorem refWords_l (b : List Int) (hb : b.length = 64) (hby : Byt b) : ∀ m, m ≤ 64 → ∀ k, m + 31 ≤ k → redoubtref10_Words.l0 k b (wordsL b (64 - m)) ((64 - m : Nat) : Int) = some (wordsS b, 0)
  | 0, _, k, hk => by
    obtain ⟨j, rfl⟩ : ∃ j, k = j + 1 := ⟨k - 1, by omega⟩
    rw [redoubtref10_Words.l0, if_neg (by decide)]
    rfl
  | m + 1, hm, k, hk => by
    obtain ⟨j, rfl⟩ : ∃ j, k = j + 1 := ⟨k - 1, by omega⟩
    obtain ⟨i, hi⟩ : ∃ i, 64 - (m + 1) = i := ⟨_, rfl⟩
    have ih := refWords_l b hb hby m (by omega) j (by omega)
    rw [show 64 - m = i + 1 by omega, wordsL] at ih
    rw [hi]
    have hl := wordsL_len b i
    have hw := wordsL_w hby i
    have ei : wrap64 ((i : Int) + 1) = ((i + 1 : Nat) : Int) := by rw [wr (by omega) (by omega)]; omega
    rw [redoubtref10_Words.l0, if_pos (by omega)]
    by_cases h16 : i < 16
    · have e4 : wrap64 (4 * (i : Int)) = ((4 * i : Nat) : Int) := by rw [wr (by omega) (by omega)]; omega
      have e41 : wrap64 (((4 * i : Nat) : Int) + 1) = ((4 * i + 1 : Nat) : Int) := by rw [wr (by omega) (by omega)]; omega
      have e42 : wrap64 (((4 * i : Nat) : Int) + 2) = ((4 * i + 2 : Nat) : Int) := by rw [wr (by omega) (by omega)]; omega
      have e43 : wrap64 (((4 * i : Nat) : Int) + 3) = ((4 * i + 3 : Nat) : Int) := by rw [wr (by omega) (by omega)]; omega
      have hn : nextW b (wordsL b i) i = 16777216 * b.getD (4 * i) 0 + 65536 * b.getD (4 * i + 1) 0 + 256 * b.getD (4 * i + 2) 0 + b.getD (4 * i + 3) 0 := if_pos h16
      rw [if_pos (by omega), e4, e41, e42, e43, ei, rd_nat, rd_nat, rd_nat, rd_nat, word4 (byt_get hby _) (byt_get hby _) (byt_get hby _) (byt_get hby _), ← hn]
      rw [if_pos (by omega), if_pos (by omega), if_pos (by omega), if_pos (by omega), if_pos (by omega), if_pos (by omega), if_pos (by omega), if_pos (by omega), if_pos (by omega)]
      exact ih
    · have e15 : wrap64 ((i : Int) - 15) = ((i - 15 : Nat) : Int) := by rw [wr (by omega) (by omega)]; omega
      have e2 : wrap64 ((i : Int) - 2) = ((i - 2 : Nat) : Int) := by rw [wr (by omega) (by omega)]; omega
      have e16 : wrap64 ((i : Int) - 16) = ((i - 16 : Nat) : Int) := by rw [wr (by omega) (by omega)]; omega
      have e7 : wrap64 ((i : Int) - 7) = ((i - 7 : Nat) : Int) := by rw [wr (by omega) (by omega)]; omega
      have w15 := all32_get hw (i - 15)
      have w2 := all32_get hw (i - 2)
      have w16 := all32_get hw (i - 16)
      have w7 := all32_get hw (i - 7)
      have hn : nextW b (wordsL b i) i = m32 ((wordsL b i).getD (i - 16) 0 + sg0 ((wordsL b i).getD (i - 15) 0) + (wordsL b i).getD (i - 7) 0 + sg1 ((wordsL b i).getD (i - 2) 0)) := if_neg h16
      rw [if_neg (by omega), e15, e2, e16, e7, ei, rd_nat, rd_nat, rd_nat, rd_nat]
      rw [if_pos (by omega), if_pos (by omega), if_pos (by omega), if_pos (by omega)]
      rw [turn7 _ w15 j (by omega), Option.bind_some, turn18 _ w15 j (by omega), Option.bind_some, turn17 _ w2 j (by omega), Option.bind_some, turn19 _ w2 j (by omega), Option.bind_some]
      rw [if_pos (by omega), if_pos (by omega), if_pos (by omega), if_pos (by omega), if_pos (by omega), word16 w16 w15 w7 w2, ← hn]
      exact ih
theorem refWords (b : List Int) (hby : Byt b) (k : Nat) (hk : 95 ≤ k) : redoubtref10_Words.f k b = some (if b.length = 64 then wordsS b else [], if b.length = 64 then 0 else 1) := by
  unfold redoubtref10_Words.f
  by_cases h : b.length = 64
  · rw [if_pos (by omega), if_pos h, if_pos h]
    exact refWords_l b h hby 64 (by omega) k (by omega)
  · rw [if_neg (by omega), if_neg h, if_neg h]
end Go.Proofs.YtaooibcihjkhfaaDoor

namespace Go.Proofs.YtaooibcihjkhfaaDoor
set_option linter.unusedSimpArgs false
set_option linter.unusedVariables false
open Go.RowKit Go.Proofs.YtaooibcihjkhfaaDoorW.PrintWords Go.Proofs.YtaooibcihjkhfaaDoor.PDigestRounds

theorem refConstants : redoubtref10_Constants.f = some K64 := rfl
theorem refState_l (st : List Int) (hm : st.length ≤ 1000) : ∀ m, m ≤ st.length → ∀ k, m + 1 ≤ k → (∀ j, j < st.length - m → W32 (st.getD j 0)) → redoubtref10_State.l0 k st ((st.length - m : Nat) : Int) = some (st.all okW && ((st.length : Int) == 8))
  | 0, _, k, hk, hok => by
    obtain ⟨j, rfl⟩ : ∃ j, k = j + 1 := ⟨k - 1, by omega⟩
    rw [redoubtref10_State.l0, if_neg (by omega), okW_of (fun j hj => hok j (by omega)), Bool.true_and]
  | m + 1, hml, k, hk, hok => by
    obtain ⟨j, rfl⟩ : ∃ j, k = j + 1 := ⟨k - 1, by omega⟩
    obtain ⟨i, hi⟩ : ∃ i, st.length - (m + 1) = i := ⟨_, rfl⟩
    rw [hi] at hok ⊢
    have ei : wrap64 ((i : Int) + 1) = ((i + 1 : Nat) : Int) := by rw [wr (by omega) (by omega)]; omega
    rw [redoubtref10_State.l0, if_pos (by omega), if_pos (by omega), rd_nat, ei]
    by_cases hx : W32 (st.getD i 0)
    · rw [if_neg (by have := hx.1; omega), if_neg (by have := hx.2; omega)]
      have ih := refState_l st hm m (by omega) j (by omega) (fun q hq => by
        rcases Nat.lt_or_ge q i with h | h
        · exact hok q h
        · obtain rfl : q = i := by omega
          exact hx)
      rw [show st.length - m = i + 1 by omega] at ih
      exact ih
    · have hn := okW_not (l := st) (j := i) (by omega) hx
      have hf : st.all okW = false := by cases h : st.all okW; rfl; exact absurd h hn
      rw [hf, Bool.false_and]
      by_cases h0 : st.getD i 0 < 0
      · rw [if_pos h0]
      · rw [if_neg h0, if_pos (by unfold W32 at hx; omega)]
theorem refState (st : List Int) (hm : st.length ≤ 1000) (k : Nat) (hk : st.length + 1 ≤ k) : redoubtref10_State.f k st = some (st.all okW && ((st.length : Int) == 8)) := by
  have h := refState_l st hm st.length (Nat.le_refl _) k hk (fun j hj => by omega)
  rw [Nat.sub_self] at h
  exact h
theorem step_t {a0 a4 a5 a6 a7 kk ww : Int} (h4 : W32 a4) (h5 : W32 a5) (h6 : W32 a6) (h7 : W32 a7) (hk : W32 kk) (hw : W32 ww) :
    wrap64 (wrap64 (wrap64 (wrap64 (a7 + Go.bits .xor .i64 (Go.bits .xor .i64 (rot a4 6) (rot a4 11)) (rot a4 25)) + Go.bits .xor .i64 (Go.bits .and .i64 a4 a5) (Go.bits .and .i64 (wrap64 (4294967295 - a4)) a6)) + kk) + ww) = a7 + sm1 a4 + chs a4 a5 a6 + kk + ww := by
  have r1 := rot_w h4 6 (by omega)
  have r2 := rot_w h4 11 (by omega)
  have r3 := rot_w h4 25 (by omega)
  have n4 := not_w h4
  rw [wr (x := 4294967295 - a4) (by have := n4.1; omega) (by have := n4.2; omega), x64 r1 r2, x64 (bx_w r1 r2) r3, a64 h4 h5, a64 n4 h6, x64 (ba_w h4) (ba_w n4), chs_x h4 h5 h6]
  change wrap64 (wrap64 (wrap64 (wrap64 (a7 + sm1 a4) + chs a4 a5 a6) + kk) + ww) = _
  have u := sm1_w h4
  have v := chs_w (f := a5) (g := a6) h4
  generalize sm1 a4 = x at u ⊢
  generalize chs a4 a5 a6 = y at v ⊢
  unfold W32 at u v h7 hk hw
  rw [wr (x := a7 + x) (by omega) (by omega), wr (x := a7 + x + y) (by omega) (by omega), wr (x := a7 + x + y + kk) (by omega) (by omega), wr (by omega) (by omega)]
theorem step_u {a0 a1 a2 : Int} (h0 : W32 a0) (h1 : W32 a1) (h2 : W32 a2) :
    wrap64 (Go.bits .xor .i64 (Go.bits .xor .i64 (rot a0 2) (rot a0 13)) (rot a0 22) + Go.bits .xor .i64 (Go.bits .xor .i64 (Go.bits .and .i64 a0 a1) (Go.bits .and .i64 a0 a2)) (Go.bits .and .i64 a1 a2)) = sm0 a0 + maj a0 a1 a2 := by
  have r1 := rot_w h0 2 (by omega)
  have r2 := rot_w h0 13 (by omega)
  have r3 := rot_w h0 22 (by omega)
  rw [x64 r1 r2, x64 (bx_w r1 r2) r3, a64 h0 h1, a64 h0 h2, a64 h1 h2, x64 (ba_w h0) (ba_w h0), x64 (bx_w (ba_w h0) (ba_w h0)) (ba_w h1), maj_x h0 h1 h2]
  change wrap64 (sm0 a0 + maj a0 a1 a2) = _
  have u := sm0_w h0
  have v := maj_w (b := a1) (c := a2) h0 h1
  generalize sm0 a0 = x at u ⊢
  generalize maj a0 a1 a2 = y at v ⊢
  unfold W32 at u v
  rw [wr (by omega) (by omega)]
theorem refRound_l1 (s : List Int) (v : List Int) (hs : s.length = 8) (hv : v.length = 8) (hsw : All32 s) (hvw : All32 v) : ∀ m, m ≤ 8 → ∀ k, m + 1 ≤ k → redoubtref10_Round.l1 k s (sumS s v (8 - m)) ((8 - m : Nat) : Int) = some (sumS s v 8, 0)
  | 0, _, k, hk => by
    obtain ⟨j, rfl⟩ : ∃ j, k = j + 1 := ⟨k - 1, by omega⟩
    rw [redoubtref10_Round.l1, if_neg (by decide)]
  | m + 1, hm, k, hk => by
    obtain ⟨j, rfl⟩ : ∃ j, k = j + 1 := ⟨k - 1, by omega⟩
    obtain ⟨i, hi⟩ : ∃ i, 8 - (m + 1) = i := ⟨_, rfl⟩
    rw [hi]
    have ih := refRound_l1 s v hs hv hsw hvw m (by omega) j (by omega)
    rw [show 8 - m = i + 1 by omega, sumS] at ih
    have ei : wrap64 ((i : Int) + 1) = ((i + 1 : Nat) : Int) := by rw [wr (by omega) (by omega)]; omega
    have hl : (sumS s v i).length = 8 := by rw [sumS_len, hv]
    have w1 := all32_get (sumS_w s hvw i) i
    have w2 := all32_get hsw i
    rw [redoubtref10_Round.l1, if_pos (by omega), if_pos (by omega), if_pos (by omega), if_pos (by omega), rd_nat, rd_nat, ei, Int.toNat_natCast]
    unfold W32 at w1 w2
    rw [wr (by omega) (by omega), tmod_pos _ _ (by omega)]
    exact ih
theorem refRound_l0 (s W : List Int) (hs : s.length = 8) (hsw : All32 s) (hW : W.length = 64) (hWw : All32 W) : ∀ m, m ≤ 64 → ∀ k, m + 40 ≤ k → redoubtref10_Round.l0 k s W K64 (roundsL W s (64 - m)) ((64 - m : Nat) : Int) = some (sumS s (roundsL W s 64) 8, 0)
  | 0, _, k, hk => by
    obtain ⟨j, rfl⟩ : ∃ j, k = j + 1 := ⟨k - 1, by omega⟩
    rw [redoubtref10_Round.l0, if_neg (by decide)]
    exact refRound_l1 s (roundsL W s 64) hs (roundsL_len W hs 64) hsw (roundsL_w W hsw 64) 8 (Nat.le_refl _) j (by omega)
  | m + 1, hm, k, hk => by
    obtain ⟨j, rfl⟩ : ∃ j, k = j + 1 := ⟨k - 1, by omega⟩
    obtain ⟨i, hi⟩ : ∃ i, 64 - (m + 1) = i := ⟨_, rfl⟩
    rw [hi]
    have ih := refRound_l0 s W hs hsw hW hWw m (by omega) j (by omega)
    rw [show 64 - m = i + 1 by omega, roundsL] at ih
    have ei : wrap64 ((i : Int) + 1) = ((i + 1 : Nat) : Int) := by rw [wr (by omega) (by omega)]; omega
    have hl := roundsL_len W hs i
    have hv := roundsL_w W hsw i
    have wk := all32_get K64_w i
    have ww := all32_get hWw i
    generalize hvv : roundsL W s i = v at hl hv ih ⊢
    clear hvv
    obtain ⟨a0, a1, a2, a3, a4, a5, a6, a7, rfl⟩ := list8 hl
    have w0 := hv a0 (by simp)
    have w1 := hv a1 (by simp)
    have w2 := hv a2 (by simp)
    have w3 := hv a3 (by simp)
    have w4 := hv a4 (by simp)
    have w5 := hv a5 (by simp)
    have w6 := hv a6 (by simp)
    have w7 := hv a7 (by simp)
    rw [redoubtref10_Round.l0, if_pos (by omega)]
    have g0 : rd [a0, a1, a2, a3, a4, a5, a6, a7] 0 = a0 := rfl
    have g1 : rd [a0, a1, a2, a3, a4, a5, a6, a7] 1 = a1 := rfl
    have g2 : rd [a0, a1, a2, a3, a4, a5, a6, a7] 2 = a2 := rfl
    have g3 : rd [a0, a1, a2, a3, a4, a5, a6, a7] 3 = a3 := rfl
    have g4 : rd [a0, a1, a2, a3, a4, a5, a6, a7] 4 = a4 := rfl
    have g5 : rd [a0, a1, a2, a3, a4, a5, a6, a7] 5 = a5 := rfl
    have g6 : rd [a0, a1, a2, a3, a4, a5, a6, a7] 6 = a6 := rfl
    have g7 : rd [a0, a1, a2, a3, a4, a5, a6, a7] 7 = a7 := rfl
    rw [g0, g1, g2, g3, g4, g5, g6, g7, rd_nat, rd_nat, ei]
    have hkl := K64_len
    have hlen : ((([a0, a1, a2, a3, a4, a5, a6, a7] : List Int).length : Nat) : Int) = 8 := rfl
    rw [hlen, if_pos (by decide), if_pos (by decide), if_pos (by decide), if_pos (by decide), if_pos (by decide), if_pos (by decide), if_pos (by decide)]
    rw [turn6 _ w4 j (by omega), Option.bind_some, turn11 _ w4 j (by omega), Option.bind_some, turn25 _ w4 j (by omega), Option.bind_some]
    rw [if_pos (by omega), if_pos (by omega), if_pos (by omega)]
    rw [turn2 _ w0 j (by omega), Option.bind_some, turn13 _ w0 j (by omega), Option.bind_some, turn22 _ w0 j (by omega), Option.bind_some, if_pos (by decide)]
    rw [step_t (a0 := a0) w4 w5 w6 w7 wk ww, step_u w0 w1 w2]
    have hst : stepS [a0, a1, a2, a3, a4, a5, a6, a7] (K64.getD i 0) (W.getD i 0) = [Int.tmod (wrap64 (a7 + sm1 a4 + chs a4 a5 a6 + K64.getD i 0 + W.getD i 0 + (sm0 a0 + maj a0 a1 a2))) 4294967296, a0, a1, a2, Int.tmod (wrap64 (a3 + (a7 + sm1 a4 + chs a4 a5 a6 + K64.getD i 0 + W.getD i 0))) 4294967296, a4, a5, a6] := by
      have u := sm1_w w4
      have v := chs_w (f := a5) (g := a6) w4
      have x := sm0_w w0
      have y := maj_w (b := a1) (c := a2) w0 w1
      show [m32 (m32 (a7 + sm1 a4 + chs a4 a5 a6 + K64.getD i 0 + W.getD i 0) + m32 (sm0 a0 + maj a0 a1 a2)), a0, a1, a2, m32 (a3 + m32 (a7 + sm1 a4 + chs a4 a5 a6 + K64.getD i 0 + W.getD i 0)), a4, a5, a6] = _
      generalize sm1 a4 = p at u ⊢
      generalize chs a4 a5 a6 = q at v ⊢
      generalize sm0 a0 = r at x ⊢
      generalize maj a0 a1 a2 = z at y ⊢
      generalize K64.getD i 0 = kk at wk ⊢
      generalize W.getD i 0 = ww' at ww ⊢
      unfold W32 at u v x y wk ww w7 w3
      rw [wr (x := a7 + p + q + kk + ww' + (r + z)) (by omega) (by omega), wr (x := a3 + (a7 + p + q + kk + ww')) (by omega) (by omega), tmod_pos _ _ (by omega), tmod_pos _ _ (by omega)]
      unfold m32
      congr 1
      · omega
      · congr 4
        omega
    rw [hst] at ih
    exact ih
theorem refRound (st b : List Int) (hm : st.length ≤ 40) (hby : Byt b) (k : Nat) (hk : 120 ≤ k) : redoubtref10_Round.f k st b = some (if roundErr st b.length = 0 then addS st b else [], roundErr st b.length) := by
  unfold redoubtref10_Round.f
  rw [refWords b hby k (by omega), Option.bind_some]
  by_cases h : b.length = 64
  · rw [if_pos h, if_pos h]
    dsimp only
    rw [if_pos rfl, refState st (by omega) k (by omega), Option.bind_some]
    obtain ⟨j, rfl⟩ : ∃ j, k = j + 1 := ⟨k - 1, by omega⟩
    rw [redoubtref10_Round.j0]
    by_cases ho : st.length = 8 ∧ st.all okW = true
    · have e : roundErr st b.length = 0 := if_pos ⟨ho.1, h, ho.2⟩
      have hb8 : ((st.length : Int) == 8) = true := by rw [beq_iff_eq]; omega
      rw [e, if_pos rfl, ho.2, hb8, if_neg (by decide), refConstants, Option.bind_some, if_pos (by simp; omega), List.nil_append]
      exact refRound_l0 st (wordsS b) ho.1 (all32_of ho.2) (wordsL_len b 64) (wordsL_w hby 64) 64 (Nat.le_refl _) j (by omega)
    · have e : roundErr st b.length = 1 := if_neg (fun q => ho ⟨q.1, q.2.2⟩)
      have hb8 : (st.all okW && ((st.length : Int) == 8)) = false := by
        cases h1 : st.all okW
        · rfl
        · rw [Bool.true_and]
          exact beq_eq_false_iff_ne.mpr (fun q => ho ⟨by omega, h1⟩)
      rw [hb8, if_pos (by decide), e, if_neg (by decide)]
  · rw [if_neg h, if_neg h]
    dsimp only
    have e : roundErr st b.length = 1 := if_neg (fun q => h q.2.1)
    obtain ⟨j, rfl⟩ : ∃ j, k = j + 1 := ⟨k - 1, by omega⟩
    rw [if_neg (by decide), redoubtref10_Round.j0, if_pos rfl, e, if_neg (by decide)]
theorem refConstant (x : Int) : redoubtref10_Constant.f x = some (constS x) := by
  unfold redoubtref10_Constant.f constS
  by_cases h0 : x < 0
  · rw [if_pos h0, if_pos (.inl h0)]
  by_cases h1 : x > 71
  · rw [if_neg h0, if_pos h1, if_pos (.inr h1)]
  · have hl := K64_len
    rw [if_neg h0, if_neg h1, refConstants, Option.bind_some, if_pos (by omega), if_pos (by omega), if_neg (by omega)]
    rfl
theorem refInts_l (l : List Int) (hm : l.length ≤ 1000) : ∀ m, m ≤ l.length → ∀ k, m + 1 ≤ k → redoubtref10_Ints.l0 k l l ((l.length - m : Nat) : Int) = some true
  | 0, _, k, hk => by
    obtain ⟨j, rfl⟩ : ∃ j, k = j + 1 := ⟨k - 1, by omega⟩
    rw [redoubtref10_Ints.l0, if_neg (by omega)]
  | m + 1, hml, k, hk => by
    obtain ⟨j, rfl⟩ : ∃ j, k = j + 1 := ⟨k - 1, by omega⟩
    obtain ⟨i, hi⟩ : ∃ i, l.length - (m + 1) = i := ⟨_, rfl⟩
    rw [hi]
    have ei : wrap64 ((i : Int) + 1) = ((i + 1 : Nat) : Int) := by rw [wr (by omega) (by omega)]; omega
    have ih := refInts_l l hm m (by omega) j (by omega)
    rw [show l.length - m = i + 1 by omega] at ih
    rw [redoubtref10_Ints.l0, if_pos (by omega), if_pos (by omega), if_pos (by omega), if_pos rfl, ei]
    exact ih
theorem refInts (l : List Int) (hm : l.length ≤ 1000) (k : Nat) (hk : l.length + 1 ≤ k) : redoubtref10_Ints.f k l l = some true := by
  unfold redoubtref10_Ints.f
  rw [if_pos rfl]
  have h := refInts_l l hm l.length (Nat.le_refl _) k hk
  rw [Nat.sub_self] at h
  exact h
end Go.Proofs.YtaooibcihjkhfaaDoor

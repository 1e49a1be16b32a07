/- The reference's rounds, by the printed functions, are the plain ones. Conditions: each lemma's own. -/
import Derived.Test.YtaooibcihjkhfaaDoorDigRefB
import Derived.Test.YtaooibcihjkhfaaDoorCDigG
import Derived.Test.YtaooibcihjkhfaaDoorPDigestRoundsx3
import Derived.Test.YtaooibcihjkhfaaDoorPDigestRoundsx4
namespace Go.Proofs.YtaooibcihjkhfaaDoor
set_option linter.unusedSimpArgs false
set_option linter.unusedVariables false
open Go.RowKit Go.Proofs.YtaooibcihjkhfaaDoorW.PrintWords Go.Proofs.YtaooibcihjkhfaaDoor.PDigestRounds

theorem refConstants : redoubtref10_Constants.f = some K64 := rfl
theorem refState_l (st : List Int) (hm : st.length ≤ 1000) : ∀ m, m ≤ st.length → ∀ k, m + 1 ≤ k → (∀ j, j < st.length - m → W32 (st.getD j 0)) → redoubtref10_State.l0 k st ((st.length - m : Nat) : Int) = some (st.all okW && ((st.length : Int) == 8))
  | 0, _, k, hk, hok => by
    obtain ⟨j, rfl⟩ : ∃ j, k = j + 1 := ⟨k - 1, by omega⟩
    rw [redoubtref10_State.l0, if_neg (by omega), okW_of (fun j hj => hok j (by omega)), Bool.true_and]
  | m + 1, hml, k, hk, hok => by
    obtain ⟨j, rfl⟩ : ∃ j, k = j + 1 := ⟨k - 1, by omega⟩
    obtain ⟨i, hi⟩ : ∃ i, st.length - (m + 1) = i := ⟨_, rfl⟩
    rw [hi] at hok ⊢
    have ei : wrap64 ((i : Int) + 1) = ((i + 1 : Nat) : Int) := by rw [wr (by omega) (by omega)]; omega
    rw [redoubtref10_State.l0, if_pos (by omega), if_pos (by omega), rd_nat, ei]
    by_cases hx : W32 (st.getD i 0)
    · rw [if_neg (by have := hx.1; omega), if_neg (by have := hx.2; omega)]
      have ih := refState_l st hm m (by omega) j (by omega) (fun q hq => by
        rcases Nat.lt_or_ge q i with h | h
        · exact hok q h
        · obtain rfl : q = i := by omega
          exact hx)
      rw [show st.length - m = i + 1 by omega] at ih
      exact ih
    · have hn := okW_not (l := st) (j := i) (by omega) hx
      have hf : st.all okW = false := by cases h : st.all okW; rfl; exact absurd h hn
      rw [hf, Bool.false_and]
      by_cases h0 : st.getD i 0 < 0
      · rw [if_pos h0]
      · rw [if_neg h0, if_pos (by unfold W32 at hx; omega)]
theorem refState (st : List Int) (hm : st.length ≤ 1000) (k : Nat) (hk : st.length + 1 ≤ k) : redoubtref10_State.f k st = some (st.all okW && ((st.length : Int) == 8)) := by
  have h := refState_l st hm st.length (Nat.le_refl _) k hk (fun j hj => by omega)
  rw [Nat.sub_self] at h
  exact h
theorem step_t {a0 a4 a5 a6 a7 kk ww : Int} (h4 : W32 a4) (h5 : W32 a5) (h6 : W32 a6) (h7 : W32 a7) (hk : W32 kk) (hw : W32 ww) :
    wrap64 (wrap64 (wrap64 (wrap64 (a7 + Go.bits .xor .i64 (Go.bits .xor .i64 (rot a4 6) (rot a4 11)) (rot a4 25)) + Go.bits .xor .i64 (Go.bits .and .i64 a4 a5) (Go.bits .and .i64 (wrap64 (4294967295 - a4)) a6)) + kk) + ww) = a7 + sm1 a4 + chs a4 a5 a6 + kk + ww := by
  have r1 := rot_w h4 6 (by omega)
  have r2 := rot_w h4 11 (by omega)
  have r3 := rot_w h4 25 (by omega)
  have n4 := not_w h4
  rw [wr (x := 4294967295 - a4) (by have := n4.1; omega) (by have := n4.2; omega), x64 r1 r2, x64 (bx_w r1 r2) r3, a64 h4 h5, a64 n4 h6, x64 (ba_w h4) (ba_w n4), chs_x h4 h5 h6]
  change wrap64 (wrap64 (wrap64 (wrap64 (a7 + sm1 a4) + chs a4 a5 a6) + kk) + ww) = _
  have u := sm1_w h4
  have v := chs_w (f := a5) (g := a6) h4
  generalize sm1 a4 = x at u ⊢
  generalize chs a4 a5 a6 = y at v ⊢
  unfold W32 at u v h7 hk hw
  rw [wr (x := a7 + x) (by omega) (by omega), wr (x := a7 + x + y) (by omega) (by omega), wr (x := a7 + x + y + kk) (by omega) (by omega), wr (by omega) (by omega)]
theorem step_u {a0 a1 a2 : Int} (h0 : W32 a0) (h1 : W32 a1) (h2 : W32 a2) :
    wrap64 (Go.bits .xor .i64 (Go.bits .xor .i64 (rot a0 2) (rot a0 13)) (rot a0 22) + Go.bits .xor .i64 (Go.bits .xor .i64 (Go.bits .and .i64 a0 a1) (Go.bits .and .i64 a0 a2)) (Go.bits .and .i64 a1 a2)) = sm0 a0 + maj a0 a1 a2 := by
  have r1 := rot_w h0 2 (by omega)
  have r2 := rot_w h0 13 (by omega)
  have r3 := rot_w h0 22 (by omega)
  rw [x64 r1 r2, x64 (bx_w r1 r2) r3, a64 h0 h1, a64 h0 h2, a64 h1 h2, x64 (ba_w h0) (ba_w h0), x64 (bx_w (ba_w h0) (ba_w h0)) (ba_w h1), maj_x h0 h1 h2]
  change wrap64 (sm0 a0 + maj a0 a1 a2) = _
  have u := sm0_w h0
  have v := maj_w (b := a1) (c := a2) h0 h1
  generalize sm0 a0 = x at u ⊢
  generalize maj a0 a1 a2 = y at v ⊢
  unfold W32 at u v
  rw [wr (by omega) (by omega)]
theorem refRound_l1 (s : List Int) (v : List Int) (hs : s.length = 8) (hv : v.length = 8) (hsw : All32 s) (hvw : All32 v) : ∀ m, m ≤ 8 → ∀ k, m + 1 ≤ k → redoubtref10_Round.l1 k s (sumS s v (8 - m)) ((8 - m : Nat) : Int) = some (sumS s v 8, 0)
  | 0, _, k, hk => by
    obtain ⟨j, rfl⟩ : ∃ j, k = j + 1 := ⟨k - 1, by omega⟩
    rw [redoubtref10_Round.l1, if_neg (by decide)]
  | m + 1, hm, k, hk => by
    obtain ⟨j, rfl⟩ : ∃ j, k = j + 1 := ⟨k - 1, by omega⟩
    obtain ⟨i, hi⟩ : ∃ i, 8 - (m + 1) = i := ⟨_, rfl⟩
    rw [hi]
    have ih := refRound_l1 s v hs hv hsw hvw m (by omega) j (by omega)
    rw [show 8 - m = i + 1 by omega, sumS] at ih
    have ei : wrap64 ((i : Int) + 1) = ((i + 1 : Nat) : Int) := by rw [wr (by omega) (by omega)]; omega
    have hl : (sumS s v i).length = 8 := by rw [sumS_len, hv]
    have w1 := all32_get (sumS_w s hvw i) i
    have w2 := all32_get hsw i
    rw [redoubtref10_Round.l1, if_pos (by omega), if_pos (by omega), if_pos (by omega), if_pos (by omega), rd_nat, rd_nat, ei, Int.toNat_natCast]
    unfold W32 at w1 w2
    rw [wr (by omega) (by omega), tmod_pos _ _ (by omega)]
    exact ih
theorem refRound_l0 (s W : List Int) (hs : s.length = 8) (hsw : All32 s) (hW : W.length = 64) (hWw : All32 W) : ∀ m, m ≤ 64 → ∀ k, m + 40 ≤ k → redoubtref10_Round.l0 k s W K64 (roundsL W s (64 - m)) ((64 - m : Nat) : Int) = some (sumS s (roundsL W s 64) 8, 0)
  | 0, _, k, hk => by
    obtain ⟨j, rfl⟩ : ∃ j, k = j + 1 := ⟨k - 1, by omega⟩
    rw [redoubtref10_Round.l0, if_neg (by decide)]
    exact refRound_l1 s (roundsL W s 64) hs (roundsL_len W hs 64) hsw (roundsL_w W hsw 64) 8 (Nat.le_refl _) j (by omega)
  | m + 1, hm, k, hk => by
    obtain ⟨j, rfl⟩ : ∃ j, k = j + 1 := ⟨k - 1, by omega⟩
    obtain ⟨i, hi⟩ : ∃ i, 64 - (m + 1) = i := ⟨_, rfl⟩
    rw [hi]
    have ih := refRound_l0 s W hs hsw hW hWw m (by omega) j (by omega)
    rw [show 64 - m = i + 1 by omega, roundsL] at ih
    have ei : wrap64 ((i : Int) + 1) = ((i + 1 : Nat) : Int) := by rw [wr (by omega) (by omega)]; omega
    have hl := roundsL_len W hs i
    have hv := roundsL_w W hsw i
    have wk := all32_get K64_w i
    have ww := all32_get hWw i
    generalize hvv : roundsL W s i = v at hl hv ih ⊢
    clear hvv
    obtain ⟨a0, a1, a2, a3, a4, a5, a6, a7, rfl⟩ := list8 hl
    have w0 := hv a0 (by simp)
    have w1 := hv a1 (by simp)
    have w2 := hv a2 (by simp)
    have w3 := hv a3 (by simp)
    have w4 := hv a4 (by simp)
    have w5 := hv a5 (by simp)
    have w6 := hv a6 (by simp)
    have w7 := hv a7 (by simp)
    rw [redoubtref10_Round.l0, if_pos (by omega)]
    have g0 : rd [a0, a1, a2, a3, a4, a5, a6, a7] 0 = a0 := rfl
    have g1 : rd [a0, a1, a2, a3, a4, a5, a6, a7] 1 = a1 := rfl
    have g2 : rd [a0, a1, a2, a3, a4, a5, a6, a7] 2 = a2 := rfl
    have g3 : rd [a0, a1, a2, a3, a4, a5, a6, a7] 3 = a3 := rfl
    have g4 : rd [a0, a1, a2, a3, a4, a5, a6, a7] 4 = a4 := rfl
    have g5 : rd [a0, a1, a2, a3, a4, a5, a6, a7] 5 = a5 := rfl
    have g6 : rd [a0, a1, a2, a3, a4, a5, a6, a7] 6 = a6 := rfl
    have g7 : rd [a0, a1, a2, a3, a4, a5, a6, a7] 7 = a7 := rfl
    rw [g0, g1, g2, g3, g4, g5, g6, g7, rd_nat, rd_nat, ei]
    have hkl := K64_len
    have hlen : ((([a0, a1, a2, a3, a4, a5, a6, a7] : List Int).length : Nat) : Int) = 8 := rfl
    rw [hlen, if_pos (by decide), if_pos (by decide), if_pos (by decide), if_pos (by decide), if_pos (by decide), if_pos (by decide), if_pos (by decide)]
    rw [turn6 _ w4 j (by omega), Option.bind_some, turn11 _ w4 j (by omega), Option.bind_some, turn25 _ w4 j (by omega), Option.bind_some]
    rw [if_pos (by omega), if_pos (by omega), if_pos (by omega)]
    rw [turn2 _ w0 j (by omega), Option.bind_some, turn13 _ w0 j (by omega), Option.bind_some, turn22 _ w0 j (by omega), Option.bind_some, if_pos (by decide)]
    rw [step_t (a0 := a0) w4 w5 w6 w7 wk ww, step_u w0 w1 w2]
    have hst : stepS [a0, a1, a2, a3, a4, a5, a6, a7] (K64.getD i 0) (W.getD i 0) = [Int.tmod (wrap64 (a7 + sm1 a4 + chs a4 a5 a6 + K64.getD i 0 + W.getD i 0 + (sm0 a0 + maj a0 a1 a2))) 4294967296, a0, a1, a2, Int.tmod (wrap64 (a3 + (a7 + sm1 a4 + chs a4 a5 a6 + K64.getD i 0 + W.getD i 0))) 4294967296, a4, a5, a6] := by
      have u := sm1_w w4
      have v := chs_w (f := a5) (g := a6) w4
      have x := sm0_w w0
      have y := maj_w (b := a1) (c := a2) w0 w1
      show [m32 (m32 (a7 + sm1 a4 + chs a4 a5 a6 + K64.getD i 0 + W.getD i 0) + m32 (sm0 a0 + maj a0 a1 a2)), a0, a1, a2, m32 (a3 + m32 (a7 + sm1 a4 + chs a4 a5 a6 + K64.getD i 0 + W.getD i 0)), a4, a5, a6] = _
      generalize sm1 a4 = p at u ⊢
      generalize chs a4 a5 a6 = q at v ⊢
      generalize sm0 a0 = r at x ⊢
      generalize maj a0 a1 a2 = z at y ⊢
      generalize K64.getD i 0 = kk at wk ⊢
      generalize W.getD i 0 = ww' at ww ⊢
      unfold W32 at u v x y wk ww w7 w3
      rw [wr (x := a7 + p + q + kk + ww' + (r + z)) (by omega) (by omega), wr (x := a3 + (a7 + p + q + kk + ww')) (by omega) (by omega), tmod_pos _ _ (by omega), tmod_pos _ _ (by omega)]
      unfold m32
      congr 1
      · omega
      · congr 4
        omega
    rw [hst] at ih
    exact ih
theorem refRound (st b : List Int) (hm : st.length ≤ 40) (hby : Byt b) (k : Nat) (hk : 120 ≤ k) : redoubtref10_Round.f k st b = some (if roundErr st b.length = 0 then addS st b else [], roundErr st b.length) := by
  unfold redoubtref10_Round.f
  rw [refWords b hby k (by omega), Option.bind_some]
  by_cases h : b.length = 64
  · rw [if_pos h, if_pos h]
    dsimp only
    rw [if_pos rfl, refState st (by omega) k (by omega), Option.bind_some]
    obtain ⟨j, rfl⟩ : ∃ j, k = j + 1 := ⟨k - 1, by omega⟩
    rw [redoubtref10_Round.j0]
    by_cases ho : st.length = 8 ∧ st.all okW = true
    · have e : roundErr st b.length = 0 := if_pos ⟨ho.1, h, ho.2⟩
      have hb8 : ((st.length : Int) == 8) = true := by rw [beq_iff_eq]; omega
      rw [e, if_pos rfl, ho.2, hb8, if_neg (by decide), refConstants, Option.bind_some, if_pos (by simp; omega), List.nil_append]
      exact refRound_l0 st (wordsS b) ho.1 (all32_of ho.2) (wordsL_len b 64) (wordsL_w hby 64) 64 (Nat.le_refl _) j (by omega)
    · have e : roundErr st b.length = 1 := if_neg (fun q => ho ⟨q.1, q.2.2⟩)
      have hb8 : (st.all okW && ((st.length : Int) == 8)) = false := by
        cases h1 : st.all okW
        · rfl
        · rw [Bool.true_and]
          exact beq_eq_false_iff_ne.mpr (fun q => ho ⟨by omega, h1⟩)
      rw [hb8, if_pos (by decide), e, if_neg (by decide)]
  · rw [if_neg h, if_neg h]
    dsimp only
    have e : roundErr st b.length = 1 := if_neg (fun q => h q.2.1)
    obtain ⟨j, rfl⟩ : ∃ j, k = j + 1 := ⟨k - 1, by omega⟩
    rw [if_neg (by decide), redoubtref10_Round.j0, if_pos rfl, e, if_neg (by decide)]
theorem refConstant (x : Int) : redoubtref10_Constant.f x = some (constS x) := by
  unfold redoubtref10_Constant.f constS
  by_cases h0 : x < 0
  · rw [if_pos h0, if_pos (.inl h0)]
  by_cases h1 : x > 71
  · rw [if_neg h0, if_pos h1, if_pos (.inr h1)]
  · have hl := K64_len
    rw [if_neg h0, if_neg h1, refConstants, Option.bind_some, if_pos (by omega), if_pos (by omega), if_neg (by omega)]
    rfl
theorem refInts_l (l : List Int) (hm : l.length ≤ 1000) : ∀ m, m ≤ l.length → ∀ k, m + 1 ≤ k → redoubtref10_Ints.l0 k l l ((l.length - m : Nat) : Int) = some true
  | 0, _, k, hk => by
    obtain ⟨j, rfl⟩ : ∃ j, k = j + 1 := ⟨k - 1, by omega⟩
    rw [redoubtref10_Ints.l0, if_neg (by omega)]
  | m + 1, hml, k, hk => by
    obtain ⟨j, rfl⟩ : ∃ j, k = j + 1 := ⟨k - 1, by omega⟩
    obtain ⟨i, hi⟩ : ∃ i, l.length - (m + 1) = i := ⟨_, rfl⟩
    rw [hi]
    have ei : wrap64 ((i : Int) + 1) = ((i + 1 : Nat) : Int) := by rw [wr (by omega) (by omega)]; omega
    have ih := refInts_l l hm m (by omega) j (by omega)
    rw [show l.length - m = i + 1 by omega] at ih
    rw [redoubtref10_Ints.l0, if_pos (by omega), if_pos (by omega), if_pos (by omega), if_pos rfl, ei]
    exact ih
theorem refInts (l : List Int) (hm : l.length ≤ 1000) (k : Nat) (hk : l.length + 1 ≤ k) : redoubtref10_Ints.f k l l = some true := by
  unfold redoubtref10_Ints.f
  rw [if_pos rfl]
  have h := refInts_l l hm l.length (Nat.le_refl _) k hk
  rw [Nat.sub_self] at h
  exact h
end Go.Proofs.YtaooibcihjkhfaaDoor

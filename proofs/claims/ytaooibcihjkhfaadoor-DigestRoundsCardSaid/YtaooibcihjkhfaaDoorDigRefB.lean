/- The reference's words and rounds, by the printed functions, are the plain ones. Conditions: each lemma's own. -/
import Derived.Test.YtaooibcihjkhfaaDoorDigRef
namespace Go.Proofs.YtaooibcihjkhfaaDoor
set_option linter.unusedSimpArgs false
set_option linter.unusedVariables false
open Go.RowKit Go.Proofs.YtaooibcihjkhfaaDoorW.PrintWords Go.Proofs.YtaooibcihjkhfaaDoor.PDigestRounds

theorem word4 {x y z v : Int} (hx : 0 ≤ x ∧ x ≤ 255) (hy : 0 ≤ y ∧ y ≤ 255) (hz : 0 ≤ z ∧ z ≤ 255) (hv : 0 ≤ v ∧ v ≤ 255) :
    wrap64 (wrap64 (wrap64 (wrap64 (16777216 * wrap64 x) + wrap64 (65536 * wrap64 y)) + wrap64 (256 * wrap64 z)) + wrap64 v) = 16777216 * x + 65536 * y + 256 * z + v := by
  rw [wr (x := x) (by omega) (by omega), wr (x := y) (by omega) (by omega), wr (x := z) (by omega) (by omega), wr (x := v) (by omega) (by omega)]
  rw [wr (x := 16777216 * x) (by omega) (by omega), wr (x := 65536 * y) (by omega) (by omega), wr (x := 256 * z) (by omega) (by omega)]
  rw [wr (x := 16777216 * x + 65536 * y) (by omega) (by omega), wr (x := 16777216 * x + 65536 * y + 256 * z) (by omega) (by omega), wr (by omega) (by omega)]
theorem word16 {p a q b : Int} (hp : W32 p) (ha : W32 a) (hq : W32 q) (hb : W32 b) :
    Int.tmod (wrap64 (wrap64 (wrap64 (p + Go.bits .xor .i64 (Go.bits .xor .i64 (rot a 7) (rot a 18)) (wrap64 (Int.tdiv a 8))) + q) + Go.bits .xor .i64 (Go.bits .xor .i64 (rot b 17) (rot b 19)) (wrap64 (Int.tdiv b 1024)))) 4294967296 = m32 (p + sg0 a + q + sg1 b) := by
  have r1 := rot_w ha 7 (by omega)
  have r2 := rot_w ha 18 (by omega)
  have s1 := rot_w hb 17 (by omega)
  have s2 := rot_w hb 19 (by omega)
  have d1 := shr_w ha 8 (by omega)
  have d2 := shr_w hb 1024 (by omega)
  rw [tdiv_pos _ _ ha.1, tdiv_pos _ _ hb.1, wr (x := a / 8) (by have := d1.1; omega) (by have := d1.2; omega), wr (x := b / 1024) (by have := d2.1; omega) (by have := d2.2; omega)]
  rw [x64 r1 r2, x64 (bx_w r1 r2) d1, x64 s1 s2, x64 (bx_w s1 s2) d2]
  change Int.tmod (wrap64 (wrap64 (wrap64 (p + sg0 a) + q) + sg1 b)) 4294967296 = _
  have h0 := sg0_w ha
  have h1 := sg1_w hb
  generalize sg0 a = u at h0 ⊢
  generalize sg1 b = v at h1 ⊢
  have hp1 := hp.1
  have hp2 := hp.2
  have hq1 := hq.1
  have hq2 := hq.2
  have hu1 := h0.1
  have hu2 := h0.2
  have hv1 := h1.1
  have hv2 := h1.2
  rw [wr (x := p + u) (by omega) (by omega), wr (x := p + u + q) (by omega) (by omega), wr (by omega) (by omega), tmod_pos _ _ (by omega)]
  rfl
theorem refWords_l (b : List Int) (hb : b.length = 64) (hby : Byt b) : ∀ m, m ≤ 64 → ∀ k, m + 31 ≤ k → redoubtref10_Words.l0 k b (wordsL b (64 - m)) ((64 - m : Nat) : Int) = some (wordsS b, 0)
  | 0, _, k, hk => by
    obtain ⟨j, rfl⟩ : ∃ j, k = j + 1 := ⟨k - 1, by omega⟩
    rw [redoubtref10_Words.l0, if_neg (by decide)]
    rfl
  | m + 1, hm, k, hk => by
    obtain ⟨j, rfl⟩ : ∃ j, k = j + 1 := ⟨k - 1, by omega⟩
    obtain ⟨i, hi⟩ : ∃ i, 64 - (m + 1) = i := ⟨_, rfl⟩
    have ih := refWords_l b hb hby m (by omega) j (by omega)
    rw [show 64 - m = i + 1 by omega, wordsL] at ih
    rw [hi]
    have hl := wordsL_len b i
    have hw := wordsL_w hby i
    have ei : wrap64 ((i : Int) + 1) = ((i + 1 : Nat) : Int) := by rw [wr (by omega) (by omega)]; omega
    rw [redoubtref10_Words.l0, if_pos (by omega)]
    by_cases h16 : i < 16
    · have e4 : wrap64 (4 * (i : Int)) = ((4 * i : Nat) : Int) := by rw [wr (by omega) (by omega)]; omega
      have e41 : wrap64 (((4 * i : Nat) : Int) + 1) = ((4 * i + 1 : Nat) : Int) := by rw [wr (by omega) (by omega)]; omega
      have e42 : wrap64 (((4 * i : Nat) : Int) + 2) = ((4 * i + 2 : Nat) : Int) := by rw [wr (by omega) (by omega)]; omega
      have e43 : wrap64 (((4 * i : Nat) : Int) + 3) = ((4 * i + 3 : Nat) : Int) := by rw [wr (by omega) (by omega)]; omega
      have hn : nextW b (wordsL b i) i = 16777216 * b.getD (4 * i) 0 + 65536 * b.getD (4 * i + 1) 0 + 256 * b.getD (4 * i + 2) 0 + b.getD (4 * i + 3) 0 := if_pos h16
      rw [if_pos (by omega), e4, e41, e42, e43, ei, rd_nat, rd_nat, rd_nat, rd_nat, word4 (byt_get hby _) (byt_get hby _) (byt_get hby _) (byt_get hby _), ← hn]
      rw [if_pos (by omega), if_pos (by omega), if_pos (by omega), if_pos (by omega), if_pos (by omega), if_pos (by omega), if_pos (by omega), if_pos (by omega), if_pos (by omega)]
      exact ih
    · have e15 : wrap64 ((i : Int) - 15) = ((i - 15 : Nat) : Int) := by rw [wr (by omega) (by omega)]; omega
      have e2 : wrap64 ((i : Int) - 2) = ((i - 2 : Nat) : Int) := by rw [wr (by omega) (by omega)]; omega
      have e16 : wrap64 ((i : Int) - 16) = ((i - 16 : Nat) : Int) := by rw [wr (by omega) (by omega)]; omega
      have e7 : wrap64 ((i : Int) - 7) = ((i - 7 : Nat) : Int) := by rw [wr (by omega) (by omega)]; omega
      have w15 := all32_get hw (i - 15)
      have w2 := all32_get hw (i - 2)
      have w16 := all32_get hw (i - 16)
      have w7 := all32_get hw (i - 7)
      have hn : nextW b (wordsL b i) i = m32 ((wordsL b i).getD (i - 16) 0 + sg0 ((wordsL b i).getD (i - 15) 0) + (wordsL b i).getD (i - 7) 0 + sg1 ((wordsL b i).getD (i - 2) 0)) := if_neg h16
      rw [if_neg (by omega), e15, e2, e16, e7, ei, rd_nat, rd_nat, rd_nat, rd_nat]
      rw [if_pos (by omega), if_pos (by omega), if_pos (by omega), if_pos (by omega)]
      rw [turn7 _ w15 j (by omega), Option.bind_some, turn18 _ w15 j (by omega), Option.bind_some, turn17 _ w2 j (by omega), Option.bind_some, turn19 _ w2 j (by omega), Option.bind_some]
      rw [if_pos (by omega), if_pos (by omega), if_pos (by omega), if_pos (by omega), if_pos (by omega), word16 w16 w15 w7 w2, ← hn]
      exact ih
theorem refWords (b : List Int) (hby : Byt b) (k : Nat) (hk : 95 ≤ k) : redoubtref10_Words.f k b = some (if b.length = 64 then wordsS b else [], if b.length = 64 then 0 else 1) := by
  unfold redoubtref10_Words.f
  by_cases h : b.length = 64
  · rw [if_pos (by omega), if_pos h, if_pos h]
    exact refWords_l b h hby 64 (by omega) k (by omega)
  · rw [if_neg (by omega), if_neg h, if_neg h]
end Go.Proofs.YtaooibcihjkhfaaDoor

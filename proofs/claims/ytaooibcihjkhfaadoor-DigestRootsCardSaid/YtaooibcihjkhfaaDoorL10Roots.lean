/- DigestRoots holds: each constant is the first bits behind the point of the root of its prime. Conditions: the constants are laid. -/
import Derived.Test.YtaooibcihjkhfaaDoorAwake10
import Derived.Test.YtaooibcihjkhfaaDoorRtAll
namespace Go.Proofs.YtaooibcihjkhfaaDoor
set_option linter.unusedSimpArgs false
set_option linter.unusedVariables false
open Go.RowKit Go.Proofs.YtaooibcihjkhfaaDoorW.PrintWords Go.Proofs.YtaooibcihjkhfaaDoor.PDigestRoots

/-- Does nothing from 2 on, below k, part p? -/
def noPart (p : Nat) : Nat → Bool
  | 0 => true
  | k + 1 => noPart p k && (decide (k < 2) || decide (p % k ≠ 0))
def isP (p : Nat) : Bool := noPart p p
def cntP : Nat → Nat
  | 0 => 0
  | 1 => 0
  | p + 2 => cntP (p + 1) + if isP (p + 2) then 1 else 0
theorem noPart_all : ∀ p, p < 312 → ∀ k, k < 20 → (2 ≤ p ∧ 2 ≤ k ∧ p < k * k ∧ (k = 2 ∨ (k - 1) * (k - 1) ≤ p)) → noPart p k = isP p := by decide +kernel
theorem prime_all : ∀ p, p < 311 → 1 ≤ p → cntP p ≤ 63 ∧ (isP (p + 1) = true → PL.getD (cntP p) 0 = p + 1) := by decide +kernel
theorem prime_311 : cntP 311 = 64 := by decide +kernel
theorem WL_all : ∀ a, a < 72 → 1 ≤ WL.getD a 0 ∧ WL.getD a 0 ≤ 6 := by decide +kernel
theorem PL_all : ∀ a, a < 64 → 2 ≤ PL.getD a 0 ∧ PL.getD a 0 ≤ 311 := by decide +kernel
theorem sq_bound {k : Nat} (h2 : 2 ≤ k) (h : k = 2 ∨ (k - 1) * (k - 1) ≤ 311) : k < 20 := by
  rcases h with h | h
  · omega
  · rcases Nat.lt_or_ge k 20 with q | q
    · exact q
    · have : 19 * 19 ≤ (k - 1) * (k - 1) := Nat.mul_le_mul (by omega) (by omega)
      omega

set_option maxHeartbeats 4000000 in
theorem DigestRoots_at (a : Nat) (w : World) (ha : a < 72) (hT : Tab w) :
    Calls Tryd.prog 4 #[.int .i64 (a : Int)] w fun e w' => e = .returned (.bool true) ∧ Below w.heap.size w w' := by
  have d0 : decide ((a : Int) < 0) = false := decide_eq_false (by omega)
  have d1 : decide ((71 : Int) < (a : Int)) = false := decide_eq_false (by omega)
  obtain ⟨m, hm⟩ : ∃ m, a % 64 = m := ⟨_, rfl⟩
  have t1 : Int.tmod (a : Int) 64 = (m : Int) := by rw [Int.tmod_eq_emod_of_nonneg (by omega)]; omega
  have t1' : (a : Int) % 64 = (m : Int) := by omega
  have hm64 : m < 64 := by omega
  have hpl := PL_all m hm64
  have hB := Lib.hid (Below.refl w.heap.size w)
  replace hm := Lib.hid hm
  go_enter Tryd.func4, Tryd.ntmps4
  go_wp2
  go_loop [3, 4] (fun vp vi => ∃ (p i : Nat), vp = .int .i64 (p : Int) ∧ vi = .int .i64 (i : Int) ∧ Hid (1 ≤ p ∧ p ≤ 311) ∧ Hid ((i ≤ m ∧ i = cntP p ∧ p < 311) ∨ (i = m + 1 ∧ p = PL.getD m 0))) (fun vp _ => (400 - intOf vp).toNat)
  case atStart => exact ⟨1, 0, rfl, rfl, Lib.hid (by omega), Lib.hid (.inl ⟨by omega, rfl, by omega⟩)⟩
  case round =>
    obtain ⟨p, i, rfl, rfl, hp, hI⟩ := hrel
    by_cases h0 : i ≤ m
    · have i0 : (i : Int) ≤ (m : Int) := by omega
      have hI2 : i = cntP p ∧ p < 311 := by rcases hI.out with h | h; exact h.2; omega
      have e1 : IntKind.i64.wrap ((p : Int) + 1) = ((p + 1 : Nat) : Int) := by have := hp.out; rw [IntWalk.i64_in _ (by omega)]; omega
      have hpa := prime_all p hI2.2 hp.out.1
      have hcn : cntP (p + 1) = cntP p + if isP (p + 1) then 1 else 0 := by
        obtain ⟨r, rfl⟩ : ∃ r, p = r + 1 := ⟨p - 1, by have := hp.out; omega⟩
        rfl
      obtain ⟨P, hP⟩ : ∃ P, p + 1 = P := ⟨_, rfl⟩
      rw [hP] at e1 hpa hcn
      have hPb : 2 ≤ P ∧ P ≤ 311 := by have := hp.out; omega
      replace hI2 := Lib.hid hI2
      replace hpa := Lib.hid hpa
      replace hcn := Lib.hid hcn
      replace hP := Lib.hid hP
      replace hPb := Lib.hid hPb
      clear hI
      go_wp2
      go_loop [6, 5] (fun vk vb => ∃ (k : Nat), vk = .int .i64 (k : Int) ∧ vb = .bool (noPart P k) ∧ Hid (2 ≤ k) ∧ Hid (k = 2 ∨ (k - 1) * (k - 1) ≤ P)) (fun vk _ => (400 - intOf vk).toNat)
      case atStart => exact ⟨2, rfl, rfl, Lib.hid (by omega), Lib.hid (.inl rfl)⟩
      case round =>
        obtain ⟨k, rfl, rfl, hk, hk2⟩ := hrel
        have hk20 : k < 20 := sq_bound hk.out (by have := hk2.out; have := hPb.out; omega)
        obtain ⟨kk, hkk⟩ : ∃ kk, k * k = kk := ⟨_, rfl⟩
        have hkk4 : kk ≤ 400 := by rw [← hkk]; exact Nat.mul_le_mul (by omega : k ≤ 20) (by omega : k ≤ 20)
        have e2 : IntKind.i64.wrap ((k : Int) * (k : Int)) = (kk : Int) := by
          rw [show (k : Int) * (k : Int) = (kk : Int) by rw [← hkk]; simp]
          exact IntWalk.i64_in _ (by omega)
        by_cases hle : kk ≤ P
        · have l1 : decide ((kk : Int) ≤ (P : Int)) = true := decide_eq_true (by omega)
          have e3 : IntKind.i64.wrap ((k : Int) + 1) = ((k + 1 : Nat) : Int) := by rw [IntWalk.i64_in _ (by omega)]; omega
          have hnp : noPart P (k + 1) = (noPart P k && decide (P % k ≠ 0)) := by
            rw [noPart, decide_eq_false (by have := hk.out; omega : ¬ k < 2), Bool.false_or]
          have hk3 : Hid (k + 1 = 2 ∨ (k + 1 - 1) * (k + 1 - 1) ≤ P) := Lib.hid (.inr (by rw [Nat.add_sub_cancel, hkk]; exact hle))
          have hk4 : Hid (2 ≤ k + 1) := Lib.hid (by have := hk.out; omega)
          have z1 : ((k : Int) == 0) = false := beq_eq_false_iff_ne.mpr (by have := hk.out; omega)
          have z2 : ¬ (k : Int) = 0 := by have := hk.out; omega
          have t2 : Int.tmod (P : Int) (k : Int) = ((P % k : Nat) : Int) := by rw [Int.tmod_eq_emod_of_nonneg (by omega)]; simp
          have t3 : (P : Int) % (k : Int) = ((P % k : Nat) : Int) := by simp
          obtain ⟨r, hr⟩ : ∃ r, P % k = r := ⟨_, rfl⟩
          rw [hr] at hnp t2 t3
          replace hkk := Lib.hid hkk
          replace hr := Lib.hid hr
          cases hb : noPart P k
          · rw [hb, Bool.false_and] at hnp
            replace hnp := Lib.hid hnp
            clear hb
            go_wp2
            exact ⟨⟨k + 1, by go_num, by rw [hnp.out], hk4, hk3⟩, by simp [intOf]; omega⟩
          · rw [hb, Bool.true_and] at hnp
            by_cases h00 : r = 0
            · have n1 : ((r : Int) != 0) = false := by rw [h00]; rfl
              have hnp' : Hid (noPart P (k + 1) = false) := Lib.hid (by rw [hnp]; exact decide_eq_false (fun q => q h00))
              replace h00 := Lib.hid h00
              clear hb hnp
              go_wp2
              exact ⟨⟨k + 1, by go_num, by rw [hnp'.out], hk4, hk3⟩, by simp [intOf]; omega⟩
            · have n1 : ((r : Int) != 0) = true := bne_iff_ne.mpr (by omega)
              have hnp' : Hid (noPart P (k + 1) = true) := Lib.hid (by rw [hnp]; exact decide_eq_true h00)
              replace h00 := Lib.hid h00
              clear hb hnp
              go_wp2
              exact ⟨⟨k + 1, by go_num, by rw [hnp'.out], hk4, hk3⟩, by simp [intOf]; omega⟩
        · have l1 : decide ((kk : Int) ≤ (P : Int)) = false := decide_eq_false (by omega)
          have hPI := noPart_all P (by have := hPb.out; omega) k hk20 ⟨hPb.out.1, hk.out, by rw [hkk]; omega, hk2.out⟩
          rw [hPI]
          have e4 : IntKind.i64.wrap ((i : Int) + 1) = ((i + 1 : Nat) : Int) := by have := hI2.out; rw [IntWalk.i64_in _ (by omega)]; omega
          have hpp : Hid (1 ≤ P ∧ P ≤ 311) := Lib.hid (by have := hPb.out; omega)
          have hmeas : Hid (p + 1 = P) := hP
          replace hkk := Lib.hid hkk
          clear hPI
          cases hb : isP P
          · have hJ : Hid ((i ≤ m ∧ i = cntP P ∧ P < 311) ∨ (i = m + 1 ∧ P = PL.getD m 0)) := Lib.hid (.inl (by
              have h1 := hcn.out
              rw [hb] at h1
              have h2 := hI2.out
              have h3 : P < 311 := by
                rcases Nat.lt_or_ge P 311 with q | q
                · exact q
                · have e311 : P = 311 := by have := hPb.out; omega
                  rw [e311, prime_311] at h1
                  simp at h1
                  omega
              simp at h1
              exact ⟨h0, by omega, h3⟩))
            clear hb
            go_wp2
            exact ⟨⟨P, i, by go_num, rfl, hpp, hJ⟩, by have := hmeas.out; have := hPb.out; simp [intOf]; omega⟩
          · have hJ : Hid ((i + 1 ≤ m ∧ i + 1 = cntP P ∧ P < 311) ∨ (i + 1 = m + 1 ∧ P = PL.getD m 0)) := Lib.hid (by
              have h1 := hcn.out
              rw [hb, if_pos rfl] at h1
              have h2 := hI2.out
              have h4 := hpa.out
              by_cases him : i = m
              · right
                refine ⟨by omega, ?_⟩
                rw [← him, h2.1]
                exact (h4.2 hb).symm
              · left
                have h3 : P < 311 := by
                  rcases Nat.lt_or_ge P 311 with q | q
                  · exact q
                  · have e311 : P = 311 := by have := hPb.out; omega
                    rw [e311, prime_311] at h1
                    omega
                exact ⟨by omega, by omega, h3⟩)
            clear hb
            go_wp2
            exact ⟨⟨P, i + 1, by go_num, by go_num, hpp, hJ⟩, by have := hmeas.out; have := hPb.out; simp [intOf]; omega⟩
    · have hI2 : p = PL.getD m 0 := by rcases hI.out with h | h; exact absurd h.1 h0; exact h.2
      have l0 : decide ((i : Int) ≤ (m : Int)) = false := decide_eq_false (by omega)
      have hW := WL_all a ha
      have hc : constS (a : Int) = K64.getD a 0 := by unfold constS; rw [if_neg (by omega)]; rfl
      have hcw := all32_get K64_w a
      have hroot := fun v h1 h2 => root_all a v ha h1 h2
      have hpa : (PL.getD (a % 64) 0) = p := by rw [hm.out, hI2]
      rw [hpa] at hroot
      obtain ⟨b64, hb64⟩ : ∃ b, decide (a < 64) = b := ⟨_, rfl⟩
      have l64 : decide ((a : Int) < 64) = b64 := by rw [← hb64]; exact decide_eq_decide.2 (by omega)
      rw [hb64] at hroot
      generalize K64.getD a 0 = c at hc hcw hroot
      have c1 : decide (c < 0) = false := decide_eq_false (by have := hcw.1; omega)
      have c2 : decide (4294967295 < c) = false := decide_eq_false (by have := hcw.2; omega)
      generalize WL.getD a 0 = W at hW hroot
      replace hroot := Lib.hid hroot
      replace hW := Lib.hid hW
      replace hI2 := Lib.hid hI2
      replace hb64 := Lib.hid hb64
      replace hpa := Lib.hid hpa
      clear hI hcw
      go_wp2_with fail
      refine (dig_Constant (a : Int) _ hT).mono ?_
      rintro e w' ⟨rfl, rfl⟩
      rw [hc]
      replace hc := Lib.hid hc
      go_wp2
      go_loopw [8] (fun vv wr => ∃ (v : Nat), vv = .int .i64 (v : Int) ∧ 1 ≤ v ∧ Hid (v ≤ W) ∧ Hid (Below w.heap.size w wr)) (fun vv _ => (40 - intOf vv).toNat)
      case atStart => exact ⟨1, rfl, by omega, Lib.hid hW.out.1, hB⟩
      case round =>
        clear hB
        obtain ⟨v, rfl, h1, hv, hB⟩ := hrel
        have v20 : decide ((v : Int) < 20) = true := decide_eq_true (by have := hW.out; have := hv.out; omega)
        have hr := hroot.out v h1 hv.out
        have hrc := Lib.hid (redoubtlaw10_root.calls 100 (v : Int) c (p : Int) b64 _ wr hr)
        clear hr
        go_wp2_with fail
        refine hrc.out.mono ?_
        rintro e w2 ⟨rfl, hB2⟩
        replace hB := Lib.hid (below_step2 hB.out hB2)
        clear hB2 hrc
        by_cases hvW : v = W
        · rw [decide_eq_true hvW]
          have hT2 := hT.below hB.out
          go_wp2_with fail
          refine (awake10 w2 hT2).mono ?_
          rintro e w3 ⟨rfl, hB3⟩
          replace hB := Lib.hid (below_step2 hB.out hB3)
          clear hB3 hT2
          go_wp2
          go_ret
          exact ⟨rfl, hB.out⟩
        · rw [decide_eq_false hvW]
          have e5 : IntKind.i64.wrap ((v : Int) + 1) = ((v + 1 : Nat) : Int) := by have := hW.out; have := hv.out; rw [IntWalk.i64_in _ (by omega)]; omega
          have hv2 : Hid (v + 1 ≤ W) := Lib.hid (by have := hv.out; omega)
          have hv3 : Hid (v ≤ 6) := Lib.hid (by have := hv.out; have := hW.out; omega)
          replace hvW := Lib.hid hvW
          go_wp2
          exact ⟨⟨v + 1, by go_num, by omega, hv2, hB⟩, by have := hv3.out; simp [intOf]; omega⟩

set_option maxHeartbeats 1000000 in
theorem DigestRoots_any (x : Int) (w : World) (hT : Tab w) (_hx : I64 x) :
    Calls Tryd.prog 4 #[.int .i64 x] w fun e w' => e = .returned (.bool true) ∧ Below w.heap.size w w' := by
  by_cases h0 : x < 0
  · have d0 : decide (x < 0) = true := decide_eq_true h0
    have ec : constS x = 0 := if_pos (.inl h0)
    go_enter Tryd.func4, Tryd.ntmps4
    go_wp2_with fail
    refine (awake10 w hT).mono ?_
    rintro e w2 ⟨rfl, hB2⟩
    go_wp2_with fail
    refine (dig_Constant x _ (hT.below hB2)).mono ?_
    rintro e w' ⟨rfl, rfl⟩
    rw [ec]
    go_wp2
    go_ret
    exact ⟨rfl, hB2⟩
  by_cases h1 : 71 < x
  · have d0 : decide (x < 0) = false := decide_eq_false h0
    have d1 : decide (71 < x) = true := decide_eq_true h1
    have ec : constS x = 0 := if_pos (.inr h1)
    go_enter Tryd.func4, Tryd.ntmps4
    go_wp2_with fail
    refine (awake10 w hT).mono ?_
    rintro e w2 ⟨rfl, hB2⟩
    go_wp2_with fail
    refine (dig_Constant x _ (hT.below hB2)).mono ?_
    rintro e w' ⟨rfl, rfl⟩
    rw [ec]
    go_wp2
    go_ret
    exact ⟨rfl, hB2⟩
  · obtain ⟨a, rfl⟩ := Int.eq_ofNat_of_zero_le (show 0 ≤ x by omega)
    exact DigestRoots_at a w (by omega) hT
end Go.Proofs.YtaooibcihjkhfaaDoor

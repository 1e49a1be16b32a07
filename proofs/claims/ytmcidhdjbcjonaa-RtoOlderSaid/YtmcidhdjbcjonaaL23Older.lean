/- RtoOlder holds: a sample turns the smoothed time toward it, and not beyond. Conditions: none beside the row's own reach. -/
import Derived.Test.YtmcidhdjbcjonaaAwake23
import Derived.Test.YtmcidhdjbcjonaaInts
namespace Go.Proofs.Ytmcidhdjbcjonaa
open Go.RowKit Go.Proofs.YtmcidhdjbcjonaaW.PrintWords

attribute [local go_sem ↓] max_word min_word
set_option maxHeartbeats 8000000 in
theorem RtoOlder_any (A : Option Addr) (n c : Nat) (xs : List Int) (m : Int) (w : World) (h : Its w A n c xs) (_hm : I64 m) :
    Calls Try.prog 7 #[.slice A n c, .int .i64 m] w fun e w' => e = .returned (.bool true) ∧ Below w.heap.size w w' := by
  by_cases q : 100 < n
  · go_enter Try.func7, Try.ntmps7
    go_wp2
    go_ret
    exact ⟨rfl, Below.refl _ _⟩
  have d : decide ((100 : Int) < (n : Int)) = false := decide_eq_false (by omega)
  by_cases q1 : n = 0
  · have d1 : ((n : Int) == 0) = true := beq_iff_eq.mpr (by omega)
    clear q1
    go_enter Try.func7, Try.ntmps7
    go_wp2
    go_ret
    exact ⟨rfl, Below.refl _ _⟩
  have d1 : ((n : Int) == 0) = false := beq_eq_false_iff_ne.mpr (by omega)
  by_cases q2 : m < 0
  · go_enter Try.func7, Try.ntmps7
    go_wp2
    go_ret
    exact ⟨rfl, Below.refl _ _⟩
  have d2 : decide (m < 0) = false := decide_eq_false q2
  by_cases q3 : 1000000 < m
  · go_enter Try.func7, Try.ntmps7
    go_wp2
    go_ret
    exact ⟨rfl, Below.refl _ _⟩
  have d3 : decide (1000000 < m) = false := decide_eq_false q3
  go_enter Try.func7, Try.ntmps7
  go_wp2_with fail
  refine (rto_New _).mono ?_
  rintro e w1 ⟨rfl, t1, hB⟩
  go_wp2
  go_loopw [6] (fun vi wr => ∃ (k : Nat) (t : St), k ≤ n ∧ vi = .int .i64 k ∧ Hid (Tm wr w.heap.size t) ∧ Hid (t.ok ∧ (0 < k → t.k = true)) ∧ Hid (Below w.heap.size w wr)) (fun vi _ => n - (intOf vi).toNat)
  case atStart => exact ⟨0, St.new, by omega, rfl, t1, Lib.hid ⟨St.ok_new, fun h => absurd h (by decide)⟩, hB⟩
  case round =>
    clear t1 hB
    obtain ⟨k, t, hk, rfl, ht, hok, hB⟩ := hrel
    replace hB := hB.out
    replace ht := ht.out
    obtain ⟨hok, hkk⟩ := hok.out
    by_cases hlt : k < n
    · have hr := h.below hB
      obtain ⟨ad, rfl, c0⟩ := hr.at_ k hlt
      have hI := hr.get k hlt
      generalize xs.getD k 0 = x at c0 hI
      clear hkk
      by_cases h0 : x < 0
      · go_wp2
        go_ret
        exact ⟨rfl, hB⟩
      have x0 : decide (x < 0) = false := decide_eq_false h0
      by_cases h1 : 1000000 < x
      · go_wp2
        go_ret
        exact ⟨rfl, hB⟩
      have x1 : decide (1000000 < x) = false := decide_eq_false h1
      go_wp2_with fail
      refine (rto_Sample _ _ _ _ ht hok (by omega) (by omega)).mono ?_
      rintro e w2 ⟨rfl, t2, hg⟩
      replace hB := below_grown hB hB.size hg (Nat.le_refl _)
      have T2 := Lib.hid t2
      have HB := Lib.hid hB
      have HK := Lib.hid (And.intro (St.ok_sample hok x (by omega) (by omega)) (fun _ : 0 < k + 1 => show (t.sample x).k = true by unfold St.sample; split <;> rfl))
      clear hg ht hok c0 hr x0 x1 t2 hB
      go_wp2
      exact ⟨⟨k + 1, t.sample x, by omega, by go_num, T2, HK, HB⟩, by simp [intOf]; omega⟩
    · have y2 : decide ((k : Int) < (n : Int)) = false := decide_eq_false (by omega)
      have y3 : decide (k < n) = false := decide_eq_false (by omega)
      have hkt := hkk (by omega)
      clear hkk
      go_wp2_with fail
      refine (rto_Smooth _ _ _ ht).mono ?_
      rintro e w' ⟨rfl, nq, rfl⟩
      replace ht := ht.drewN nq
      replace hB := pw_below_drewN hB nq
      generalize wr.drewN nq = w2 at ht hB ⊢
      go_wp2_with fail
      refine (rto_Sample _ _ _ _ ht hok (by omega) (by omega)).mono ?_
      rintro e w3 ⟨rfl, t3, hg⟩
      replace hB := below_grown hB hB.size hg (Nat.le_refl _)
      clear hg ht
      go_wp2_with fail
      refine (rto_Smooth _ _ _ t3).mono ?_
      rintro e w' ⟨rfl, nq, rfl⟩
      replace hB := pw_below_drewN hB nq
      generalize w3.drewN nq = w4 at hB ⊢
      have hok3 := St.ok_sample hok m (by omega) (by omega)
      have hs : Hid ((t.sample m).s = t.s + (m - t.s / 8)) := Lib.hid (by unfold St.sample; rw [if_pos hkt])
      clear hkt t3
      unfold St.ok at hok hok3
      rw [hs.out] at hok3
      rw [hs.out]
      clear hs
      generalize (t.sample m).v = x1 at hok3 ⊢
      generalize t.s = s at hok hok3 ⊢
      generalize t.v = v at hok hok3 ⊢
      have z1 : decide (v < 0) = false := decide_eq_false (by omega)
      have z2 : decide (x1 < 0) = false := decide_eq_false (by omega)
      have z3 : decide (s < 0) = false := decide_eq_false (by omega)
      have z0 : decide (s + (m - s / 8) < 0) = false := decide_eq_false (by omega)
      by_cases c1 : s / 8 ≤ m
      · have z4 : decide (s / 8 ≤ m) = true := decide_eq_true c1
        have z5 : decide (s ≤ s + (m - s / 8)) = true := decide_eq_true (by omega)
        have z6 : decide (s + (m - s / 8) ≤ mxx (8 * m) s) = true := decide_eq_true (by unfold mxx; split <;> omega)
        go_wp2_with fail
        refine (awake23 _).mono ?_
        rintro e w5 ⟨rfl, hB2⟩
        replace hB2 := below_step2 (w := w4) (by repeat (first | exact Below.refl _ _ | apply below_alloc | apply below_drew | apply pw_below_drewN)) hB2
        replace hB := below_step2 hB hB2
        clear hB2
        go_wp2
        go_ret
        exact ⟨rfl, hB⟩
      · have z4 : decide (s / 8 ≤ m) = false := decide_eq_false c1
        have z5 : decide (m ≤ s / 8) = true := decide_eq_true (by omega)
        have z6 : decide (s + (m - s / 8) ≤ s) = true := decide_eq_true (by omega)
        have z7 : decide (mnn (8 * m) s ≤ s + (m - s / 8)) = true := decide_eq_true (by unfold mnn; split <;> omega)
        go_wp2_with fail
        refine (awake23 _).mono ?_
        rintro e w5 ⟨rfl, hB2⟩
        replace hB2 := below_step2 (w := w4) (by repeat (first | exact Below.refl _ _ | apply below_alloc | apply below_drew | apply pw_below_drewN)) hB2
        replace hB := below_step2 hB hB2
        clear hB2
        go_wp2
        go_ret
        exact ⟨rfl, hB⟩
end Go.Proofs.Ytmcidhdjbcjonaa

/- RtoNil holds: a timer that is nil answers ErrNil; a sample that may not be is refused, and turns nothing. Conditions: none beside the row's own reach. -/
import Derived.Test.YtmcidhdjbcjonaaAwake23
namespace Go.Proofs.Ytmcidhdjbcjonaa
open Go.RowKit Go.Proofs.YtmcidhdjbcjonaaW.PrintWords

set_option maxHeartbeats 4000000 in
theorem RtoNil_any (n : Int) (w : World) (_hn : I64 n) :
    Calls Try.prog 6 #[.int .i64 n] w fun e w' => e = .returned (.bool true) ∧ Below w.heap.size w w' := by
  by_cases h : n < 0 ∨ 1000000 < n
  · have d : decide (0 ≤ n) = false ∨ (decide (0 ≤ n) = true ∧ decide (n ≤ 1000000) = false) := by
      rcases h with h | h
      · exact .inl (decide_eq_false (by omega))
      · exact .inr ⟨decide_eq_true (by omega), decide_eq_false (by omega)⟩
    rcases d with d | ⟨d, d'⟩
    all_goals
      go_enter Try.func6, Try.ntmps6
      go_wp2_with fail
      refine (rto_Smooth_nil _).mono ?_
      rintro e w' ⟨rfl, rfl⟩
      go_wp2_with fail
      refine (rto_New _).mono ?_
      rintro e w1 ⟨rfl, t1, hB⟩
      go_wp2_with fail
      refine (rto_Sample_bad _ _ _ h).mono ?_
      rintro e w' ⟨rfl, rfl⟩
      go_wp2_with fail
      refine (rto_Smooth _ _ _ t1).mono ?_
      rintro e w' ⟨rfl, nq, rfl⟩
      replace t1 := t1.drewN nq
      replace hB := pw_below_drewN hB nq
      generalize w1.drewN nq = w2 at t1 hB ⊢
      rw [show St.new.s = 0 from rfl, show St.new.v = 0 from rfl]
      go_wp2_with fail
      refine (awake23 _).mono ?_
      rintro e w3 ⟨rfl, hB2⟩
      replace hB2 := below_step2 (w := w2) (by repeat (first | exact Below.refl _ _ | apply below_alloc | apply below_drew | apply pw_below_drewN)) hB2
      replace t1 := t1.below hB2
      replace hB := below_step2 hB hB2
      clear hB2
      go_wp2_with fail
      refine (rto_Sample_nil _ _).mono ?_
      rintro e w' ⟨rfl, rfl⟩
      go_wp2_with fail
      refine (rto_Back_nil _).mono ?_
      rintro e w' ⟨rfl, rfl⟩
      go_wp2_with fail
      refine (rto_Value_nil _).mono ?_
      rintro e w' ⟨rfl, rfl⟩
      go_wp2_with fail
      refine (rto_Value _ _ _ t1 St.ok_new (by decide)).mono ?_
      rintro e w' ⟨rfl, nq, rfl⟩
      replace hB := pw_below_drewN hB nq
      generalize w3.drewN nq = w4 at hB ⊢
      rw [show St.new.value = 100 from rfl]
      go_wp2
      go_ret
      exact ⟨rfl, hB⟩
  · have d : decide (0 ≤ n) = true := decide_eq_true (by omega)
    have d' : decide (n ≤ 1000000) = true := decide_eq_true (by omega)
    go_enter Try.func6, Try.ntmps6
    go_wp2_with fail
    refine (rto_Smooth_nil _).mono ?_
    rintro e w' ⟨rfl, rfl⟩
    go_wp2_with fail
    refine (rto_New _).mono ?_
    rintro e w1 ⟨rfl, t1, hB⟩
    go_wp2_with fail
    refine (rto_Sample _ _ _ _ t1 St.ok_new (by omega) (by omega)).mono ?_
    rintro e w2 ⟨rfl, t2, hg⟩
    replace hB := below_grown hB hB.size hg (Nat.le_refl _)
    clear hg t1
    go_wp2_with fail
    refine (awake23 _).mono ?_
    rintro e w3 ⟨rfl, hB2⟩
    replace hB2 := below_step2 (w := w2) (by repeat (first | exact Below.refl _ _ | apply below_alloc | apply below_drew | apply pw_below_drewN)) hB2
    replace hB := below_step2 hB hB2
    clear hB2
    go_wp2
    go_ret
    exact ⟨rfl, hB⟩
end Go.Proofs.Ytmcidhdjbcjonaa

/- RtoBounds holds: the value is 100 to 6000, and once backed off it is twice what it was, or the greatest. Conditions: none beside the row's own reach. -/
import Derived.Test.YtmcidhdjbcjonaaAwake23
import Derived.Test.YtmcidhdjbcjonaaInts
namespace Go.Proofs.Ytmcidhdjbcjonaa
open Go.RowKit Go.Proofs.YtmcidhdjbcjonaaW.PrintWords

theorem dbl_mnn (x : Int) : dbl x = mnn (2 * x) 6000 := rfl

attribute [local go_sem ↓] max_word min_word
set_option maxHeartbeats 8000000 in
theorem RtoBounds_any (A : Option Addr) (n c : Nat) (xs : List Int) (w : World) (h : Its w A n c xs) :
    Calls Try.prog 4 #[.slice A n c] w fun e w' => e = .returned (.bool true) ∧ Below w.heap.size w w' := by
  by_cases q : 300 < n
  · go_enter Try.func4, Try.ntmps4
    go_wp2
    go_ret
    exact ⟨rfl, Below.refl _ _⟩
  have d : decide ((300 : Int) < (n : Int)) = false := decide_eq_false (by omega)
  go_enter Try.func4, Try.ntmps4
  go_wp2_with fail
  refine (rto_New _).mono ?_
  rintro e w1 ⟨rfl, t1, hB⟩
  go_wp2
  go_loopw [4] (fun vi wr => ∃ (k : Nat) (t : St), k ≤ n ∧ vi = .int .i64 k ∧ Hid (Tm wr w.heap.size t) ∧ Hid (t.ok ∧ t.b ≤ 2 * k) ∧ Hid (Below w.heap.size w wr)) (fun vi _ => n - (intOf vi).toNat)
  case atStart => exact ⟨0, St.new, by omega, rfl, t1, Lib.hid ⟨St.ok_new, by decide⟩, hB⟩
  case round =>
    clear t1 hB
    obtain ⟨k, t, hk, rfl, ht, hok, hB⟩ := hrel
    replace hB := hB.out
    replace ht := ht.out
    obtain ⟨hok, hb⟩ := hok.out
    by_cases hlt : k < n
    · have hr := h.below hB
      obtain ⟨ad, rfl, c0⟩ := hr.at_ k hlt
      have hI := hr.get k hlt
      generalize xs.getD k 0 = x at c0 hI
      -- behind the sample or the backoff: a state t' that may be
      by_cases h0 : 0 ≤ x
      · have x0 : decide (0 ≤ x) = true := decide_eq_true h0
        by_cases h1 : x ≤ 1000000
        · go_wp2_with fail
          refine (rto_Sample _ _ _ _ ht hok h0 h1).mono ?_
          rintro e w2 ⟨rfl, t2, hg⟩
          replace hB := below_grown hB hB.size hg (Nat.le_refl _)
          have hok2 := St.ok_sample hok x h0 h1
          have hb2 : (t.sample x).b ≤ 2 * k := by unfold St.sample; split <;> simp
          clear hg ht hok hb c0 hr x0
          generalize t.sample x = s2 at t2 hok2 hb2
          go_wp2_with fail
          refine (rto_Value _ _ _ t2 hok2 (by omega)).mono ?_
          rintro e w' ⟨rfl, nq, rfl⟩
          replace t2 := t2.drewN nq
          replace hB := pw_below_drewN hB nq
          generalize w2.drewN nq = w3 at t2 hB ⊢
          go_wp2_with fail
          refine (rto_Back _ _ _ t2 (by omega)).mono ?_
          rintro e w4 ⟨rfl, t4, hg⟩
          replace hB := below_grown hB hB.size hg (Nat.le_refl _)
          clear hg t2
          go_wp2_with fail
          refine (rto_Value _ _ _ t4 (St.ok_back hok2) (by simp [St.back]; omega)).mono ?_
          rintro e w' ⟨rfl, nq, rfl⟩
          replace t4 := t4.drewN nq
          replace hB := pw_below_drewN hB nq
          generalize w4.drewN nq = w5 at t4 hB ⊢
          rw [St.value_back, dbl_mnn]
          have hv := s2.value_bd
          have T4 := Lib.hid t4
          have HB := Lib.hid hB
          clear t4 hB
          generalize s2.value = V at hv ⊢
          have y1 : decide (V < 100) = false := decide_eq_false (by omega)
          have y2 : decide (6000 < V) = false := decide_eq_false (by omega)
          go_wp2
          exact ⟨⟨k + 1, s2.back, by omega, by go_num, T4, Lib.hid ⟨St.ok_back hok2, by simp [St.back]; omega⟩, HB⟩, by simp [intOf]; omega⟩
        · go_wp2_with fail
          refine (rto_Sample_bad _ _ _ (by omega)).mono ?_
          rintro e w' ⟨rfl, rfl⟩
          obtain ⟨s2, hs2⟩ : ∃ s2, t = s2 := ⟨_, rfl⟩
          rw [hs2] at ht hok hb
          clear hs2 c0 hr x0
          have t2 := ht
          have hok2 := hok
          have hb2 := hb
          clear ht hok hb
          go_wp2_with fail
          refine (rto_Value _ _ _ t2 hok2 (by omega)).mono ?_
          rintro e w' ⟨rfl, nq, rfl⟩
          replace t2 := t2.drewN nq
          replace hB := pw_below_drewN hB nq
          generalize wr.drewN nq = w3 at t2 hB ⊢
          go_wp2_with fail
          refine (rto_Back _ _ _ t2 (by omega)).mono ?_
          rintro e w4 ⟨rfl, t4, hg⟩
          replace hB := below_grown hB hB.size hg (Nat.le_refl _)
          clear hg t2
          go_wp2_with fail
          refine (rto_Value _ _ _ t4 (St.ok_back hok2) (by simp [St.back]; omega)).mono ?_
          rintro e w' ⟨rfl, nq, rfl⟩
          replace t4 := t4.drewN nq
          replace hB := pw_below_drewN hB nq
          generalize w4.drewN nq = w5 at t4 hB ⊢
          rw [St.value_back, dbl_mnn]
          have hv := s2.value_bd
          have T4 := Lib.hid t4
          have HB := Lib.hid hB
          clear t4 hB
          generalize s2.value = V at hv ⊢
          have y1 : decide (V < 100) = false := decide_eq_false (by omega)
          have y2 : decide (6000 < V) = false := decide_eq_false (by omega)
          go_wp2
          exact ⟨⟨k + 1, s2.back, by omega, by go_num, T4, Lib.hid ⟨St.ok_back hok2, by simp [St.back]; omega⟩, HB⟩, by simp [intOf]; omega⟩
      · have x0 : decide (0 ≤ x) = false := decide_eq_false h0
        go_wp2_with fail
        refine (rto_Back _ _ _ ht (by omega)).mono ?_
        rintro e w2 ⟨rfl, t2, hg⟩
        replace hB := below_grown hB hB.size hg (Nat.le_refl _)
        have hok2 := St.ok_back hok
        have hb2 : t.back.b ≤ 2 * k + 1 := by simp [St.back]; omega
        clear hg ht hok hb c0 hr x0
        generalize t.back = s2 at t2 hok2 hb2
        go_wp2_with fail
        refine (rto_Value _ _ _ t2 hok2 (by omega)).mono ?_
        rintro e w' ⟨rfl, nq, rfl⟩
        replace t2 := t2.drewN nq
        replace hB := pw_below_drewN hB nq
        generalize w2.drewN nq = w3 at t2 hB ⊢
        go_wp2_with fail
        refine (rto_Back _ _ _ t2 (by omega)).mono ?_
        rintro e w4 ⟨rfl, t4, hg⟩
        replace hB := below_grown hB hB.size hg (Nat.le_refl _)
        clear hg t2
        go_wp2_with fail
        refine (rto_Value _ _ _ t4 (St.ok_back hok2) (by simp [St.back]; omega)).mono ?_
        rintro e w' ⟨rfl, nq, rfl⟩
        replace t4 := t4.drewN nq
        replace hB := pw_below_drewN hB nq
        generalize w4.drewN nq = w5 at t4 hB ⊢
        rw [St.value_back, dbl_mnn]
        have hv := s2.value_bd
        have T4 := Lib.hid t4
        have HB := Lib.hid hB
        clear t4 hB
        generalize s2.value = V at hv ⊢
        have y1 : decide (V < 100) = false := decide_eq_false (by omega)
        have y2 : decide (6000 < V) = false := decide_eq_false (by omega)
        go_wp2
        exact ⟨⟨k + 1, s2.back, by omega, by go_num, T4, Lib.hid ⟨St.ok_back hok2, by simp [St.back]; omega⟩, HB⟩, by simp [intOf]; omega⟩
    · have d2 : decide ((k : Int) < (n : Int)) = false := decide_eq_false (by omega)
      have d3 : decide (k < n) = false := decide_eq_false (by omega)
      go_wp2_with fail
      refine (awake23 _).mono ?_
      rintro e w2 ⟨rfl, hB2⟩
      replace hB2 := below_step2 (w := wr) (by repeat (first | exact Below.refl _ _ | apply below_alloc | apply below_drew | apply pw_below_drewN)) hB2
      replace hB := below_step2 hB hB2
      clear hB2
      go_wp2
      go_ret
      exact ⟨rfl, hB⟩
end Go.Proofs.Ytmcidhdjbcjonaa

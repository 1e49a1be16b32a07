/- InetParts holds: an even number of bytes and others behind them have the sum of both's. Conditions: none beside the row's own reach. -/
import Derived.Test.YtjmnkgonmkadgaaAwake01
import Derived.Test.YtjmnkgonmkadgaaCBoth
namespace Go.Proofs.Ytjmnkgonmkadgaa
open Go.RowKit Go.Proofs.YtjmnkgonmkadgaaW.PrintWords

theorem parts_sum (xs ys : List Int) (hx : Byt xs) (hy : Byt ys) (h : xs.length % 2 = 0) : addm (sumL xs) (sumL ys) = sumL (xs ++ ys) := by
  unfold sumL
  rw [canon_add _ _ (tot_nonneg xs hx) (tot_nonneg ys hy), tot_append xs ys h]

set_option maxHeartbeats 2000000 in
theorem InetParts_any (A : Option Addr) (n c : Nat) (xs : List Int) (A' : Option Addr) (n' c' : Nat) (ys : List Int) (w : World) (h : Bts w A n c xs) (h' : Bts w A' n' c' ys) :
    Calls Try.prog 4 #[.slice A n c, .slice A' n' c'] w fun e w' => e = .returned (.bool true) ∧ Below w.heap.size w w' := by
  have hl := h.len
  have hl' := h'.len
  have hm := h.max
  have hm' := h'.max
  have hB := Below.refl w.heap.size w
  by_cases q1 : 1000 < n
  · go_enter Try.func4, Try.ntmps4
    go_wp2_with fail
    refine (awake01 _).mono ?_
    rintro e w1 ⟨rfl, hB2⟩
    replace hB2 := below_step2 (w := w) (by repeat (first | exact Below.refl _ _ | apply below_alloc | apply below_drew | apply pw_below_drewN)) hB2
    replace hB := below_step2 hB hB2
    clear hB2
    go_wp2
    go_ret
    exact ⟨rfl, hB⟩
  by_cases q2 : 1000 < n'
  · have d1 : decide ((1000 : Int) < (n : Int)) = false := decide_eq_false (by omega)
    go_enter Try.func4, Try.ntmps4
    go_wp2_with fail
    refine (awake01 _).mono ?_
    rintro e w1 ⟨rfl, hB2⟩
    replace hB2 := below_step2 (w := w) (by repeat (first | exact Below.refl _ _ | apply below_alloc | apply below_drew | apply pw_below_drewN)) hB2
    replace hB := below_step2 hB hB2
    clear hB2
    go_wp2
    go_ret
    exact ⟨rfl, hB⟩
  have d1 : decide ((1000 : Int) < (n : Int)) = false := decide_eq_false (by omega)
  have d2 : decide ((1000 : Int) < (n' : Int)) = false := decide_eq_false (by omega)
  by_cases q3 : n % 2 = 1
  · have d3 : ((n : Int) % 2 == 1) = true := beq_iff_eq.mpr (by omega)
    go_enter Try.func4, Try.ntmps4
    go_wp2_with fail
    refine (awake01 _).mono ?_
    rintro e w1 ⟨rfl, hB2⟩
    replace hB2 := below_step2 (w := w) (by repeat (first | exact Below.refl _ _ | apply below_alloc | apply below_drew | apply pw_below_drewN)) hB2
    replace hB := below_step2 hB hB2
    clear hB2
    go_wp2
    go_ret
    exact ⟨rfl, hB⟩
  have d3 : ((n : Int) % 2 == 1) = false := beq_eq_false_iff_ne.mpr (by omega)
  have hs := Lib.hid (parts_sum xs ys h.byt h'.byt (by omega))
  go_enter Try.func4, Try.ntmps4
  go_wp2_with fail
  refine (awake01 _).mono ?_
  rintro e w1 ⟨rfl, hB2⟩
  replace hB2 := below_step2 (w := w) (by repeat (first | exact Below.refl _ _ | apply below_alloc | apply below_drew | apply pw_below_drewN)) hB2
  replace h := h.below hB2
  replace h' := h'.below hB2
  replace hB := below_step2 hB hB2
  clear hB2
  go_wp2_with fail
  refine (ref01_Both _ _ _ [xs, ys] _ (Rws.lit w1 w1.heap.size 22 [(.slice A n c, xs), (.slice A' n' c', ys)] rfl (by simp) (by simp; exact ⟨⟨_, _, _, ⟨rfl, rfl, rfl⟩, h⟩, ⟨_, _, _, ⟨rfl, rfl, rfl⟩, h'⟩⟩)) (by simp; omega)).mono ?_
  rintro e w2 ⟨vw2, rfl, ok, hB2⟩
  obtain ⟨B, m, d, rfl, k⟩ := ok.bts
  replace ok := Lib.hid ok
  replace hB2 := below_step2 (w := w1) (by repeat (first | exact Below.refl _ _ | apply below_alloc | apply below_drew | apply pw_below_drewN)) hB2
  replace h := h.below hB2
  replace h' := h'.below hB2
  replace hB := below_step2 hB hB2
  clear hB2
  simp only [List.flatten_cons, List.flatten_nil, List.append_nil] at k
  go_wp2_with fail
  refine (inet_Sum _ _ _ _ _ k).mono ?_
  rintro e w' ⟨rfl, rfl⟩
  go_wp2_with fail
  refine (inet_Sum _ _ _ _ _ h).mono ?_
  rintro e w' ⟨rfl, rfl⟩
  go_wp2_with fail
  refine (inet_Sum _ _ _ _ _ h').mono ?_
  rintro e w' ⟨rfl, rfl⟩
  go_wp2_with fail
  refine (inet_Add _ _ _).mono ?_
  rintro e w' ⟨rfl, rfl⟩
  rw [hs.out]
  go_wp2_with fail
  refine (inet_Sum _ _ _ _ _ h).mono ?_
  rintro e w' ⟨rfl, rfl⟩
  go_wp2_with fail
  refine (inet_Sum _ _ _ _ _ h').mono ?_
  rintro e w' ⟨rfl, rfl⟩
  go_wp2_with fail
  refine (inet_Add _ _ _).mono ?_
  rintro e w' ⟨rfl, rfl⟩
  rw [hs.out]
  go_wp2_with fail
  refine (inet_Sum _ _ _ _ _ h').mono ?_
  rintro e w' ⟨rfl, rfl⟩
  go_wp2_with fail
  refine (inet_Sum _ _ _ _ _ h).mono ?_
  rintro e w' ⟨rfl, rfl⟩
  go_wp2_with fail
  refine (inet_Add _ _ _).mono ?_
  rintro e w' ⟨rfl, rfl⟩
  rw [addm_comm, hs.out]
  go_wp2
  go_ret
  exact ⟨rfl, hB⟩
end Go.Proofs.Ytjmnkgonmkadgaa

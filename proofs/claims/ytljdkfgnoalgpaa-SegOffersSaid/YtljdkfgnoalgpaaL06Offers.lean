/- SegOffers holds: what options offer is just the reference's; what is offered is found. Conditions: none beside the row's own reach. -/
import Derived.Test.YtljdkfgnoalgpaaAwake06
import Derived.Test.YtljdkfgnoalgpaaOffRef
import Derived.Deep.RegionHeld3
import Derived.Deep.RegionWith
namespace Go.Proofs.Ytljdkfgnoalgpaa
open Go.RowKit Go.Proofs.YtljdkfgnoalgpaaW.PrintWords Go.Proofs.Ytljdkfgnoalgpaa.PSegOffers

theorem bytesOf_add (a b : ByteArray) : bytesOf (a ++ b) = bytesOf a ++ bytesOf b := by simp [bytesOf, ByteArray.data_append]
theorem joined (m : Int) : bytesOf ((⟨#[1, 3, 3, 7]⟩ ++ strOfNums (offS m)) ++ ⟨#[2, 4, 0, 9, 0, 2]⟩) = [1, 3, 3, 7] ++ offS m ++ [2, 4, 0, 9, 0, 2] := by
  rw [bytesOf_add, bytesOf_add, bytesOf_str _ (offS_byt m)]; rfl
theorem off_size (m : Int) : (strOfNums (offS m)).size ≤ 4 := by
  rw [← bytesOf_length, bytesOf_str _ (offS_byt m)]
  unfold offS
  split <;> simp
theorem joined_size (m : Int) : ((⟨#[1, 3, 3, 7]⟩ ++ strOfNums (offS m)) ++ (⟨#[2, 4, 0, 9, 0, 2]⟩ : ByteArray)).size ≤ 140737488351232 := by
  have := off_size m
  rw [ByteArray.size_append, ByteArray.size_append]
  show 4 + _ + 6 ≤ _
  omega

set_option maxHeartbeats 4000000 in
theorem SegOffers_any (o : ByteArray) (m : Int) (w : World) (ho : o.size ≤ 140737488351232) (hm : I64 m) :
    Calls Try.prog 5 #[.string o, .int .i64 m] w fun e w' => e = .returned (.bool true) ∧ Below w.heap.size w w' := by
  have hB := Below.refl w.heap.size w
  have hM := refMss o ho
  obtain ⟨kO, hO⟩ := refOff m
  go_enter Try.func5, Try.ntmps5
  by_cases h0 : 300 < o.size
  · have d0 : decide (300 < (o.size : Int)) = true := decide_eq_true (by omega)
    clear hM hO
    go_wp2
    go_ret
    exact ⟨rfl, hB⟩
  have d0 : decide (300 < (o.size : Int)) = false := decide_eq_false (by omega)
  go_wp2_with fail
  refine (seg_Mss o ho w).mono ?_
  rintro e w1 ⟨rfl, hB1⟩
  replace hB := below_step2 hB hB1
  clear hB1
  have eM : ∃ p, mssS (bytesOf o) = p := ⟨_, rfl⟩
  obtain ⟨⟨x1, x2⟩, eM⟩ := eM
  rw [eM] at hM ⊢
  clear eM
  go_wp2_with fail
  refine (redoubtref06_Mss.calls _ o _ _ w1 hM).mono ?_
  rintro e w2 ⟨rfl, hB2⟩
  replace hB := below_step2 hB hB2.below
  clear hB2 hM
  go_wp2_with fail
  refine (seg_Offer m w2).mono ?_
  rintro e w3 ⟨rfl, hB3⟩
  replace hB := below_step2 hB hB3
  clear hB3
  have hJ := seg_Mss ((⟨#[1, 3, 3, 7]⟩ ++ strOfNums (offS m)) ++ ⟨#[2, 4, 0, 9, 0, 2]⟩) (joined_size m)
  rw [joined] at hJ
  have hJ2 : 1 ≤ m → m ≤ 65535 → mssS ([1, 3, 3, 7] ++ offS m ++ [2, 4, 0, 9, 0, 2]) = (m, 0) := mss_offer m
  obtain ⟨⟨j1, j2⟩, eJ⟩ : ∃ p, mssS ([1, 3, 3, 7] ++ offS m ++ [2, 4, 0, 9, 0, 2]) = p := ⟨_, rfl⟩
  rw [eJ] at hJ hJ2
  clear eJ
  have hO2 := redoubtref06_Offer.calls kO m
  obtain ⟨so, hso⟩ : ∃ so, strOfNums (offS m) = so := ⟨_, rfl⟩
  have hse : (so.toList == so.toList) = true := by simp
  have hsz := off_size m
  rw [hso] at hsz
  have k1 : ¬ 9223372036854775807 < 4 + so.size := by omega
  have k2 : ¬ 9223372036854775807 < 4 + so.size + 6 := by omega
  rw [hso] at hJ hO ⊢
  clear hso
  go_wp2_with fail
  refine (hJ w3).mono ?_
  rintro e w4 ⟨rfl, hB4⟩
  replace hB := below_step2 hB hB4
  clear hB4 hJ
  have tail : m < 1 ∨ 65535 < m ∨ (1 ≤ m ∧ m ≤ 65535 ∧ j1 = m ∧ j2 = 0) := by
    by_cases q1 : m < 1
    · exact .inl q1
    by_cases q2 : 65535 < m
    · exact .inr (.inl q2)
    have q := hJ2 (by omega) (by omega)
    injection q with qa qb
    exact .inr (.inr ⟨by omega, by omega, qa, qb⟩)
  clear hJ2
  -- M3
  rcases tail with q | q | ⟨q1, q2, rfl, rfl⟩
  · have t1 : decide (1 ≤ m) = false := decide_eq_false (by omega)
    go_wp2_with fail
    refine (awake06 w4).mono ?_
    rintro e w5 ⟨rfl, hB5⟩
    replace hB := below_step2 hB hB5
    clear hB5
    go_wp2_with fail
    refine (hO2 so w5 hO).mono ?_
    rintro e w6 ⟨rfl, hB6⟩
    replace hB := below_step2 hB hB6
    clear hB6 hO2 hO
    go_wp2
    go_ret
    exact ⟨rfl, hB⟩
  · have t1 : decide (1 ≤ m) = true := decide_eq_true (by omega)
    have t2 : decide (m ≤ 65535) = false := decide_eq_false (by omega)
    go_wp2_with fail
    refine (awake06 w4).mono ?_
    rintro e w5 ⟨rfl, hB5⟩
    replace hB := below_step2 hB hB5
    clear hB5
    go_wp2_with fail
    refine (hO2 so w5 hO).mono ?_
    rintro e w6 ⟨rfl, hB6⟩
    replace hB := below_step2 hB hB6
    clear hB6 hO2 hO
    go_wp2
    go_ret
    exact ⟨rfl, hB⟩
  · have t1 : decide (1 ≤ j1) = true := decide_eq_true q1
    have t2 : decide (j1 ≤ 65535) = true := decide_eq_true q2
    go_wp2_with fail
    refine (awake06 w4).mono ?_
    rintro e w5 ⟨rfl, hB5⟩
    replace hB := below_step2 hB hB5
    clear hB5
    go_wp2_with fail
    refine (hO2 so w5 hO).mono ?_
    rintro e w6 ⟨rfl, hB6⟩
    replace hB := below_step2 hB hB6
    clear hB6 hO2 hO
    go_wp2
    go_ret
    exact ⟨rfl, hB⟩
end Go.Proofs.Ytljdkfgnoalgpaa

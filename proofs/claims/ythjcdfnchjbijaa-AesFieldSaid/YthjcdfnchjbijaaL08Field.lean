/- AesField holds: products are told alike whichever is first, part by part, and of three in any order; 1 turns nothing. Conditions: none beside the row's own reach. -/
import Derived.Test.YthjcdfnchjbijaaCAesF
namespace Go.Proofs.Ythjcdfnchjbijaa
open Go.RowKit Go.Proofs.YthjcdfnchjbijaaW.PrintWords

set_option maxHeartbeats 2000000 in
theorem AesField_any (x y z : Int) (w : World) (hx : 0 ≤ x ∧ x ≤ 255) (hy : 0 ≤ y ∧ y ≤ 255) (hz : 0 ≤ z ∧ z ≤ 255) :
    Calls Try.prog 5 #[.int .u8 x, .int .u8 y, .int .u8 z] w fun e w' => e = .returned (.bool true) ∧ Below w.heap.size w w' := by
  have hB := Below.refl w.heap.size w
  have c1 := Lib.hid (times_comm y x hy hx)
  have c2 := Lib.hid (times_one x hx)
  have c3 := Lib.hid (times_add2 x y z hx hy hz)
  have c4 := Lib.hid (times_assoc x y z hx hy hz)
  have b1 := by_times y hx
  have b2 := by_times z hx
  have b3 := by_times z hy
  have e1 := k_xor_u8 y z hy hz
  have e2 := k_xor_u8 (times x y) (times x z) b1 b2
  have b4 := by_bx hy hz
  go_enter Try.func5, Try.ntmps5
  go_wp2_with fail
  refine (awake08 _).mono ?_
  rintro e w2 ⟨rfl, hB2⟩
  replace hB2 := below_step2 (w := w) (by repeat (first | exact Below.refl _ _ | apply below_alloc | apply below_drew | apply pw_below_drewN)) hB2
  replace hB := below_step2 hB hB2
  clear hB2
  go_wp2_with fail
  refine (aes_Times x y _ hx hy).mono ?_
  rintro e w' ⟨rfl, rfl⟩
  go_wp2_with fail
  refine (aes_Times y x _ hy hx).mono ?_
  rintro e w' ⟨rfl, rfl⟩
  rw [c1.out]
  go_wp2_with fail
  refine (aes_Times x 1 _ hx (by omega)).mono ?_
  rintro e w' ⟨rfl, rfl⟩
  rw [c2.out]
  go_wp2_with fail
  refine (aes_Times x (bx y z) _ hx b4).mono ?_
  rintro e w' ⟨rfl, rfl⟩
  rw [c3.out]
  go_wp2_with fail
  refine (aes_Times x y _ hx hy).mono ?_
  rintro e w' ⟨rfl, rfl⟩
  go_wp2_with fail
  refine (aes_Times x z _ hx hz).mono ?_
  rintro e w' ⟨rfl, rfl⟩
  go_wp2_with fail
  refine (aes_Times y z _ hy hz).mono ?_
  rintro e w' ⟨rfl, rfl⟩
  go_wp2_with fail
  refine (aes_Times x (times y z) _ hx b3).mono ?_
  rintro e w' ⟨rfl, rfl⟩
  rw [c4.out]
  go_wp2_with fail
  refine (aes_Times x y _ hx hy).mono ?_
  rintro e w' ⟨rfl, rfl⟩
  go_wp2_with fail
  refine (aes_Times (times x y) z _ b1 hz).mono ?_
  rintro e w' ⟨rfl, rfl⟩
  go_wp2
  go_ret
  exact ⟨rfl, hB⟩
end Go.Proofs.Ythjcdfnchjbijaa

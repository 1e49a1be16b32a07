/- AesBytes holds: a byte's Box, and a product, are just these. Conditions: none beside the row's own reach. -/
import Derived.Test.YthjcdfnchjbijaaCAesF
import Derived.Test.YthjcdfnchjbijaaAesRef
namespace Go.Proofs.Ythjcdfnchjbijaa
open Go.RowKit Go.Proofs.YthjcdfnchjbijaaW.PrintWords Go.Proofs.Ythjcdfnchjbijaa.PAesBlocks

set_option maxHeartbeats 2000000 in
theorem AesBytes_any (x y : Int) (w : World) (hx : 0 ≤ x ∧ x ≤ 255) (hy : 0 ≤ y ∧ y ≤ 255) :
    Calls Try.prog 3 #[.int .u8 x, .int .u8 y] w fun e w' => e = .returned (.bool true) ∧ Below w.heap.size w w' := by
  have hB := Below.refl w.heap.size w
  have r1 := Lib.hid (refBox x hx)
  have r2 := Lib.hid (refTimes x y hx hy)
  have b1 := box_byte x
  have b2 := by_times y hx
  unfold By at b2
  go_enter Try.func3, Try.ntmps3
  go_wp2_with fail
  refine (awake08 _).mono ?_
  rintro e w2 ⟨rfl, hB2⟩
  replace hB2 := below_step2 (w := w) (by repeat (first | exact Below.refl _ _ | apply below_alloc | apply below_drew | apply pw_below_drewN)) hB2
  replace hB := below_step2 hB hB2
  clear hB2
  go_wp2_with fail
  refine (aes_Box x _ hx).mono ?_
  rintro e w3 ⟨rfl, hB2⟩
  replace hB2 := below_step2 (w := w2) (by repeat (first | exact Below.refl _ _ | apply below_alloc | apply below_drew | apply pw_below_drewN)) hB2
  replace hB := below_step2 hB hB2
  clear hB2
  go_wp2_with fail
  refine (redoubtref08_Box.calls 18 x _ _ r1.out).mono ?_
  rintro e w4 ⟨rfl, hD⟩
  have hB2 := hD.below
  replace hB := below_step2 hB hB2
  clear hB2 hD
  generalize box x = bb at b1 ⊢
  go_wp2_with fail
  refine (aes_Times x y _ hx hy).mono ?_
  rintro e w' ⟨rfl, rfl⟩
  go_wp2_with fail
  refine (redoubtref08_Times.calls 9 x y _ _ r2.out).mono ?_
  rintro e w5 ⟨rfl, hD⟩
  have hB2 := hD.below
  replace hB := below_step2 hB hB2
  clear hB2 hD r1 r2
  go_wp2
  go_ret
  exact ⟨rfl, hB⟩
end Go.Proofs.Ythjcdfnchjbijaa

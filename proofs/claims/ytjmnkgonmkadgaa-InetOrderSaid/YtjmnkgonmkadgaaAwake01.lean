/- The examples of layer 1's document hold. Conditions: none. -/
import Derived.Test.YtjmnkgonmkadgaaCInetB
namespace Go.Proofs.Ytjmnkgonmkadgaa
open Go.RowKit Go.Proofs.YtjmnkgonmkadgaaW.PrintWords

set_option maxHeartbeats 1000000 in
theorem awake01 (w : World) :
    Calls Try.prog 10 #[] w fun e w' => e = .returned (.bool true) ∧ Below w.heap.size w w' := by
  go_enter Try.func10, Try.ntmps10
  go_wp2_with fail
  refine (inet_Add _ _ _).mono ?_
  rintro e w' ⟨rfl, rfl⟩
  rw [show addm 65535 1 = 1 from by decide]
  go_wp2_with fail
  refine (inet_Add _ _ _).mono ?_
  rintro e w' ⟨rfl, rfl⟩
  rw [show addm 65535 0 = 65535 from by decide]
  go_wp2_with fail
  refine (inet_Sum _ _ _ _ _ (Bts.lit_new w 5 [0, 1, 0xf2, 3, 0xf4, 0xf5, 0xf6, 0xf7] (by decide) (by decide))).mono ?_
  rintro e w' ⟨rfl, rfl⟩
  rw [show sumL [0, 1, 0xf2, 3, 0xf4, 0xf5, 0xf6, 0xf7] = 56818 from by decide]
  go_wp2_with fail
  refine (inet_Check _ _ _ _ _ (Bts.lit_at _ _ 5 [1] (by simp) (by decide) (by decide))).mono ?_
  rintro e w' ⟨rfl, rfl⟩
  rw [show sumL [1] = 256 from by decide]
  go_wp2
  go_ret
  exact ⟨rfl, ((Below.refl _ _).alloc (Nat.le_refl _) _).alloc (by simp) _⟩
end Go.Proofs.Ytjmnkgonmkadgaa

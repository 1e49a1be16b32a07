/- Contracts of the checksum's Check and Turn. Conditions: each argument is of its Go type. -/
import Derived.Test.YtjmnkgonmkadgaaCInet
namespace Go.Proofs.Ytjmnkgonmkadgaa
open Go.RowKit Go.Proofs.YtjmnkgonmkadgaaW.PrintWords

set_option maxHeartbeats 400000 in
theorem inet_Check (A : Option Addr) (n c : Nat) (xs : List Int) (w : World) (h : Bts w A n c xs) :
    Calls Try.prog 13 #[.slice A n c] w fun e w' => e = .returned (.int .i64 (65535 - sumL xs)) ∧ w = w' := by
  have hb := sumL_bd xs
  go_enter Try.func13, Try.ntmps13
  go_wp2_with fail
  refine (inet_Sum _ _ _ _ _ h).mono ?_
  rintro e w' ⟨rfl, rfl⟩
  go_wp2
  go_ret
  exact ⟨rfl, rfl⟩

set_option maxHeartbeats 400000 in
theorem inet_Turn (a b c : Int) (w : World) :
    Calls Try.prog 17 #[.int .i64 a, .int .i64 b, .int .i64 c] w fun e w' => e = .returned (.int .i64 (turnm a b c)) ∧ w = w' := by
  go_enter Try.func17, Try.ntmps17
  go_wp2_with fail
  refine (inet_Add _ _ _).mono ?_
  rintro e w' ⟨rfl, rfl⟩
  go_wp2_with fail
  refine (inet_Add _ _ _).mono ?_
  rintro e w' ⟨rfl, rfl⟩
  have hb := addm_bd (addm (bits .xor .i64 (-1) a) (bits .xor .i64 (-1) b)) c
  go_wp2
  go_ret
  have ha := k_xor_m1_mod a
  have hbb := k_xor_m1_mod b
  refine ⟨ret_int ?_, rfl⟩
  rw [k_andNot_65535 _ hb.1 hb.2]
  unfold turnm
  rw [addm_mod (bits .xor .i64 (-1) a) (bits .xor .i64 (-1) b) (65535 - a % 65536) (65535 - b % 65536) (by omega) (by omega)]

end Go.Proofs.Ytjmnkgonmkadgaa

/- Contracts of the reference's Check and Turn. Conditions: each argument is of its Go type. -/
import Derived.Test.YtjmnkgonmkadgaaCRefSum
namespace Go.Proofs.Ytjmnkgonmkadgaa
open Go.RowKit Go.Proofs.YtjmnkgonmkadgaaW.PrintWords

set_option maxHeartbeats 400000 in
theorem ref01_Check (A : Option Addr) (n c : Nat) (xs : List Int) (w : World) (h : Bts w A n c xs) :
    Calls Try.prog 14 #[.slice A n c] w fun e w' => e = .returned (.int .i64 (65535 - sumL xs)) ∧ w = w' := by
  have hb := sumL_bd xs
  go_enter Try.func14, Try.ntmps14
  go_wp2_with fail
  refine (ref01_Sum _ _ _ _ _ h).mono ?_
  rintro e w' ⟨rfl, rfl⟩
  go_wp2
  go_ret
  exact ⟨rfl, rfl⟩

set_option maxHeartbeats 400000 in
theorem ref01_Turn (a b c : Int) (w : World) :
    Calls Try.prog 20 #[.int .i64 a, .int .i64 b, .int .i64 c] w fun e w' => e = .returned (.int .i64 (turnm a b c)) ∧ w = w' := by
  have ha : 0 ≤ a % 65536 ∧ a % 65536 < 65536 := by omega
  have hb : 0 ≤ b % 65536 ∧ b % 65536 < 65536 := by omega
  have hd : Hid (turnm a b c = 65535 - addm (addm (65535 - a % 65536) (65535 - b % 65536)) c) := rfl
  go_enter Try.func20, Try.ntmps20
  go_wp2_with fail
  refine (ref01_word _ _).mono ?_
  rintro e w' ⟨rfl, rfl⟩
  go_wp2_with fail
  refine (ref01_word _ _).mono ?_
  rintro e w' ⟨rfl, rfl⟩
  generalize a % 65536 = a' at *
  generalize b % 65536 = b' at *
  go_wp2_with fail
  refine (ref01_Add _ _ _).mono ?_
  rintro e w' ⟨rfl, rfl⟩
  go_wp2_with fail
  refine (ref01_Add _ _ _).mono ?_
  rintro e w' ⟨rfl, rfl⟩
  have hx := addm_bd (addm (65535 - a') (65535 - b')) c
  go_wp2
  go_ret
  exact ⟨ret_int hd.out.symm, rfl⟩
end Go.Proofs.Ytjmnkgonmkadgaa

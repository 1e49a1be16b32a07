/- Contracts of the reference's Two and Four. Conditions: the number is not below 0. -/
import Derived.Test.YtljdkfgnoalgpaaBase
namespace Go.Proofs.Ytljdkfgnoalgpaa
open Go.RowKit Go.Proofs.YtljdkfgnoalgpaaW.PrintWords

set_option maxHeartbeats 400000 in
theorem ref01_Two (n : Int) (w : World) (h0 : 0 ≤ n) (h1 : n ≤ 65535) :
    Calls Try.prog 29 #[.int .i64 n] w fun e w' => ∃ v, e = .returned v ∧ OwnB w' w.heap.size v [n / 256, n % 256] ∧ Below w.heap.size w w' := by
  have k := OwnB.lit_at w w.heap.size w.heap.size [n / 256, n % 256] rfl (Nat.le_refl _) (by simp only [byt_cons]; exact ⟨by omega, by omega, byt_nil⟩) (by simp)
  have K := Lib.hid k
  clear k
  go_enter Try.func29, Try.ntmps29
  go_wp2
  go_ret
  exact ⟨_, rfl, K.out, (Below.refl _ _).alloc (Nat.le_refl _) _⟩

set_option maxHeartbeats 400000 in
theorem ref01_Four (n : Int) (w : World) (h0 : 0 ≤ n) (h1 : n ≤ 4294967295) :
    Calls Try.prog 30 #[.int .i64 n] w fun e w' => ∃ v, e = .returned v ∧ OwnB w' w.heap.size v [n / 16777216, n / 65536 % 256, n / 256 % 256, n % 256] ∧ Below w.heap.size w w' := by
  have k := OwnB.lit_at w w.heap.size w.heap.size [n / 16777216, n / 65536 % 256, n / 256 % 256, n % 256] rfl (Nat.le_refl _) (by simp only [byt_cons]; exact ⟨by omega, by omega, by omega, by omega, byt_nil⟩) (by simp)
  have K := Lib.hid k
  clear k
  go_enter Try.func30, Try.ntmps30
  go_wp2
  go_ret
  exact ⟨_, rfl, K.out, (Below.refl _ _).alloc (Nat.le_refl _) _⟩
end Go.Proofs.Ytljdkfgnoalgpaa

/- What the reference reckons of bytes, by the printed functions, is the plain product and Box. Conditions: bytes. -/
import Derived.Test.YthjcdfnchjbijaaAesLaw
import Derived.Test.YthjcdfnchjbijaaPAesBlocksx1
namespace Go.Proofs.Ythjcdfnchjbijaa
open Go.RowKit Go.Proofs.YthjcdfnchjbijaaW.PrintWords Go.Proofs.Ythjcdfnchjbijaa.PAesBlocks

theorem k_xor_i64 (a b : Int) (ha : 0 ≤ a ∧ a ≤ 255) (hb : 0 ≤ b ∧ b ≤ 255) : bits .xor .i64 a b = bx a b := by
  obtain ⟨x, rfl⟩ := Int.eq_ofNat_of_zero_le ha.1
  obtain ⟨y, rfl⟩ := Int.eq_ofNat_of_zero_le hb.1
  have hz := Nat.xor_lt_two_pow (n := 8) (x := x) (y := y) (by omega) (by omega)
  rw [k_xor_def, k_ofNat _ (by omega), k_ofNat _ (by omega), k_wrap_nat _ (by omega)]
  rfl
theorem ref_dbl_all : ∀ n : Nat, n < 256 → (if wrap64 (2 * (n : Int)) > 255 then bits .xor .i64 (wrap64 (2 * (n : Int))) 283 else wrap64 (2 * (n : Int))) = dbl (n : Int) := by decide +kernel
theorem ref_dbl (x : Int) (hx : By x) : (if wrap64 (2 * x) > 255 then bits .xor .i64 (wrap64 (2 * x)) 283 else wrap64 (2 * x)) = dbl x := byte_all (p := fun x => (if wrap64 (2 * x) > 255 then bits .xor .i64 (wrap64 (2 * x)) 283 else wrap64 (2 * x)) = dbl x) ref_dbl_all x hx
theorem refTimes_l : ∀ (m : Nat) (x y n : Int), m ≤ 8 → By x → By y → By n → redoubtref08_Times.l0 (m + 1) x y n ((8 - m : Nat) : Int) = some (timesL m x y n)
  | 0, x, y, n, _, _, _, _ => by
    simp only [redoubtref08_Times.l0]
    rw [if_neg (by omega)]
    rfl
  | m + 1, x, y, n, hm, hx, hy, hn => by
    have h1 : wrap64 (((8 - (m + 1) : Nat) : Int) + 1) = ((8 - m : Nat) : Int) := by unfold wrap64; omega
    have h2 : wrap64 (Int.tdiv y 2) = y / 2 := by rw [tdiv_pos y 2 hy.1]; unfold wrap64; have := hy.1; have := hy.2; omega
    have h3 : Int.tmod y 2 = y % 2 := tmod_pos y 2 hy.1
    have h4 := ref_dbl x hx
    have h5 := k_xor_i64 n x hn hx
    have by2 : By (y / 2) := ⟨by have := hy.1; omega, by have := hy.2; omega⟩
    rw [redoubtref08_Times.l0, if_pos (by omega), h1, h2, h3, h5, timesL]
    by_cases ho : y % 2 = 1
    · rw [if_pos ho, if_pos ho]
      split at h4
      · next h6 => rw [if_pos h6, h4]; exact refTimes_l m _ _ _ (by omega) (by_dbl x) by2 (by_bx hn hx)
      · next h6 => rw [if_neg h6, h4]; exact refTimes_l m _ _ _ (by omega) (by_dbl x) by2 (by_bx hn hx)
    · rw [if_neg ho, if_neg ho]
      split at h4
      · next h6 => rw [if_pos h6, h4]; exact refTimes_l m _ _ _ (by omega) (by_dbl x) by2 hn
      · next h6 => rw [if_neg h6, h4]; exact refTimes_l m _ _ _ (by omega) (by_dbl x) by2 hn
theorem refTimes (x y : Int) (hx : By x) (hy : By y) : redoubtref08_Times.f 9 x y = some (times x y) := refTimes_l 8 x y 0 (by omega) hx hy ⟨by decide, by decide⟩
set_option maxRecDepth 100000 in
theorem refBox_all : ∀ n : Nat, n < 256 → redoubtref08_Box.f 18 (n : Int) = some (boxE (n : Int)) := by decide +kernel
theorem refBox (x : Int) (hx : By x) : redoubtref08_Box.f 18 x = some (box x) := by
  rw [box_eq]
  exact byte_all (p := fun x => redoubtref08_Box.f 18 x = some (boxE x)) refBox_all x hx
end Go.Proofs.Ythjcdfnchjbijaa

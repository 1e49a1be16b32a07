/- Contracts of the reference's word, Add and Sum. Conditions: each argument is of its Go type. -/
import Derived.Test.YtljdkfgnoalgpaaBase
namespace Go.Proofs.Ytljdkfgnoalgpaa
open Go.RowKit Go.Proofs.YtljdkfgnoalgpaaW.PrintWords

set_option maxHeartbeats 400000 in
theorem ref01_word (a : Int) (w : World) :
    Calls Try.prog 46 #[.int .i64 a] w fun e w' => e = .returned (.int .i64 (a % 65536)) ∧ w = w' := by
  have ht := tmod_word a
  go_enter Try.func46, Try.ntmps46
  go_wp2
  go_ret
  exact ⟨ret_int (by omega), rfl⟩

set_option maxHeartbeats 400000 in
theorem ref01_Add (a b : Int) (w : World) :
    Calls Try.prog 42 #[.int .i64 a, .int .i64 b] w fun e w' => e = .returned (.int .i64 (addm a b)) ∧ w = w' := by
  have ha : 0 ≤ a % 65536 ∧ a % 65536 < 65536 := by omega
  have hb : 0 ≤ b % 65536 ∧ b % 65536 < 65536 := by omega
  have hd : Hid (addm a b = if 65535 < a % 65536 + b % 65536 then a % 65536 + b % 65536 - 65535 else a % 65536 + b % 65536) := rfl
  go_enter Try.func42, Try.ntmps42
  go_wp2_with fail
  refine (ref01_word _ _).mono ?_
  rintro e w' ⟨rfl, rfl⟩
  go_wp2_with fail
  refine (ref01_word _ _).mono ?_
  rintro e w' ⟨rfl, rfl⟩
  generalize a % 65536 = a' at *
  generalize b % 65536 = b' at *
  go_wp2
  all_goals
    go_ret
    refine ⟨ret_int ?_, rfl⟩
    rw [hd.out]
    first
    | rw [if_pos (by omega)]
    | rw [if_neg (by omega)]

set_option maxHeartbeats 1000000 in
theorem ref01_Sum (A : Option Addr) (n c : Nat) (xs : List Int) (w : World) (h : Bts w A n c xs) :
    Calls Try.prog 43 #[.slice A n c] w fun e w' => e = .returned (.int .i64 (sumL xs)) ∧ w = w' := by
  have hl := h.len
  have hn := h.max
  go_enter Try.func43, Try.ntmps43
  go_wp2
  go_loop [3, 4] (fun vn vi => ∃ k : Nat, k ≤ n + 1 ∧ k % 2 = 0 ∧ vi = .int .i64 k ∧ vn = .int .i64 (canon (tot (xs.take k)))) (fun _ vi => n + 2 - (intOf vi).toNat)
  case atStart => exact ⟨0, by omega, rfl, rfl, by simp [tot, canon]⟩
  case round =>
    obtain ⟨k, hk, h2, rfl, rfl⟩ := hrel
    have htn := tot_nonneg (xs.take k) (byt_take h.byt k)
    have b0 := byt_get h.byt k
    have b1 := byt_get h.byt (k + 1)
    by_cases hlt : k < n
    · obtain ⟨ad, rfl, c0⟩ := h.at_ k hlt
      by_cases hlt1 : k + 1 < n
      · obtain ⟨ad', e', c1⟩ := h.at_ (k + 1) hlt1
        obtain rfl : ad = ad' := by injection e'
        clear e'
        replace c1 := cell_add c1 (by omega)
        have hs := Lib.hid (tot_take xs k h2 (by omega))
        generalize hx0 : xs.getD k 0 = x0 at *
        generalize hx1 : xs.getD (k + 1) 0 = x1 at *
        clear hx0 hx1
        go_wp2_with fail
        refine (ref01_Add _ _ _).mono ?_
        rintro e w' ⟨rfl, rfl⟩
        rw [canon_word _ _ htn (by omega) (by omega)]
        go_wp2
        refine ⟨⟨k + 2, by omega, by omega, by go_num, val_int (by rw [hs.out])⟩, by simp [intOf]; omega⟩
      · have hs := Lib.hid (tot_take_last xs k h2 (by omega))
        have hd : Hid (xs.take (k + 2) = xs) := Lib.hid (List.take_of_length_le (by omega))
        generalize hx0 : xs.getD k 0 = x0 at *
        clear hx0
        go_wp2_with fail
        refine (ref01_Add _ _ _).mono ?_
        rintro e w' ⟨rfl, rfl⟩
        rw [canon_word _ _ htn (by omega) (by omega)]
        go_wp2
        refine ⟨⟨k + 2, by omega, by omega, by go_num, val_int (by rw [hd.out, hs.out])⟩, by simp [intOf]; omega⟩
    · have hd : Hid (xs.take k = xs) := Lib.hid (List.take_of_length_le (by omega))
      go_wp2
      go_ret
      exact ⟨ret_int (by rw [hd.out]; rfl), rfl⟩
end Go.Proofs.Ytljdkfgnoalgpaa

/- Streams as plain lists: beginnings, blocks, bytes turned twice. Conditions: those that each lemma states. -/
import Derived.Test.YtgkphopdmkfcgaaAwake09
namespace Go.Proofs.Ytgkphopdmkfcgaa
open Go.RowKit

theorem ctrAll_pre (ks salt iv : List Int) (a : Nat) : ∀ d, (ctrAll ks salt iv (a + d)).take (16 * a) = ctrAll ks salt iv a
  | 0 => by rw [Nat.add_zero]; exact List.take_of_length_le (by rw [ctrAll_len]; exact Nat.le_refl _)
  | d + 1 => by
    rw [← Nat.add_assoc, ctrAll, List.take_append_of_le_length (by rw [ctrAll_len]; omega)]
    exact ctrAll_pre ks salt iv a d
theorem strmS_take (key salt iv : List Int) {n m : Nat} (h : n ≤ m) : (strmS key salt iv m).take n = strmS key salt iv n := by
  unfold strmS
  obtain ⟨d, hd⟩ : ∃ d, (m + 15) / 16 = (n + 15) / 16 + d := ⟨(m + 15) / 16 - (n + 15) / 16, by omega⟩
  rw [hd, List.take_take, Nat.min_eq_left h, ← ctrAll_pre (keysS key) salt iv ((n + 15) / 16) d, List.take_take, Nat.min_eq_left (by omega)]
theorem strmS_block (key salt iv : List Int) (k : Nat) : (strmS key salt iv (16 * k + 16)).drop (16 * k) = ctrBlk (keysS key) salt iv k := by
  unfold strmS
  rw [show (16 * k + 16 + 15) / 16 = k + 1 by omega, List.take_of_length_le (by rw [ctrAll_len]; omega), ctrAll, List.drop_append_of_le_length (by rw [ctrAll_len]; omega), List.drop_of_length_le (by rw [ctrAll_len]; omega)]
  rfl
theorem xorS_take (zs bs : List Int) (n : Nat) : (xorS zs bs).take n = xorS (zs.take n) (bs.take n) := by unfold xorS; rw [List.take_zipWith]
theorem xorS_len {zs bs : List Int} (h : zs.length = bs.length) : (xorS zs bs).length = bs.length := by simp [xorS, h]
theorem xorS_get {zs bs : List Int} (h : zs.length = bs.length) (i : Nat) (hi : i < bs.length) : (xorS zs bs).getD i 0 = bx (zs.getD i 0) (bs.getD i 0) := by
  rw [gd_lt _ i (by rw [xorS_len h]; exact hi), gd_lt zs i (by omega), gd_lt bs i hi]
  simp [xorS]
theorem xorS_twice {zs bs : List Int} (h : zs.length = bs.length) (hb : Byt bs) : xorS zs (xorS zs bs) = bs := by
  refine (xorS_of zs (xorS zs bs) bs h (xorS_len h) fun j hj => ?_).symm
  rw [xorS_get h j hj, bx_cancel (byt_get hb j).1]
theorem bx_places (z a b : Int) : bx (bx z a) (bx z b) = bx a b := by
  simp only [bx, Int.toNat_natCast]
  rw [Nat.xor_comm z.toNat a.toNat, Nat.xor_assoc, ← Nat.xor_assoc z.toNat z.toNat, Nat.xor_self, Nat.zero_xor]
theorem strErr_small {a b c n : Nat} (h : n ≤ 65536) : strErr a b c (n : Int) = if (a = 16 ∨ a = 32) ∧ b = 4 ∧ c = 8 then 0 else 1 := by
  unfold strErr
  by_cases q : (a = 16 ∨ a = 32) ∧ b = 4 ∧ c = 8
  · rw [if_pos ⟨q.1, q.2.1, q.2.2, by omega⟩, if_neg (by omega), if_pos q]
  · rw [if_neg (fun p => q ⟨p.1, p.2.1, p.2.2.1⟩), if_neg q]
theorem strErr_ok {a n : Nat} (h : a = 16 ∨ a = 32) (hn : n ≤ 65536) : strErr a 4 8 (n : Int) = 0 := by rw [strErr_small hn, if_pos ⟨h, rfl, rfl⟩]
end Go.Proofs.Ytgkphopdmkfcgaa

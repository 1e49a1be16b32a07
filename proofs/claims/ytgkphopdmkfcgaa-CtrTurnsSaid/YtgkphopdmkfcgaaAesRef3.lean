/- What the reference reckons of bytes, tables, keys, blocks, by the printed functions, is what is made. Conditions: bytes; lengths as each lemma states. -/
import Derived.Test.YtgkphopdmkfcgaaAesLaw
import Derived.Test.YtgkphopdmkfcgaaPCtrTurnsx1
import Derived.Test.YtgkphopdmkfcgaaPCtrTurnsx2
import Derived.Test.YtgkphopdmkfcgaaPCtrTurnsx4
namespace Go.Proofs.Ytgkphopdmkfcgaa
open Go.RowKit Go.Proofs.YtgkphopdmkfcgaaW.PrintWords Go.Proofs.Ytgkphopdmkfcgaa.PCtrTurns

theorem k_xor_i64 (a b : Int) (ha : 0 ≤ a ∧ a ≤ 255) (hb : 0 ≤ b ∧ b ≤ 255) : bits .xor .i64 a b = bx a b := by
  obtain ⟨x, rfl⟩ := Int.eq_ofNat_of_zero_le ha.1
  obtain ⟨y, rfl⟩ := Int.eq_ofNat_of_zero_le hb.1
  have hz := Nat.xor_lt_two_pow (n := 8) (x := x) (y := y) (by omega) (by omega)
  rw [k_xor_def, k_ofNat _ (by omega), k_ofNat _ (by omega), k_wrap_nat _ (by omega)]
  rfl
theorem ref_dbl_all : ∀ n : Nat, n < 256 → (if wrap64 (2 * (n : Int)) > 255 then bits .xor .i64 (wrap64 (2 * (n : Int))) 283 else wrap64 (2 * (n : Int))) = dbl (n : Int) := by decide +kernel
theorem ref_dbl (x : Int) (hx : By x) : (if wrap64 (2 * x) > 255 then bits .xor .i64 (wrap64 (2 * x)) 283 else wrap64 (2 * x)) = dbl x := byte_all (p := fun x => (if wrap64 (2 * x) > 255 then bits .xor .i64 (wrap64 (2 * x)) 283 else wrap64 (2 * x)) = dbl x) ref_dbl_all x hx
theorem refTimes_l : ∀ (m : Nat) (x y n : Int), m ≤ 8 → By x → By y → By n → redoubtref08_Times.l0 (m + 1) x y n ((8 - m : Nat) : Int) = some (timesL m x y n)
  | 0, x, y, n, _, _, _, _ => by
    simp only [redoubtref08_Times.l0]
    rw [if_neg (by omega)]
    rfl
  | m + 1, x, y, n, hm, hx, hy, hn => by
    have h1 : wrap64 (((8 - (m + 1) : Nat) : Int) + 1) = ((8 - m : Nat) : Int) := by unfold wrap64; omega
    have h2 : wrap64 (Int.tdiv y 2) = y / 2 := by rw [tdiv_pos y 2 hy.1]; unfold wrap64; have := hy.1; have := hy.2; omega
    have h3 : Int.tmod y 2 = y % 2 := tmod_pos y 2 hy.1
    have h4 := ref_dbl x hx
    have h5 := k_xor_i64 n x hn hx
    have by2 : By (y / 2) := ⟨by have := hy.1; omega, by have := hy.2; omega⟩
    rw [redoubtref08_Times.l0, if_pos (by omega), h1, h2, h3, h5, timesL]
    by_cases ho : y % 2 = 1
    · rw [if_pos ho, if_pos ho]
      split at h4
      · next h6 => rw [if_pos h6, h4]; exact refTimes_l m _ _ _ (by omega) (by_dbl x) by2 (by_bx hn hx)
      · next h6 => rw [if_neg h6, h4]; exact refTimes_l m _ _ _ (by omega) (by_dbl x) by2 (by_bx hn hx)
    · rw [if_neg ho, if_neg ho]
      split at h4
      · next h6 => rw [if_pos h6, h4]; exact refTimes_l m _ _ _ (by omega) (by_dbl x) by2 hn
      · next h6 => rw [if_neg h6, h4]; exact refTimes_l m _ _ _ (by omega) (by_dbl x) by2 hn
theorem refTimes (x y : Int) (hx : By x) (hy : By y) : redoubtref08_Times.f 9 x y = some (times x y) := refTimes_l 8 x y 0 (by omega) hx hy ⟨by decide, by decide⟩
set_option maxRecDepth 100000 in
theorem refBox_all : ∀ n : Nat, n < 256 → redoubtref08_Box.f 18 (n : Int) = some (boxE (n : Int)) := by decide +kernel
theorem refBox (x : Int) (hx : By x) : redoubtref08_Box.f 18 x = some (box x) := by
  rw [box_eq]
  exact byte_all (p := fun x => redoubtref08_Box.f 18 x = some (boxE x)) refBox_all x hx
end Go.Proofs.Ytgkphopdmkfcgaa

namespace Go.Proofs.Ytgkphopdmkfcgaa
open Go.RowKit Go.Proofs.YtgkphopdmkfcgaaW.PrintWords Go.Proofs.Ytgkphopdmkfcgaa.PCtrTurns

theorem refTimesF (k : Nat) (hk : 9 ≤ k) (x y : Int) (hx : By x) (hy : By y) : redoubtref08_Times.f k x y = some (times x y) := by
  obtain ⟨j, rfl⟩ := Nat.exists_eq_add_of_le hk
  clear hk
  induction j with
  | zero => exact refTimes x y hx hy
  | succ j ih => exact redoubtref08_Times.mono _ _ _ _ ih
theorem refBoxF (k : Nat) (hk : 18 ≤ k) (x : Int) (hx : By x) : redoubtref08_Box.f k x = some (box x) := by
  obtain ⟨j, rfl⟩ := Nat.exists_eq_add_of_le hk
  clear hk
  induction j with
  | zero => exact refBox x hx
  | succ j ih => exact redoubtref08_Box.mono _ _ _ ih
theorem wrap64_nat (n : Nat) (h : n ≤ 1000000) : wrap64 (n : Int) = (n : Int) := by unfold wrap64; omega
theorem wrap64_byte {x : Int} (h : By x) : wrap64 x = x := by have := h.1; have := h.2; unfold wrap64; omega
theorem wrap64_suc (n : Nat) (h : n ≤ 1000000) : wrap64 ((n : Int) + 1) = ((n + 1 : Nat) : Int) := by unfold wrap64; omega
/-- A list filled from the left. -/
def fillL (f : Nat → Int) (N : Nat) : Nat → List Int → List Int
  | 0, xs => xs
  | n + 1, xs => fillL f N n (xs.set (N - (n + 1)) (f (N - (n + 1))))
theorem fill16 (f : Nat → Int) : fillL f 16 16 (List.replicate 16 0) = map16 f := rfl
theorem fillL_len (f : Nat → Int) (N : Nat) : ∀ (n : Nat) (xs : List Int), (fillL f N n xs).length = xs.length
  | 0, _ => rfl
  | n + 1, xs => by rw [fillL, fillL_len f N n, List.length_set]
theorem rd_nat (xs : List Int) (i : Nat) : rd xs (i : Int) = xs.getD i 0 := by unfold rd; rw [Int.toNat_natCast]

theorem refTable_l : ∀ (n : Nat) (xs : List Int), n ≤ 256 → xs.length = 256 → redoubtref08_Table.l0 (n + 19) xs ((256 - n : Nat) : Int) = some (fillL (fun i => box (i : Int)) 256 n xs)
  | 0, xs, _, _ => by
    rw [redoubtref08_Table.l0, if_neg (by omega)]
    rfl
  | n + 1, xs, h, hl => by
    rw [show n + 1 + 19 = (n + 19) + 1 by omega, redoubtref08_Table.l0, if_pos (by omega), refBoxF _ (by omega) _ ⟨by omega, by omega⟩, Option.bind_some, if_pos (by omega), if_pos (by omega), wrap64_suc _ (by omega), show 256 - (n + 1) + 1 = 256 - n by omega, Int.toNat_natCast, fillL]
    exact refTable_l n _ (by omega) (by rw [List.length_set]; exact hl)
set_option maxRecDepth 100000 in
theorem fill_box : fillL (fun i => boxE (i : Int)) 256 256 (List.replicate 256 0) = boxTab := by decide +kernel
theorem refTable (k : Nat) (hk : 275 ≤ k) : redoubtref08_Table.f k = some boxTab := by
  obtain ⟨j, rfl⟩ := Nat.exists_eq_add_of_le hk
  clear hk
  induction j with
  | zero =>
    unfold redoubtref08_Table.f
    rw [if_pos (by decide)]
    have := refTable_l 256 (List.replicate 256 0) (by omega) (by rw [List.length_replicate])
    rw [show (fun i : Nat => box (i : Int)) = (fun i : Nat => boxE (i : Int)) by funext i; rw [box_eq], fill_box] at this
    exact this
  | succ j ih => exact redoubtref08_Table.mono _ _ ih
theorem rd_tab (x : Int) : rd boxTab x = box x := by rw [box_eq]; rfl

theorem refWith_l (x0 x1 : List Int) (h0 : x0.length = 16) (h1 : 16 ≤ x1.length) (b0 : Byt x0) (b1 : Byt x1) : ∀ (n : Nat) (j : Nat) (xs : List Int), n ≤ 16 → xs.length = 16 → redoubtref08_with.l0 (n + 1 + j) x0 x1 xs ((16 - n : Nat) : Int) = some (fillL (fun i => bx (x0.getD i 0) (x1.getD i 0)) 16 n xs)
  | 0, j, xs, _, _ => by
    rw [show 0 + 1 + j = j + 1 by omega, redoubtref08_with.l0, if_neg (by omega)]
    rfl
  | n + 1, j, xs, h, hl => by
    rw [show n + 1 + 1 + j = (n + 1 + j) + 1 by omega, redoubtref08_with.l0, if_pos (by omega), if_pos (by omega), if_pos (by omega), if_pos (by omega), if_pos (by omega), wrap64_suc _ (by omega), rd_nat, rd_nat, wrap64_byte (byt_get b1 _), k_xor_i64 _ _ (byt_get b0 _) (byt_get b1 _), show 16 - (n + 1) + 1 = 16 - n by omega, Int.toNat_natCast, fillL]
    exact refWith_l x0 x1 h0 h1 b0 b1 n j _ (by omega) (by rw [List.length_set]; exact hl)
theorem refWith (k : Nat) (hk : 17 ≤ k) (x0 x1 : List Int) (h0 : x0.length = 16) (h1 : 16 ≤ x1.length) (b0 : Byt x0) (b1 : Byt x1) : redoubtref08_with.f k x0 x1 = some (withS x0 x1) := by
  obtain ⟨j, rfl⟩ := Nat.exists_eq_add_of_le hk
  unfold redoubtref08_with.f
  rw [if_pos (by decide)]
  exact refWith_l x0 x1 h0 h1 b0 b1 16 j (List.replicate 16 0) (by omega) (by rw [List.length_replicate])

theorem refOut_l (x7 : List Int) (h0 : x7.length = 16) (b0 : Byt x7) : ∀ (n : Nat) (j : Nat) (xs : List Int), n ≤ 16 → xs.length = 16 → redoubtref08_By.l4 (n + 1 + j) x7 xs ((16 - n : Nat) : Int) = some (fillL (fun i => x7.getD i 0) 16 n xs)
  | 0, j, xs, _, _ => by
    rw [show 0 + 1 + j = j + 1 by omega, redoubtref08_By.l4, if_neg (by omega)]
    rfl
  | n + 1, j, xs, h, hl => by
    have b := byt_get b0 (16 - (n + 1))
    rw [show n + 1 + 1 + j = (n + 1 + j) + 1 by omega, redoubtref08_By.l4, if_pos (by omega), if_pos (by omega), if_pos (by omega), if_pos (by omega), wrap64_suc _ (by omega), rd_nat, Int.emod_eq_of_lt (by omega) (by omega), show 16 - (n + 1) + 1 = 16 - n by omega, Int.toNat_natCast, fillL]
    exact refOut_l x7 h0 b0 n j _ (by omega) (by rw [List.length_set]; exact hl)
theorem refOut (j : Nat) (x7 : List Int) (h0 : x7.length = 16) (b0 : Byt x7) : redoubtref08_By.l4 (17 + j) x7 (List.replicate 16 0) 0 = some x7 := by
  have := refOut_l x7 h0 b0 16 j (List.replicate 16 0) (by omega) (by rw [List.length_replicate])
  rw [fill16, ← eq_map16 x7 _ h0 (fun _ _ => rfl)] at this
  exact this

theorem tm2 (x : Int) (hx : By x) : times x 2 = dbl x := byte_all (p := fun x => times x 2 = dbl x) (by decide +kernel) x hx
theorem tm3 (x : Int) (hx : By x) : times x 3 = bx (dbl x) x := byte_all (p := fun x => times x 3 = bx (dbl x) x) (by decide +kernel) x hx
theorem idx2 : ∀ i : Nat, i < 16 → wrap64 (Int.tmod (i : Int) 4 + wrap64 (4 * Int.tmod (wrap64 (wrap64 (Int.tdiv (i : Int) 4) + Int.tmod (i : Int) 4)) 4)) = ((5 * i % 16 : Nat) : Int) := by decide +kernel
theorem idx3a : ∀ i : Nat, i < 16 → wrap64 (wrap64 (wrap64 (Int.tdiv (i : Int) 4) * 4) + Int.tmod (wrap64 ((i : Int) + 1)) 4) = ((i / 4 * 4 + (i % 4 + 1) % 4 : Nat) : Int) := by decide +kernel
theorem idx3b : ∀ i : Nat, i < 16 → wrap64 (wrap64 (wrap64 (Int.tdiv (i : Int) 4) * 4) + Int.tmod (wrap64 ((i : Int) + 2)) 4) = ((i / 4 * 4 + (i % 4 + 2) % 4 : Nat) : Int) := by decide +kernel
theorem idx3c : ∀ i : Nat, i < 16 → wrap64 (wrap64 (wrap64 (Int.tdiv (i : Int) 4) * 4) + Int.tmod (wrap64 ((i : Int) + 3)) 4) = ((i / 4 * 4 + (i % 4 + 3) % 4 : Nat) : Int) := by decide +kernel
instance : Std.Associative bx := ⟨bx_assoc⟩
instance : Std.Commutative bx := ⟨bx_comm⟩
theorem allS_from (xs : List Int) (c r : Nat) (h : r < 4) : allS xs c = bx (xs.getD (c + r) 0) (bx (xs.getD (c + (r + 1) % 4) 0) (bx (xs.getD (c + (r + 2) % 4) 0) (xs.getD (c + (r + 3) % 4) 0))) := by
  unfold allS
  obtain rfl | rfl | rfl | rfl : r = 0 ∨ r = 1 ∨ r = 2 ∨ r = 3 := by omega
  all_goals simp only [Nat.add_zero, Nat.zero_add, Nat.reduceAdd, Nat.reduceMod]
  all_goals ac_rfl
theorem mixB_eq {xs : List Int} (hb : Byt xs) (c r : Nat) (h : r < 4) :
    mixB xs c r = bx (bx (bx (times (xs.getD (c + r) 0) 2) (times (xs.getD (c + (r + 1) % 4) 0) 3)) (xs.getD (c + (r + 2) % 4) 0)) (xs.getD (c + (r + 3) % 4) 0) := by
  unfold mixB
  rw [allS_from xs c r h, tm2 _ (byt_get hb _), tm3 _ (byt_get hb _), dbl_add _ _ (byt_get hb _) (byt_get hb _), bx_cancel (bx_nn _ _)]
  ac_rfl
def mixF (xs : List Int) (i : Nat) : Int := bx (bx (bx (times (xs.getD i 0) 2) (times (xs.getD (i / 4 * 4 + (i % 4 + 1) % 4) 0) 3)) (xs.getD (i / 4 * 4 + (i % 4 + 2) % 4) 0)) (xs.getD (i / 4 * 4 + (i % 4 + 3) % 4) 0)
theorem mixF_all {xs : List Int} (hb : Byt xs) : map16 (mixF xs) = mixS xs := map16_ext fun i hi => by
  rw [mixB_eq hb _ _ (by omega), show i / 4 * 4 + i % 4 = i by omega]
  rfl
theorem refMix_l (x0 x1 x10 : List Int) (x9 : Nat) (R : Option (List Int)) (j : Nat) (h10 : x10.length = 16) (b10 : Byt x10) (h9 : x9 ≤ x1.length)
    (hR : ∀ xs, xs = mixS x10 → (redoubtref08_with.f (j + 9) xs (x1.drop x9)).bind (fun t => redoubtref08_By.l1 (j + 9) x0 x1 t (wrap64 ((x9 : Int) + 16))) = R) :
    ∀ (n : Nat) (xs : List Int), n ≤ 16 → xs.length = 16 → fillL (mixF x10) 16 n xs = mixS x10 → redoubtref08_By.l3 (n + 1 + (j + 9)) x0 x1 (x9 : Int) x10 xs ((16 - n : Nat) : Int) = R
  | 0, xs, _, _, hf => by
    rw [show 0 + 1 + (j + 9) = (j + 9) + 1 by omega, redoubtref08_By.l3, if_neg (by omega), if_pos (by omega), if_pos (by omega), Int.toNat_natCast]
    exact hR xs hf
  | n + 1, xs, h, hl, hf => by
    have t1 : By (times (x10.getD (16 - (n + 1)) 0) 2) := by_times _ (byt_get b10 _)
    have t2 : By (times (x10.getD ((16 - (n + 1)) / 4 * 4 + ((16 - (n + 1)) % 4 + 1) % 4) 0) 3) := by_times _ (byt_get b10 _)
    rw [show n + 1 + 1 + (j + 9) = (n + 1 + (j + 9)) + 1 by omega, redoubtref08_By.l3, if_pos (by omega), if_pos (by omega), if_pos (by omega), idx3a _ (by omega), idx3b _ (by omega), idx3c _ (by omega), rd_nat, rd_nat, rd_nat, rd_nat,
      refTimesF _ (by omega) _ _ (byt_get b10 _) ⟨by decide, by decide⟩, Option.bind_some, if_pos (by omega), if_pos (by omega), refTimesF _ (by omega) _ _ (byt_get b10 _) ⟨by decide, by decide⟩, Option.bind_some, if_pos (by omega), if_pos (by omega), if_pos (by omega), if_pos (by omega), if_pos (by omega),
      k_xor_i64 _ _ t1 t2, k_xor_i64 _ _ (by_bx t1 t2) (byt_get b10 _), k_xor_i64 _ _ (by_bx (by_bx t1 t2) (byt_get b10 _)) (byt_get b10 _), wrap64_suc _ (by omega), show 16 - (n + 1) + 1 = 16 - n by omega, Int.toNat_natCast]
    exact refMix_l x0 x1 x10 x9 R j h10 b10 h9 hR n _ (by omega) (by rw [List.length_set]; exact hl) hf
theorem refRows_l (x1 x7 : List Int) (x9 : Nat) (R : Option (List Int)) (j : Nat) (h7 : x7.length = 16)  (b7 : Byt x7) (hR : ∀ xs, xs = rowsS x7 → redoubtref08_By.l2 (j + 1) boxTab x1 x7 (x9 : Int) xs 16 = R) :
    ∀ (n : Nat) (xs : List Int), n ≤ 16 → xs.length = 16 → fillL (fun i => box (x7.getD (5 * i % 16) 0)) 16 n xs = rowsS x7 → redoubtref08_By.l2 (n + 1 + j) boxTab x1 x7 (x9 : Int) xs ((16 - n : Nat) : Int) = R
  | 0, xs, _, _, hf => by
    rw [show 0 + 1 + j = j + 1 by omega]
    exact hR xs hf
  | n + 1, xs, h, hl, hf => by
    have b := byt_get b7 (5 * (16 - (n + 1)) % 16)
    have hbt : boxTab.length = 256 := by decide +kernel
    rw [show n + 1 + 1 + j = (n + 1 + j) + 1 by omega, redoubtref08_By.l2, if_pos (by omega), idx2 _ (by omega), rd_nat, if_pos (by omega), if_pos (by omega), if_pos (by omega), if_pos (by omega), if_pos (by omega), if_pos (by omega), rd_tab, wrap64_suc _ (by omega), show 16 - (n + 1) + 1 = 16 - n by omega, Int.toNat_natCast]
    exact refRows_l x1 x7 x9 R j h7 b7 hR n _ (by omega) (by rw [List.length_set]; exact hl) hf
end Go.Proofs.Ytgkphopdmkfcgaa

namespace Go.Proofs.Ytgkphopdmkfcgaa
open Go.RowKit Go.Proofs.YtgkphopdmkfcgaaW.PrintWords Go.Proofs.Ytgkphopdmkfcgaa.PCtrTurns

theorem fill16' (f : Nat → Int) (g : List Int) (h : map16 f = g) : fillL f 16 16 (List.replicate 16 0) = g := (fill16 f).trans h
/-- One round, and what is left. -/
theorem refRounds : ∀ (m : Nat) (j : Nat) (x1 x7 : List Int) (x9 : Nat), x7.length = 16 → Byt x7 → Byt x1 → x9 + 16 * m = x1.length → x1.length ≤ 1000 →
    redoubtref08_By.l1 (60 * m + 18 + j) boxTab x1 x7 (x9 : Int) = some (blockL m x7 (x1.drop x9))
  | 0, j, x1, x7, x9, h7, b7, b1, hm, h9 => by
    rw [show 60 * 0 + 18 + j = (17 + j) + 1 by omega, redoubtref08_By.l1, if_neg (by omega), if_pos (by decide), refOut j x7 h7 b7]
    rfl
  | m + 1, j, x1, x7, x9, h7, b7, b1, hm, h9 => by
    have hlr := rowsS_len x7
    have hbr := rowsS_byt x7
    have hbd := byt_drop b1 x9
    have hld : (x1.drop x9).length = x1.length - x9 := List.length_drop
    have hw : wrap64 ((x9 : Int) + 16) = ((x9 + 16 : Nat) : Int) := by unfold wrap64; omega
    rw [show 60 * (m + 1) + 18 + j = (16 + 1 + (60 * m + 60 + j)) + 1 by omega, redoubtref08_By.l1, if_pos (by omega), if_pos (by decide)]
    refine refRows_l x1 x7 x9 _ (60 * m + 60 + j) h7 b7 ?_ 16 (List.replicate 16 0) (by omega) (by rw [List.length_replicate]) (fill16' _ _ rfl)
    rintro xs rfl
    rw [redoubtref08_By.l2, if_neg (by decide), hw]
    by_cases hl : x9 + 16 < x1.length
    · rw [if_pos (by omega), if_pos (by decide)]
      have hlm := mixS_len (rowsS x7)
      have hbm := mixS_byt hbr
      rw [show 60 * m + 60 + j = 16 + 1 + ((60 * m + 34 + j) + 9) by omega]
      refine refMix_l boxTab x1 (rowsS x7) x9 _ (60 * m + 34 + j) hlr hbr (by omega) ?_ 16 (List.replicate 16 0) (by omega) (by rw [List.length_replicate]) (fill16' _ _ (mixF_all hbr))
      rintro xs rfl
      rw [refWith _ (by omega) _ _ hlm (by omega) hbm hbd, Option.bind_some, hw, show 60 * m + 34 + j + 9 = 60 * m + 18 + (j + 25) by omega, refRounds m _ x1 _ (x9 + 16) (withS_len _ _) (withS_byt hbm hbd) b1 (by omega) h9, blockL, if_pos (by omega), List.drop_drop]
    · rw [if_neg (by omega), if_pos (by omega), if_pos (by omega), Int.toNat_natCast, refWith _ (by omega) _ _ hlr (by omega) hbr hbd, Option.bind_some, show 60 * m + 60 + j = 60 * m + 18 + (j + 42) by omega, refRounds m _ x1 _ (x9 + 16) (withS_len _ _) (withS_byt hbr hbd) b1 (by omega) h9, blockL, if_neg (by omega), List.drop_drop]
theorem refIn_l (x0 x1 x2 : List Int) (R : Option (List Int)) (j : Nat) (h2 : x2.length = 16) (b2 : Byt x2) (hR : ∀ xs, xs = x2 → redoubtref08_By.l0 (j + 1) x0 x1 x2 xs 16 = R) :
    ∀ (n : Nat) (xs : List Int), n ≤ 16 → xs.length = 16 → fillL (fun i => x2.getD i 0) 16 n xs = x2 → redoubtref08_By.l0 (n + 1 + j) x0 x1 x2 xs ((16 - n : Nat) : Int) = R
  | 0, xs, _, _, hf => by
    rw [show 0 + 1 + j = j + 1 by omega]
    exact hR xs hf
  | n + 1, xs, h, hl, hf => by
    rw [show n + 1 + 1 + j = (n + 1 + j) + 1 by omega, redoubtref08_By.l0, if_pos (by omega), if_pos (by omega), if_pos (by omega), if_pos (by omega), rd_nat, wrap64_byte (byt_get b2 _), wrap64_suc _ (by omega), show 16 - (n + 1) + 1 = 16 - n by omega, Int.toNat_natCast]
    exact refIn_l x0 x1 x2 R j h2 b2 hR n _ (by omega) (by rw [List.length_set]; exact hl) hf
theorem refBy (ks ys : List Int) (hk : ks.length = 176 ∨ ks.length = 240) (hy : ys.length = 16) (bk : Byt ks) (b : Byt ys) : redoubtref08_By.f 2000 boxTab ks ys = some (blockS ks ys) := by
  unfold redoubtref08_By.f
  rw [if_pos (by decide), show (2000 : Nat) = 16 + 1 + 1983 by omega]
  refine refIn_l boxTab ks ys _ 1983 hy b ?_ 16 (List.replicate 16 0) (by omega) (by rw [List.length_replicate]) ((fill16 _).trans (eq_map16 ys _ hy (fun _ _ => rfl)).symm)
  rintro xs rfl
  rw [redoubtref08_By.l0, if_neg (by decide), refWith _ (by omega) _ _ hy (by omega) b bk, Option.bind_some]
  unfold blockS
  rcases hk with h | h
  · rw [h]
    exact refRounds 10 1365 ks _ 16 (withS_len _ _) (withS_byt b bk) bk (by omega) (by omega)
  · rw [h]
    exact refRounds 14 1125 ks _ 16 (withS_len _ _) (withS_byt b bk) bk (by omega) (by omega)
theorem rBoth1 (m : Nat) (xs : List Int) (h : xs.length < 140737488355328) : redoubtref01_Both.f (m + 2) [xs] = some xs := by
  unfold redoubtref01_Both.f
  rw [redoubtref01_Both.l0, if_pos (by simp), if_pos (by omega), if_pos (by simpa [rd_L1] using h)]
  rw [redoubtref01_Both.l0, if_neg (by simp [wrap64])]
  simp [rd_L1]
theorem gd_append (xs ys : List Int) (i : Nat) (h : i < xs.length) : (xs ++ ys).getD i 0 = xs.getD i 0 := by
  simp only [List.getD_eq_getElem?_getD, List.getElem?_append_left h]
theorem w_nat (n : Nat) (h : n ≤ 100000) : wrap64 (n : Int) = (n : Int) := wrap64_nat n (by omega)
theorem w_mul4 (i : Nat) (h : i ≤ 1000) : wrap64 (4 * (i : Int)) = ((4 * i : Nat) : Int) := (congrArg wrap64 (by omega : 4 * (i : Int) = ((4 * i : Nat) : Int))).trans (w_nat _ (by omega))
theorem w_sub (i d : Nat) (h : i ≤ 10000) (hd : d ≤ i) : wrap64 ((i : Int) - (d : Int)) = ((i - d : Nat) : Int) := (congrArg wrap64 (by omega : (i : Int) - (d : Int) = ((i - d : Nat) : Int))).trans (w_nat _ (by omega))
theorem w_add (i d : Nat) (h : i ≤ 10000) (hd : d ≤ 1000) : wrap64 ((i : Int) + (d : Int)) = ((i + d : Nat) : Int) := (congrArg wrap64 (by omega : (i : Int) + (d : Int) = ((i + d : Nat) : Int))).trans (w_nat _ (by omega))
theorem w_4sub (i d : Nat) (h : i ≤ 100) (hd : d ≤ 4 * i) : wrap64 (wrap64 (4 * (i : Int)) - (d : Int)) = ((4 * i - d : Nat) : Int) := by rw [w_mul4 i (by omega), w_sub _ _ (by omega) hd]
theorem w_limit (nk : Nat) (h : nk ≤ 100) : wrap64 (4 * wrap64 ((nk : Int) + 7)) = ((4 * (nk + 7) : Nat) : Int) := by
  rw [show ((nk : Int) + 7) = ((nk : Int) + ((7 : Nat) : Int)) from rfl, w_add nk 7 (by omega) (by omega), w_mul4 _ (by omega)]
theorem w_at (i nk q : Nat) (hi : nk ≤ i) (h : i ≤ 100) (hq : q < 4) : wrap64 (wrap64 (4 * wrap64 ((i : Int) - (nk : Int))) + (q : Int)) = ((4 * i - 4 * nk + q : Nat) : Int) := by
  rw [w_sub i nk (by omega) hi, w_mul4 _ (by omega), w_add _ _ (by omega) (by omega), show 4 * (i - nk) + q = 4 * i - 4 * nk + q by omega]
/-- Four bytes more. -/
theorem refFour (k : Nat) (nk : Nat) (ws out : List Int) (turn : Int) (i : Nat) (hn : 4 ≤ nk) (hi : nk ≤ i) (hi2 : i ≤ 100) (hl : out.length = 4 * i) (hw : ws.length = 4) (bw : Byt ws) (bo : Byt out) :
    redoubtref08_Keys.l1 (k + 5) boxTab (nk : Int) out turn (i : Int) ws 0 = redoubtref08_Keys.l0 k boxTab (nk : Int) (out ++ nextS (4 * nk) (4 * i) ws out) turn ((i + 1 : Nat) : Int) := by
  have e0 := fun q hq => w_at i nk q hi hi2 hq
  have st : ∀ (q : Nat) (m : Nat) (zs : List Int), q < 4 → zs.length = 4 * i + q → (∀ p, p < 4 * i → zs.getD p 0 = out.getD p 0) →
      redoubtref08_Keys.l1 (m + 1) boxTab (nk : Int) zs turn (i : Int) ws (q : Int) = redoubtref08_Keys.l1 m boxTab (nk : Int) (zs ++ [bx (ws.getD q 0) (out.getD (4 * i - 4 * nk + q) 0)]) turn (i : Int) ws ((q + 1 : Nat) : Int) := by
    intro q m zs hq hz hg
    have hb := by_bx (byt_get bw q) (byt_get bo (4 * i - 4 * nk + q))
    have hb0 := hb.1
    have hb1 := hb.2
    rw [redoubtref08_Keys.l1, if_pos (by omega), if_pos (by omega), if_pos (by omega), e0 q hq, if_pos (by omega), if_pos (by omega), if_pos (by omega), rd_nat, rd_nat, hg _ (by omega), wrap64_byte (byt_get bo _), k_xor_i64 _ _ (byt_get bw _) (byt_get bo _), Int.emod_eq_of_lt (by omega) (by omega), wrap64_suc _ (by omega)]
  rw [show (0 : Int) = ((0 : Nat) : Int) from rfl, st 0 (k + 4) out (by omega) (by omega) (fun _ _ => rfl),
    st 1 (k + 3) _ (by omega) (by simp; omega) (fun p hp => gd_append _ _ _ (by omega)),
    st 2 (k + 2) _ (by omega) (by simp; omega) (fun p hp => by rw [gd_append _ _ _ (by simp; omega), gd_append _ _ _ (by omega)]),
    st 3 (k + 1) _ (by omega) (by simp; omega) (fun p hp => by rw [gd_append _ _ _ (by simp; omega), gd_append _ _ _ (by simp; omega), gd_append _ _ _ (by omega)]),
    redoubtref08_Keys.l1, if_neg (by omega), wrap64_suc _ (by omega)]
  simp [nextS]
theorem boxTab_len : boxTab.length = 256 := by decide +kernel
theorem box_by (x : Int) : By (box x) := box_byte x
theorem rd4 (a b c d : Int) : rd [a, b, c, d] 0 = a ∧ rd [a, b, c, d] 1 = b ∧ rd [a, b, c, d] 2 = c ∧ rd [a, b, c, d] 3 = d ∧ ([a, b, c, d] : List Int).length = 4 := ⟨rfl, rfl, rfl, rfl, rfl⟩
/-- One word's way. -/
theorem refWord (nk : Nat) (hnk : nk = 4 ∨ nk = 8) (k i : Nat) (out : List Int) (turn : Int) (hk : 9 ≤ k) (hm : i < 4 * (nk + 7)) (hi : nk ≤ i) (hl : out.length = 4 * i) (ht : By turn) (hb : Byt out) :
    redoubtref08_Keys.l0 (k + 1) boxTab (nk : Int) out turn (i : Int) = redoubtref08_Keys.j1 k boxTab (nk : Int) out (if 4 * i % (4 * nk) = 0 then dbl turn else turn) (i : Int) (wordS (4 * nk) (4 * i) turn out) := by
  have e1 := w_limit nk (by omega)
  have q4 : wrap64 (wrap64 (4 * (i : Int)) - 4) = ((4 * i - 4 : Nat) : Int) := w_4sub i 4 (by omega) (by omega)
  have q3 : wrap64 (wrap64 (4 * (i : Int)) - 3) = ((4 * i - 3 : Nat) : Int) := w_4sub i 3 (by omega) (by omega)
  have q2 : wrap64 (wrap64 (4 * (i : Int)) - 2) = ((4 * i - 2 : Nat) : Int) := w_4sub i 2 (by omega) (by omega)
  have q1 : wrap64 (wrap64 (4 * (i : Int)) - 1) = ((4 * i - 1 : Nat) : Int) := w_4sub i 1 (by omega) (by omega)
  have m1 : Int.tmod (i : Int) (nk : Int) = ((i % nk : Nat) : Int) := rfl
  have m2 : Int.tmod (i : Int) 8 = ((i % 8 : Nat) : Int) := rfl
  have m3 : 4 * i % (4 * nk) = 4 * (i % nk) := Nat.mul_mod_mul_left 4 i nk
  have b4 := byt_get hb (4 * i - 4)
  have b3 := byt_get hb (4 * i - 3)
  have b2 := byt_get hb (4 * i - 2)
  have b1 := byt_get hb (4 * i - 1)
  have hw : wordS (4 * nk) (4 * i) turn out = if i % nk = 0 then [bx (box (out.getD (4 * i - 3) 0)) turn, box (out.getD (4 * i - 2) 0), box (out.getD (4 * i - 1) 0), box (out.getD (4 * i - 4) 0)] else if nk = 8 ∧ i % 8 = 4 then [box (out.getD (4 * i - 4) 0), box (out.getD (4 * i - 3) 0), box (out.getD (4 * i - 2) 0), box (out.getD (4 * i - 1) 0)] else [out.getD (4 * i - 4) 0, out.getD (4 * i - 3) 0, out.getD (4 * i - 2) 0, out.getD (4 * i - 1) 0] := by
    unfold wordS
    rw [m3]
    by_cases h0 : i % nk = 0
    · rw [if_pos (by omega), if_pos h0]
    · rw [if_neg (by omega), if_neg h0]
      by_cases h8 : nk = 8 ∧ i % 8 = 4
      · obtain ⟨rfl, h8⟩ := h8
        rw [if_pos (by omega), if_pos ⟨rfl, h8⟩]
      · have g : ¬ (4 * nk = 32 ∧ 4 * (i % nk) = 16) := by
          intro q
          have e : nk = 8 := by omega
          have b := q.2
          rw [e] at b
          exact h8 ⟨e, by omega⟩
        rw [if_neg g, if_neg h8]
  have hbt := boxTab_len
  rw [redoubtref08_Keys.l0, e1, if_pos (by omega), q4, q3, q2, q1, if_pos (by omega), if_pos (by omega), if_pos (by omega), if_pos (by omega), if_pos (by omega), if_pos (by omega), if_pos (by omega), if_pos (by omega), Option.bind_some, if_neg (by omega), rd_nat, rd_nat, rd_nat, rd_nat, wrap64_byte b4, wrap64_byte b3, wrap64_byte b2, wrap64_byte b1, m1, m2, hw, m3]
  clear hw q4 q3 q2 q1 e1
  generalize out.getD (4 * i - 4) 0 = x4 at *
  generalize out.getD (4 * i - 3) 0 = x3 at *
  generalize out.getD (4 * i - 2) 0 = x2 at *
  generalize out.getD (4 * i - 1) 0 = x1 at *
  obtain ⟨y0, y1, y2, y3, yl⟩ := rd4 x4 x3 x2 x1
  rw [y0, y1, y2, y3, yl]
  clear y0 y1 y2 y3 yl m1 m2 m3
  by_cases h0 : i % nk = 0
  · have c0 : ((i % nk : Nat) : Int) = 0 := by omega
    rw [show (if i % nk = 0 then [bx (box x3) turn, box x2, box x1, box x4] else if nk = 8 ∧ i % 8 = 4 then [box x4, box x3, box x2, box x1] else [x4, x3, x2, x1]) = [bx (box x3) turn, box x2, box x1, box x4] from if_pos h0, show (if 4 * (i % nk) = 0 then dbl turn else turn) = dbl turn from if_pos (by omega)]
    rw [if_pos c0, if_pos (by omega), if_pos (by omega), if_pos (by omega), if_pos (by omega), if_pos (by omega), if_pos (by omega), if_pos (by omega), if_pos (by omega), if_pos (by omega), if_pos (by omega), if_pos (by omega), if_pos (by omega), refTimesF _ hk _ _ ht ⟨by decide, by decide⟩, Option.bind_some, tm2 _ ht, rd_tab, rd_tab, rd_tab, rd_tab, k_xor_i64 _ _ (box_by _) ht]
  · have c0 : ¬ ((i % nk : Nat) : Int) = 0 := by omega
    rw [show (if i % nk = 0 then [bx (box x3) turn, box x2, box x1, box x4] else if nk = 8 ∧ i % 8 = 4 then [box x4, box x3, box x2, box x1] else [x4, x3, x2, x1]) = if nk = 8 ∧ i % 8 = 4 then [box x4, box x3, box x2, box x1] else [x4, x3, x2, x1] from if_neg h0, show (if 4 * (i % nk) = 0 then dbl turn else turn) = turn from if_neg (by omega)]
    rw [if_neg c0]
    by_cases h8 : nk = 8 ∧ i % 8 = 4
    · rw [show (if nk = 8 ∧ i % 8 = 4 then [box x4, box x3, box x2, box x1] else [x4, x3, x2, x1]) = [box x4, box x3, box x2, box x1] from if_pos h8]
      obtain ⟨h81, h82⟩ := h8
      rw [if_pos (by omega), if_pos (by omega), if_pos (by omega), if_pos (by omega), if_pos (by omega), if_pos (by omega), if_pos (by omega), if_pos (by omega), if_pos (by omega), if_pos (by omega), if_pos (by omega), if_pos (by omega), if_pos (by omega), if_pos (by omega), rd_tab, rd_tab, rd_tab, rd_tab]
    · rw [show (if nk = 8 ∧ i % 8 = 4 then [box x4, box x3, box x2, box x1] else [x4, x3, x2, x1]) = [x4, x3, x2, x1] from if_neg h8]
      by_cases g : (nk : Int) = 8
      · rw [if_pos g, if_neg (by omega)]
      · rw [if_neg g]
theorem refKeys_l (nk : Nat) (hnk : nk = 4 ∨ nk = 8) : ∀ (m i : Nat) (out : List Int) (turn : Int), i + m = 4 * (nk + 7) → nk ≤ i → out.length = 4 * i → By turn → Byt out →
    redoubtref08_Keys.l0 (7 * m + 20) boxTab (nk : Int) out turn (i : Int) = some (keysL m (4 * nk) (4 * i) turn out)
  | 0, i, out, turn, hm, hi, hl, ht, hb => by
    rw [redoubtref08_Keys.l0, w_limit nk (by omega), if_neg (by omega)]
    rfl
  | m + 1, i, out, turn, hm, hi, hl, ht, hb => by
    have hws := wordS_byt (n := 4 * nk) (i := 4 * i) ht hb
    have ht' : By (if 4 * i % (4 * nk) = 0 then dbl turn else turn) := by split; exact by_dbl _; exact ht
    have hwl : (wordS (4 * nk) (4 * i) turn out).length = 4 := by unfold wordS; split; rfl; split <;> rfl
    rw [show 7 * (m + 1) + 20 = (7 * m + 26) + 1 by omega, refWord nk hnk _ i out turn (by omega) (by omega) hi hl ht hb, keysL, show 7 * m + 26 = (7 * m + 20 + 5) + 1 by omega, redoubtref08_Keys.j1, refFour _ nk _ out _ i (by omega) hi (by omega) hl hwl hws hb]
    exact refKeys_l nk hnk m (i + 1) _ _ (by omega) (by omega) (by simp [nextS]; omega) ht' (byt_append.2 ⟨hb, nextS_byt hws hb⟩)
theorem refKeys (key : List Int) (h : key.length = 16 ∨ key.length = 32) (hb : Byt key) : ∃ k, redoubtref08_Keys.f k key = some (keysS key) := by
  unfold keysS
  rcases h with h | h
  · refine ⟨300, ?_⟩
    unfold redoubtref08_Keys.f
    rw [refTable _ (by omega), Option.bind_some, rBoth1 298 _ (by omega), Option.bind_some, h, if_pos rfl, show wrap64 (((16 : Nat) : Int) / 4) = ((4 : Nat) : Int) by decide +kernel]
    exact refKeys_l 4 (.inl rfl) 40 4 key 1 (by omega) (by omega) (by omega) ⟨by decide, by decide⟩ hb
  · refine ⟨384, ?_⟩
    unfold redoubtref08_Keys.f
    rw [refTable _ (by omega), Option.bind_some, rBoth1 382 _ (by omega), Option.bind_some, h, if_neg (by decide), show wrap64 (((32 : Nat) : Int) / 4) = ((8 : Nat) : Int) by decide +kernel]
    exact refKeys_l 8 (.inr rfl) 52 8 key 1 (by omega) (by omega) (by omega) ⟨by decide, by decide⟩ hb
end Go.Proofs.Ytgkphopdmkfcgaa

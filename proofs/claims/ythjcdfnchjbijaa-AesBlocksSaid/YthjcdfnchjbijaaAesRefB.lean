/- What the reference makes of tables, keys and blocks, by the printed functions, is what is made. Conditions: bytes; lengths as each lemma states. -/
import Derived.Test.YthjcdfnchjbijaaAesRef
import Derived.Test.YthjcdfnchjbijaaPAesBlocksx2
import Derived.Test.YthjcdfnchjbijaaPAesBlocksx5
namespace Go.Proofs.Ythjcdfnchjbijaa
open Go.RowKit Go.Proofs.YthjcdfnchjbijaaW.PrintWords Go.Proofs.Ythjcdfnchjbijaa.PAesBlocks

theorem refTimesF (k : Nat) (hk : 9 ≤ k) (x y : Int) (hx : By x) (hy : By y) : redoubtref08_Times.f k x y = some (times x y) := by
  obtain ⟨j, rfl⟩ := Nat.exists_eq_add_of_le hk
  clear hk
  induction j with
  | zero => exact refTimes x y hx hy
  | succ j ih => exact redoubtref08_Times.mono _ _ _ _ ih
theorem refBoxF (k : Nat) (hk : 18 ≤ k) (x : Int) (hx : By x) : redoubtref08_Box.f k x = some (box x) := by
  obtain ⟨j, rfl⟩ := Nat.exists_eq_add_of_le hk
  clear hk
  induction j with
  | zero => exact refBox x hx
  | succ j ih => exact redoubtref08_Box.mono _ _ _ ih
theorem wrap64_nat (n : Nat) (h : n ≤ 1000000) : wrap64 (n : Int) = (n : Int) := by unfold wrap64; omega
theorem wrap64_byte {x : Int} (h : By x) : wrap64 x = x := by have := h.1; have := h.2; unfold wrap64; omega
theorem wrap64_suc (n : Nat) (h : n ≤ 1000000) : wrap64 ((n : Int) + 1) = ((n + 1 : Nat) : Int) := by unfold wrap64; omega
/-- A list filled from the left. -/
def fillL (f : Nat → Int) (N : Nat) : Nat → List Int → List Int
  | 0, xs => xs
  | n + 1, xs => fillL f N n (xs.set (N - (n + 1)) (f (N - (n + 1))))
theorem fill16 (f : Nat → Int) : fillL f 16 16 (List.replicate 16 0) = map16 f := rfl
theorem fillL_len (f : Nat → Int) (N : Nat) : ∀ (n : Nat) (xs : List Int), (fillL f N n xs).length = xs.length
  | 0, _ => rfl
  | n + 1, xs => by rw [fillL, fillL_len f N n, List.length_set]
theorem rd_nat (xs : List Int) (i : Nat) : rd xs (i : Int) = xs.getD i 0 := by unfold rd; rw [Int.toNat_natCast]

theorem refTable_l : ∀ (n : Nat) (xs : List Int), n ≤ 256 → xs.length = 256 → redoubtref08_Table.l0 (n + 19) xs ((256 - n : Nat) : Int) = some (fillL (fun i => box (i : Int)) 256 n xs)
  | 0, xs, _, _ => by
    rw [redoubtref08_Table.l0, if_neg (by omega)]
    rfl
  | n + 1, xs, h, hl => by
    rw [show n + 1 + 19 = (n + 19) + 1 by omega, redoubtref08_Table.l0, if_pos (by omega), refBoxF _ (by omega) _ ⟨by omega, by omega⟩, Option.bind_some, if_pos (by omega), if_pos (by omega), wrap64_suc _ (by omega), show 256 - (n + 1) + 1 = 256 - n by omega, Int.toNat_natCast, fillL]
    exact refTable_l n _ (by omega) (by rw [List.length_set]; exact hl)
set_option maxRecDepth 100000 in
theorem fill_box : fillL (fun i => boxE (i : Int)) 256 256 (List.replicate 256 0) = boxTab := by decide +kernel
theorem refTable (k : Nat) (hk : 275 ≤ k) : redoubtref08_Table.f k = some boxTab := by
  obtain ⟨j, rfl⟩ := Nat.exists_eq_add_of_le hk
  clear hk
  induction j with
  | zero =>
    unfold redoubtref08_Table.f
    rw [if_pos (by decide)]
    have := refTable_l 256 (List.replicate 256 0) (by omega) (by rw [List.length_replicate])
    rw [show (fun i : Nat => box (i : Int)) = (fun i : Nat => boxE (i : Int)) by funext i; rw [box_eq], fill_box] at this
    exact this
  | succ j ih => exact redoubtref08_Table.mono _ _ ih
theorem rd_tab (x : Int) : rd boxTab x = box x := by rw [box_eq]; rfl

theorem refWith_l (x0 x1 : List Int) (h0 : x0.length = 16) (h1 : 16 ≤ x1.length) (b0 : Byt x0) (b1 : Byt x1) : ∀ (n : Nat) (j : Nat) (xs : List Int), n ≤ 16 → xs.length = 16 → redoubtref08_with.l0 (n + 1 + j) x0 x1 xs ((16 - n : Nat) : Int) = some (fillL (fun i => bx (x0.getD i 0) (x1.getD i 0)) 16 n xs)
  | 0, j, xs, _, _ => by
    rw [show 0 + 1 + j = j + 1 by omega, redoubtref08_with.l0, if_neg (by omega)]
    rfl
  | n + 1, j, xs, h, hl => by
    rw [show n + 1 + 1 + j = (n + 1 + j) + 1 by omega, redoubtref08_with.l0, if_pos (by omega), if_pos (by omega), if_pos (by omega), if_pos (by omega), if_pos (by omega), wrap64_suc _ (by omega), rd_nat, rd_nat, wrap64_byte (byt_get b1 _), k_xor_i64 _ _ (byt_get b0 _) (byt_get b1 _), show 16 - (n + 1) + 1 = 16 - n by omega, Int.toNat_natCast, fillL]
    exact refWith_l x0 x1 h0 h1 b0 b1 n j _ (by omega) (by rw [List.length_set]; exact hl)
theorem refWith (k : Nat) (hk : 17 ≤ k) (x0 x1 : List Int) (h0 : x0.length = 16) (h1 : 16 ≤ x1.length) (b0 : Byt x0) (b1 : Byt x1) : redoubtref08_with.f k x0 x1 = some (withS x0 x1) := by
  obtain ⟨j, rfl⟩ := Nat.exists_eq_add_of_le hk
  unfold redoubtref08_with.f
  rw [if_pos (by decide)]
  exact refWith_l x0 x1 h0 h1 b0 b1 16 j (List.replicate 16 0) (by omega) (by rw [List.length_replicate])

theorem refOut_l (x7 : List Int) (h0 : x7.length = 16) (b0 : Byt x7) : ∀ (n : Nat) (j : Nat) (xs : List Int), n ≤ 16 → xs.length = 16 → redoubtref08_By.l4 (n + 1 + j) x7 xs ((16 - n : Nat) : Int) = some (fillL (fun i => x7.getD i 0) 16 n xs)
  | 0, j, xs, _, _ => by
    rw [show 0 + 1 + j = j + 1 by omega, redoubtref08_By.l4, if_neg (by omega)]
    rfl
  | n + 1, j, xs, h, hl => by
    have b := byt_get b0 (16 - (n + 1))
    rw [show n + 1 + 1 + j = (n + 1 + j) + 1 by omega, redoubtref08_By.l4, if_pos (by omega), if_pos (by omega), if_pos (by omega), if_pos (by omega), wrap64_suc _ (by omega), rd_nat, Int.emod_eq_of_lt (by omega) (by omega), show 16 - (n + 1) + 1 = 16 - n by omega, Int.toNat_natCast, fillL]
    exact refOut_l x7 h0 b0 n j _ (by omega) (by rw [List.length_set]; exact hl)
theorem refOut (j : Nat) (x7 : List Int) (h0 : x7.length = 16) (b0 : Byt x7) : redoubtref08_By.l4 (17 + j) x7 (List.replicate 16 0) 0 = some x7 := by
  have := refOut_l x7 h0 b0 16 j (List.replicate 16 0) (by omega) (by rw [List.length_replicate])
  rw [fill16, ← eq_map16 x7 _ h0 (fun _ _ => rfl)] at this
  exact this

theorem tm2 (x : Int) (hx : By x) : times x 2 = dbl x := byte_all (p := fun x => times x 2 = dbl x) (by decide +kernel) x hx
theorem tm3 (x : Int) (hx : By x) : times x 3 = bx (dbl x) x := byte_all (p := fun x => times x 3 = bx (dbl x) x) (by decide +kernel) x hx
theorem idx2 : ∀ i : Nat, i < 16 → wrap64 (Int.tmod (i : Int) 4 + wrap64 (4 * Int.tmod (wrap64 (wrap64 (Int.tdiv (i : Int) 4) + Int.tmod (i : Int) 4)) 4)) = ((5 * i % 16 : Nat) : Int) := by decide +kernel
theorem idx3a : ∀ i : Nat, i < 16 → wrap64 (wrap64 (wrap64 (Int.tdiv (i : Int) 4) * 4) + Int.tmod (wrap64 ((i : Int) + 1)) 4) = ((i / 4 * 4 + (i % 4 + 1) % 4 : Nat) : Int) := by decide +kernel
theorem idx3b : ∀ i : Nat, i < 16 → wrap64 (wrap64 (wrap64 (Int.tdiv (i : Int) 4) * 4) + Int.tmod (wrap64 ((i : Int) + 2)) 4) = ((i / 4 * 4 + (i % 4 + 2) % 4 : Nat) : Int) := by decide +kernel
theorem idx3c : ∀ i : Nat, i < 16 → wrap64 (wrap64 (wrap64 (Int.tdiv (i : Int) 4) * 4) + Int.tmod (wrap64 ((i : Int) + 3)) 4) = ((i / 4 * 4 + (i % 4 + 3) % 4 : Nat) : Int) := by decide +kernel
instance : Std.Associative bx := ⟨bx_assoc⟩
instance : Std.Commutative bx := ⟨bx_comm⟩
theorem allS_from (xs : List Int) (c r : Nat) (h : r < 4) : allS xs c = bx (xs.getD (c + r) 0) (bx (xs.getD (c + (r + 1) % 4) 0) (bx (xs.getD (c + (r + 2) % 4) 0) (xs.getD (c + (r + 3) % 4) 0))) := by
  unfold allS
  obtain rfl | rfl | rfl | rfl : r = 0 ∨ r = 1 ∨ r = 2 ∨ r = 3 := by omega
  all_goals simp only [Nat.add_zero, Nat.zero_add, Nat.reduceAdd, Nat.reduceMod]
  all_goals ac_rfl
theorem mixB_eq {xs : List Int} (hb : Byt xs) (c r : Nat) (h : r < 4) :
    mixB xs c r = bx (bx (bx (times (xs.getD (c + r) 0) 2) (times (xs.getD (c + (r + 1) % 4) 0) 3)) (xs.getD (c + (r + 2) % 4) 0)) (xs.getD (c + (r + 3) % 4) 0) := by
  unfold mixB
  rw [allS_from xs c r h, tm2 _ (byt_get hb _), tm3 _ (byt_get hb _), dbl_add _ _ (byt_get hb _) (byt_get hb _), bx_cancel (bx_nn _ _)]
  ac_rfl
def mixF (xs : List Int) (i : Nat) : Int := bx (bx (bx (times (xs.getD i 0) 2) (times (xs.getD (i / 4 * 4 + (i % 4 + 1) % 4) 0) 3)) (xs.getD (i / 4 * 4 + (i % 4 + 2) % 4) 0)) (xs.getD (i / 4 * 4 + (i % 4 + 3) % 4) 0)
theorem mixF_all {xs : List Int} (hb : Byt xs) : map16 (mixF xs) = mixS xs := map16_ext fun i hi => by
  rw [mixB_eq hb _ _ (by omega), show i / 4 * 4 + i % 4 = i by omega]
  rfl
theorem refMix_l (x0 x1 x10 : List Int) (x9 : Nat) (R : Option (List Int)) (j : Nat) (h10 : x10.length = 16) (b10 : Byt x10) (h9 : x9 ≤ x1.length)
    (hR : ∀ xs, xs = mixS x10 → (redoubtref08_with.f (j + 9) xs (x1.drop x9)).bind (fun t => redoubtref08_By.l1 (j + 9) x0 x1 t (wrap64 ((x9 : Int) + 16))) = R) :
    ∀ (n : Nat) (xs : List Int), n ≤ 16 → xs.length = 16 → fillL (mixF x10) 16 n xs = mixS x10 → redoubtref08_By.l3 (n + 1 + (j + 9)) x0 x1 (x9 : Int) x10 xs ((16 - n : Nat) : Int) = R
  | 0, xs, _, _, hf => by
    rw [show 0 + 1 + (j + 9) = (j + 9) + 1 by omega, redoubtref08_By.l3, if_neg (by omega), if_pos (by omega), if_pos (by omega), Int.toNat_natCast]
    exact hR xs hf
  | n + 1, xs, h, hl, hf => by
    have t1 : By (times (x10.getD (16 - (n + 1)) 0) 2) := by_times _ (byt_get b10 _)
    have t2 : By (times (x10.getD ((16 - (n + 1)) / 4 * 4 + ((16 - (n + 1)) % 4 + 1) % 4) 0) 3) := by_times _ (byt_get b10 _)
    rw [show n + 1 + 1 + (j + 9) = (n + 1 + (j + 9)) + 1 by omega, redoubtref08_By.l3, if_pos (by omega), if_pos (by omega), if_pos (by omega), idx3a _ (by omega), idx3b _ (by omega), idx3c _ (by omega), rd_nat, rd_nat, rd_nat, rd_nat,
      refTimesF _ (by omega) _ _ (byt_get b10 _) ⟨by decide, by decide⟩, Option.bind_some, if_pos (by omega), if_pos (by omega), refTimesF _ (by omega) _ _ (byt_get b10 _) ⟨by decide, by decide⟩, Option.bind_some, if_pos (by omega), if_pos (by omega), if_pos (by omega), if_pos (by omega), if_pos (by omega),
      k_xor_i64 _ _ t1 t2, k_xor_i64 _ _ (by_bx t1 t2) (byt_get b10 _), k_xor_i64 _ _ (by_bx (by_bx t1 t2) (byt_get b10 _)) (byt_get b10 _), wrap64_suc _ (by omega), show 16 - (n + 1) + 1 = 16 - n by omega, Int.toNat_natCast]
    exact refMix_l x0 x1 x10 x9 R j h10 b10 h9 hR n _ (by omega) (by rw [List.length_set]; exact hl) hf
theorem refRows_l (x1 x7 : List Int) (x9 : Nat) (R : Option (List Int)) (j : Nat) (h7 : x7.length = 16)  (b7 : Byt x7) (hR : ∀ xs, xs = rowsS x7 → redoubtref08_By.l2 (j + 1) boxTab x1 x7 (x9 : Int) xs 16 = R) :
    ∀ (n : Nat) (xs : List Int), n ≤ 16 → xs.length = 16 → fillL (fun i => box (x7.getD (5 * i % 16) 0)) 16 n xs = rowsS x7 → redoubtref08_By.l2 (n + 1 + j) boxTab x1 x7 (x9 : Int) xs ((16 - n : Nat) : Int) = R
  | 0, xs, _, _, hf => by
    rw [show 0 + 1 + j = j + 1 by omega]
    exact hR xs hf
  | n + 1, xs, h, hl, hf => by
    have b := byt_get b7 (5 * (16 - (n + 1)) % 16)
    have hbt : boxTab.length = 256 := by decide +kernel
    rw [show n + 1 + 1 + j = (n + 1 + j) + 1 by omega, redoubtref08_By.l2, if_pos (by omega), idx2 _ (by omega), rd_nat, if_pos (by omega), if_pos (by omega), if_pos (by omega), if_pos (by omega), if_pos (by omega), if_pos (by omega), rd_tab, wrap64_suc _ (by omega), show 16 - (n + 1) + 1 = 16 - n by omega, Int.toNat_natCast]
    exact refRows_l x1 x7 x9 R j h7 b7 hR n _ (by omega) (by rw [List.length_set]; exact hl) hf
end Go.Proofs.Ythjcdfnchjbijaa

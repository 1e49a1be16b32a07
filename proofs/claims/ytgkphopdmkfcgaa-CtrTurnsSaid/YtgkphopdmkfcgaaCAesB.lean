/- Contracts of a block's steps: with a key, rows, mix. Conditions: a block of 16 bytes; a key of at least 16. -/
import Derived.Test.YtgkphopdmkfcgaaCAes
import Derived.Test.YtgkphopdmkfcgaaAesB
import Derived.BigRegion
import Derived.BigQuiet
namespace Go.Proofs.Ytgkphopdmkfcgaa
open Go.RowKit Go.Proofs.YtgkphopdmkfcgaaW.PrintWords

theorem blk_info (xs : List Int) (h : xs.length = 16) : (Try.prog.info? 55).map (·.size) = some (cellsB xs).size := by rw [cellsB_size, h]; kernel_rfl


set_option maxHeartbeats 1000000 in
theorem aes_with (xs : List Int) (A : Option Addr) (n c : Nat) (ys : List Int) (w : World) (hx : xs.length = 16) (hb : Byt xs) (hn : 16 ≤ n) (h : Bts w A n c ys) :
    Calls Try.prog (34) #[.agg (cellsB xs), .slice A n c] w fun e w' => e = .returned (.agg (cellsB (withS xs ys))) ∧ Below w.heap.size w w' := by
  have R := Lib.hid ((Arr.at_ w w.heap.size 55 xs rfl).alloc (.cells (cellsB z16) 55))
  have Z := Lib.hid (Arr.at_ (w.alloc (.cells (cellsB xs) 55)) (w.heap.size + 1) 55 z16 (by simp))
  have HB := Lib.hid (below_alloc (below_alloc (Below.refl w.heap.size w) (.cells (cellsB xs) 55)) (.cells (cellsB z16) 55))
  go_enter Try.func34, Try.ntmps34
  go_wp2
  generalize hg : w.heap.size = g at R Z
  go_loopw [6] (fun vi wr => ∃ (i : Nat) (zs : List Int), vi = .int .i64 (i : Int) ∧ i ≤ 16 ∧ Hid (zs.length = 16) ∧ Hid (∀ j, j < 16 → zs.getD j 0 = if j < i then bx (xs.getD j 0) (ys.getD j 0) else xs.getD j 0) ∧ Hid (Arr wr g 55 zs) ∧ Hid (Arr wr (g + 1) 55 z16) ∧ Hid (Below g w wr)) (fun vi _ => 16 - (intOf vi).toNat)
  case atStart => exact ⟨0, xs, rfl, by omega, Lib.hid hx, Lib.hid (fun j _ => by rw [if_neg (by omega)]), R, Z, hg ▸ HB⟩
  case round =>
    clear R Z HB
    obtain ⟨i, zs, rfl, hi, hl, hf, R, Z, HB⟩ := hrel
    by_cases h0 : i < 16
    · have i1 : (i : Int) < (n : Int) := by omega
      have i2 : (0 : Int) ≤ (i : Int) := by omega
      have i3 : (i : Int) < 16 := by omega
      obtain ⟨ad, rfl, ck⟩ := (h.below (hg ▸ HB.out)).at_ i (by omega)
      have cz := R.out.cell i (by rw [hl.out]; exact h0)
      have fz := R.out.free i
      have hz := hf.out i h0
      rw [if_neg (Nat.lt_irrefl i)] at hz
      have hx1 := byt_get hb i
      have hy1 := byt_get h.byt i
      have hv : Hid (bits .xor .u8 (zs.getD i 0) (ys.getD i 0) = bx (xs.getD i 0) (ys.getD i 0)) := Lib.hid (by rw [hz]; exact k_xor_u8 _ _ hx1 hy1)
      have hf' : Hid (∀ j, j < 16 → (zs.set i (bx (xs.getD i 0) (ys.getD i 0))).getD j 0 = if j < i + 1 then bx (xs.getD j 0) (ys.getD j 0) else xs.getD j 0) := Lib.hid (fun j hj => by
        rw [get_set _ _ _ _ (by rw [hl.out]; exact hj)]
        by_cases e : j = i
        · subst e; rw [if_pos rfl, if_pos (by omega)]
        · rw [if_neg e, hf.out j hj]
          by_cases e2 : j < i
          · rw [if_pos e2, if_pos (by omega)]
          · rw [if_neg e2, if_neg (by omega)])
      clear hz hx1 hy1 h hf
      generalize zs.getD i 0 = z at cz hv
      generalize ys.getD i 0 = y at ck hv hf'
      generalize bx (xs.getD i 0) y = v at hv hf'
      go_wp2
      go_region
      rw [hv.out]
      have R2 := Lib.hid ((R.out.set i v).drew)
      have Z2 := Lib.hid ((Z.out.far (p := ⟨g, i, none⟩) (by simp) (.int .u8 v)).drew)
      have B2 := Lib.hid (below_drew (below_set HB.out (p := ⟨g, i, none⟩) (Nat.le_refl _) (.int .u8 v)))
      have l2 : Hid ((zs.set i v).length = 16) := Lib.hid (by rw [List.length_set]; exact hl.out)
      clear R Z HB hl cz fz hv
      generalize (wr.setCell ⟨g, i, none⟩ (.int .u8 v)).drew = w2 at R2 Z2 B2 ⊢
      go_wp2
      refine ⟨⟨i + 1, _, by go_num, by omega, l2, hf', R2, Z2, B2⟩, by simp [intOf]; omega⟩
    · obtain rfl : i = 16 := by omega
      obtain rfl : zs = withS xs ys := eq_map16 _ _ hl.out fun j hj => by rw [hf.out j hj, if_pos hj]
      have hi := Lib.hid (blk_info (withS xs ys) (by rw [hl.out]))
      have ho : (cellsB z16).size = (cellsB (withS xs ys)).size := by rw [cellsB_size, cellsB_size, hl.out]; rfl
      have Q := Lib.hid (Z.out.setRow (withS xs ys)).blk
      have OB := Lib.hid R.out.blk
      have RB := Lib.hid Z.out.blk
      replace ho := Lib.hid ho
      have HC := Lib.hid (below_setRow HB.out (g := g+1) (by omega) (cellsB (withS xs ys)))
      clear R Z HB hf hl
      go_wp2_with (first | (refine wpList_load_row rfl 55 _ rfl (g) rfl 55 (cellsB (withS xs ys)) (0, 0) _ OB.out Try.underlying55 rfl hi.out ?_) | (refine wpList_store_row rfl 55 _ _ rfl (g+1) (cellsB (withS xs ys)) rfl rfl 55 (cellsB z16) RB.out hi.out ho.out (cellsB_one _) ?_))
      refine ret_cell1 rfl rfl Q.out Try.underlying55 rfl hi.out ?_
      exact ⟨rfl, hg ▸ HC.out⟩

set_option maxHeartbeats 1000000 in
theorem aes_rows (xs : List Int) (gt : Nat) (w : World) (hx : xs.length = 16) (hb : Byt xs) (T : Arr w gt 47 boxT) :
    Calls Try.prog (35) #[.agg (cellsB xs), .pointer (some ⟨gt, 0, none⟩)] w fun e w' => e = .returned (.agg (cellsB (rowsS xs))) ∧ Below w.heap.size w w' := by
  have X := Lib.hid (((Arr.at_ w w.heap.size 55 xs rfl).alloc (.cells (cellsB z16) 55)).alloc (.cells (cellsB z16) 55))
  have Z := Lib.hid ((Arr.at_ (w.alloc (.cells (cellsB xs) 55)) (w.heap.size + 1) 55 z16 (by simp)).alloc (.cells (cellsB z16) 55))
  have R := Lib.hid (Arr.at_ ((w.alloc (.cells (cellsB xs) 55)).alloc (.cells (cellsB z16) 55)) (w.heap.size + 2) 55 z16 (by simp))
  have HB := Lib.hid (below_alloc (below_alloc (below_alloc (Below.refl w.heap.size w) (.cells (cellsB xs) 55)) (.cells (cellsB z16) 55)) (.cells (cellsB z16) 55))
  go_enter Try.func35, Try.ntmps35
  go_wp2
  generalize hg : w.heap.size = g at X R Z
  go_loopw [7] (fun vi wr => ∃ (i : Nat) (zs : List Int), vi = .int .i64 (i : Int) ∧ i ≤ 16 ∧ Hid (zs.length = 16) ∧ Hid (∀ j, j < 16 → zs.getD j 0 = if j < i then box (xs.getD (5 * j % 16) 0) else 0) ∧ Hid (Arr wr g 55 xs) ∧ Hid (Arr wr (g + 2) 55 zs) ∧ Hid (Arr wr (g + 1) 55 z16) ∧ Hid (Below g w wr)) (fun vi _ => 16 - (intOf vi).toNat)
  case atStart => exact ⟨0, z16, rfl, by omega, Lib.hid rfl, Lib.hid (fun j _ => by rw [if_neg (by omega)]; exact z16_get j), X, R, Z, hg ▸ HB⟩
  case round =>
    clear X R Z HB
    obtain ⟨i, zs, rfl, hi, hl, hf, X, R, Z, HB⟩ := hrel
    by_cases h0 : i < 16
    · have i2 : (0 : Int) ≤ (i : Int) := by omega
      have i3 : (i : Int) < 16 := by omega
      have hm : 5 * i % 16 < 16 := by omega
      have m1 : IntKind.i64.wrap (5 * (i : Int)) = 5 * (i : Int) := IntWalk.i64_in _ (by omega)
      have m2 : (5 * (i : Int)).tmod 16 = ((5 * i % 16 : Nat) : Int) := by rw [tmod_pos _ _ (by omega)]; omega
      have cx := X.out.cell (5 * i % 16) (by rw [hx]; exact hm)
      have bxx := byt_get hb (5 * i % 16)
      have hbx : Hid (box (xs.getD (5 * i % 16) 0) = boxT.getD (xs.getD (5 * i % 16) 0).toNat 0) := rfl
      have hf' : Hid (∀ j, j < 16 → (zs.set i (box (xs.getD (5 * i % 16) 0))).getD j 0 = if j < i + 1 then box (xs.getD (5 * j % 16) 0) else 0) := Lib.hid (fun j hj => by
        rw [get_set _ _ _ _ (by rw [hl.out]; exact hj)]
        by_cases e : j = i
        · subst e; rw [if_pos rfl, if_pos (by omega)]
        · rw [if_neg e, hf.out j hj]
          by_cases e2 : j < i
          · rw [if_pos e2, if_pos (by omega)]
          · rw [if_neg e2, if_neg (by omega)])
      clear hf
      generalize xs.getD (5 * i % 16) 0 = x at cx bxx hbx hf'
      obtain ⟨k, rfl⟩ := Int.eq_ofNat_of_zero_le bxx.1
      have hk : (k : Int) < 256 := by omega
      have ct := (T.below (hg ▸ HB.out)).cell k (by rw [boxT_len]; omega)
      rw [show boxT.getD k 0 = box (k : Int) from hbx.out.symm] at ct
      have cz := R.out.cell i (by rw [hl.out]; exact h0)
      have fz := R.out.free i
      generalize 5 * i % 16 = m at hm m2 cx
      have m3 : (m : Int) < 16 := by omega
      have m4 : (0 : Int) ≤ (m : Int) := by omega
      clear hbx bxx hm
      generalize box (k : Int) = v at ct hf'
      go_wp2
      go_region
      have R2 := Lib.hid ((R.out.set i v).drew)
      have X2 := Lib.hid ((X.out.far (p := ⟨g + 2, i, none⟩) (by simp) (.int .u8 v)).drew)
      have Z2 := Lib.hid ((Z.out.far (p := ⟨g + 2, i, none⟩) (by simp) (.int .u8 v)).drew)
      have B2 := Lib.hid (below_drew (below_set HB.out (p := ⟨g + 2, i, none⟩) (by simp) (.int .u8 v)))
      have l2 : Hid ((zs.set i v).length = 16) := Lib.hid (by rw [List.length_set]; exact hl.out)
      clear R X Z HB hl cz fz ct cx m1 m2
      generalize (wr.setCell ⟨g + 2, i, none⟩ (.int .u8 v)).drew = w2 at R2 X2 Z2 B2 ⊢
      go_wp2
      refine ⟨⟨i + 1, _, by go_num, by omega, l2, hf', X2, R2, Z2, B2⟩, by simp [intOf]; omega⟩
    · obtain rfl : i = 16 := by omega
      obtain rfl : zs = rowsS xs := eq_map16 _ _ hl.out fun j hj => by rw [hf.out j hj, if_pos hj]
      clear X
      have hi := Lib.hid (blk_info (rowsS xs) (by rw [hl.out]))
      have ho : (cellsB z16).size = (cellsB (rowsS xs)).size := by rw [cellsB_size, cellsB_size, hl.out]; rfl
      have Q := Lib.hid (Z.out.setRow (rowsS xs)).blk
      have OB := Lib.hid R.out.blk
      have RB := Lib.hid Z.out.blk
      replace ho := Lib.hid ho
      have HC := Lib.hid (below_setRow HB.out (g := g+1) (by omega) (cellsB (rowsS xs)))
      clear R Z HB hf hl
      go_wp2_with (first | (refine wpList_load_row rfl 55 _ rfl (g+2) rfl 55 (cellsB (rowsS xs)) (0, 0) _ OB.out Try.underlying55 rfl hi.out ?_) | (refine wpList_store_row rfl 55 _ _ rfl (g+1) (cellsB (rowsS xs)) rfl rfl 55 (cellsB z16) RB.out hi.out ho.out (cellsB_one _) ?_))
      refine ret_cell1 rfl rfl Q.out Try.underlying55 rfl hi.out ?_
      exact ⟨rfl, hg ▸ HC.out⟩
end Go.Proofs.Ytgkphopdmkfcgaa

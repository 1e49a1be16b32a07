/- Contracts of a double, a product, a turn, the table of Box. Conditions: each argument is a byte. -/
import Derived.Test.YtgkphopdmkfcgaaArr
import Derived.Test.YtgkphopdmkfcgaaAes
namespace Go.Proofs.Ytgkphopdmkfcgaa
open Go.RowKit Go.Proofs.YtgkphopdmkfcgaaW.PrintWords

set_option maxHeartbeats 400000 in
theorem aes_double (x : Int) (w : World) (hx : 0 ≤ x ∧ x ≤ 255) :
    Calls Try.prog 29 #[.int .u8 x] w fun e w' => e = .returned (.int .u8 (dbl x)) ∧ w = w' := by
  have h := Lib.hid (double_go x hx)
  go_enter Try.func29, Try.ntmps29
  go_wp2
  go_ret
  exact ⟨ret_int h.out, rfl⟩

set_option maxHeartbeats 400000 in
theorem bits_rot1 (x : Int) (w : World) (hx : 0 ≤ x ∧ x ≤ 255) :
    Calls Try.prog 37 #[.int .u8 x, .int .i64 1] w fun e w' => e = .returned (.int .u8 (rot x 1)) ∧ w = w' := by
  have e1 : bits .and .u64 1 7 = 1 := by decide +kernel
  have h := Lib.hid (rot_go1 x hx)
  go_enter Try.func37, Try.ntmps37
  go_wp2
  go_ret
  exact ⟨ret_int h.out, rfl⟩

set_option maxHeartbeats 400000 in
theorem bits_rot2 (x : Int) (w : World) (hx : 0 ≤ x ∧ x ≤ 255) :
    Calls Try.prog 37 #[.int .u8 x, .int .i64 2] w fun e w' => e = .returned (.int .u8 (rot x 2)) ∧ w = w' := by
  have e1 : bits .and .u64 2 7 = 2 := by decide +kernel
  have h := Lib.hid (rot_go2 x hx)
  go_enter Try.func37, Try.ntmps37
  go_wp2
  go_ret
  exact ⟨ret_int h.out, rfl⟩

set_option maxHeartbeats 400000 in
theorem bits_rot3 (x : Int) (w : World) (hx : 0 ≤ x ∧ x ≤ 255) :
    Calls Try.prog 37 #[.int .u8 x, .int .i64 3] w fun e w' => e = .returned (.int .u8 (rot x 3)) ∧ w = w' := by
  have e1 : bits .and .u64 3 7 = 3 := by decide +kernel
  have h := Lib.hid (rot_go3 x hx)
  go_enter Try.func37, Try.ntmps37
  go_wp2
  go_ret
  exact ⟨ret_int h.out, rfl⟩

set_option maxHeartbeats 400000 in
theorem bits_rot4 (x : Int) (w : World) (hx : 0 ≤ x ∧ x ≤ 255) :
    Calls Try.prog 37 #[.int .u8 x, .int .i64 4] w fun e w' => e = .returned (.int .u8 (rot x 4)) ∧ w = w' := by
  have e1 : bits .and .u64 4 7 = 4 := by decide +kernel
  have h := Lib.hid (rot_go4 x hx)
  go_enter Try.func37, Try.ntmps37
  go_wp2
  go_ret
  exact ⟨ret_int h.out, rfl⟩

set_option maxHeartbeats 1000000 in
theorem aes_Times (x y : Int) (w : World) (hx : 0 ≤ x ∧ x ≤ 255) (hy : 0 ≤ y ∧ y ≤ 255) :
    Calls Try.prog 38 #[.int .u8 x, .int .u8 y] w fun e w' => e = .returned (.int .u8 (times x y)) ∧ w = w' := by
  go_enter Try.func38, Try.ntmps38
  go_wp2
  go_loop [0, 1, 5] (fun vx vy vn => ∃ (j : Nat) (x' y' n' : Int), vx = .int .u8 x' ∧ vy = .int .u8 y' ∧ vn = .int .u8 n' ∧ (0 ≤ x' ∧ x' ≤ 255) ∧ (0 ≤ y' ∧ y' ≤ 255) ∧ (0 ≤ n' ∧ n' ≤ 255) ∧ y' < 2 ^ j ∧ Hid (times x y = timesL j x' y' n')) (fun _ vy _ => (intOf vy).toNat)
  case atStart => exact ⟨8, x, y, 0, rfl, rfl, rfl, hx, hy, by omega, by omega, Lib.hid rfl⟩
  case round =>
    clear hx hy
    obtain ⟨j, x', y', n', rfl, rfl, rfl, hx, hy, hn, hj, hT⟩ := hrel
    by_cases h0 : y' = 0
    · subst h0
      go_wp2
      go_ret
      exact ⟨ret_int (by rw [hT.out, timesL_zero]), rfl⟩
    · match j, hj with
      | 0, hj => omega
      | j + 1, hj =>
      have h1 : (0 : Int) < y' := by omega
      have ha := Lib.hid (and_neg_go x' y' hx hy)
      go_wp2_with fail
      refine (aes_double _ _ hx).mono ?_
      rintro e w' ⟨rfl, rfl⟩
      go_wp2
      refine ⟨⟨j, dbl x', y' / 2, _, rfl, rfl, rfl, dbl_byte, by omega, ?_, by rw [Int.pow_succ] at hj; omega, Lib.hid ?_⟩, by simp [intOf]; omega⟩
      · rw [ha.out]
        split
        · rw [k_xor_u8 _ _ hn hx]; exact bx_byte hn hx
        · rw [k_xor_u8 _ _ hn (by omega), bx_zero hn.1]; exact hn
      · rw [hT.out, timesL, ha.out]
        congr 1
        split
        · rw [k_xor_u8 _ _ hn hx]
        · rw [k_xor_u8 _ _ hn (by omega), bx_zero hn.1]

/-- 256 times 0, in memory. -/
def zs256 : Array Value := cellsB zl256
theorem zs256_ne : zs256 ≠ #[] := by decide +kernel
theorem zero256 (W : World) : (zeroValue 47).run Try.prog W = .ok (.agg zs256) W := by
  have h : (Try.prog.info? 47).map (·.zero) = some (some (.agg zs256)) := by kernel_rfl
  obtain ⟨i, hi, hz⟩ := Option.map_eq_some_iff.1 h
  simp [zeroValue, typeInfo, Sem.run_bind, hi, hz]

set_option maxHeartbeats 1000000 in
set_option maxRecDepth 100000 in
theorem aes_boxes (w : World) :
    Calls Try.prog 27 #[] w fun e w' => e = .returned (.agg (cellsB boxT)) ∧ Below w.heap.size w w' := by
  have z := zero256
  have R := Lib.hid ((Arr.at_ w w.heap.size 47 zl256 rfl).alloc (.cells zs256 47))
  have O := Lib.hid (Arr.at_ (w.alloc (.cells zs256 47)) (w.heap.size + 1) 47 zl256 (by simp))
  have HB := Lib.hid (below_alloc (below_alloc (Below.refl w.heap.size w) (.cells zs256 47)) (.cells zs256 47))
  have hne := zs256_ne
  go_enter Try.func27, Try.ntmps27
  go_wp2
  clear hne z
  generalize hg : w.heap.size = g at R O
  go_loopw [2, 3, 5] (fun vp vq vi wr => ∃ (j k : Nat) (q : Int) (out : List Int), vp = .int .u8 (k : Int) ∧ vq = .int .u8 q ∧ vi = .int .i64 (j : Int) ∧ j ≤ 255 ∧ k < 256 ∧ (0 ≤ q ∧ q ≤ 255) ∧ Hid (out.length = 256) ∧ Hid (boxL (255 - j) (k : Int) q out = boxL 255 1 1 zl256) ∧ Hid (Arr wr (g + 1) 47 out) ∧ Hid (Arr wr g 47 zl256) ∧ Hid (Below g w wr)) (fun _ _ vi _ => 255 - (intOf vi).toNat)
  case atStart => exact ⟨0, 1, 1, zl256, rfl, rfl, rfl, by omega, by omega, by omega, Lib.hid zl256_len, Lib.hid rfl, O, R, hg ▸ HB⟩
  case round =>
    clear O R HB
    obtain ⟨j, k, q, out, rfl, rfl, rfl, hj, hk, hq, hlen, hL, O, R, HB⟩ := hrel
    by_cases h0 : j < 255
    · have b1 := rot_byte q 1 hq (by omega)
      have b2 := rot_byte q 2 hq (by omega)
      have b3 := rot_byte q 3 hq (by omega)
      have b4 := rot_byte q 4 hq (by omega)
      have cO := O.out.cell k (by rw [hlen.out]; exact hk)
      have fO := O.out.free k
      have kk : (k : Int) < 256 := by omega
      go_wp2_with fail
      refine (bits_rot1 _ _ hq).mono ?_
      rintro e w' ⟨rfl, rfl⟩
      go_wp2_with fail
      refine (bits_rot2 _ _ hq).mono ?_
      rintro e w' ⟨rfl, rfl⟩
      go_wp2_with fail
      refine (bits_rot3 _ _ hq).mono ?_
      rintro e w' ⟨rfl, rfl⟩
      go_wp2_with fail
      refine (bits_rot4 _ _ hq).mono ?_
      rintro e w' ⟨rfl, rfl⟩
      go_wp2_with fail
      rw [boxV_go q hq]
      have O' := Lib.hid (O.out.set k (boxV q))
      have R' := Lib.hid (R.out.far (p := ⟨g + 1, k, none⟩) (by simp) (.int .u8 (boxV q)))
      have HB' := Lib.hid (below_set HB.out (p := ⟨g + 1, k, none⟩) (by simp) (.int .u8 (boxV q)))
      have hlen' : Hid ((out.set k (boxV q)).length = 256) := Lib.hid (by rw [List.length_set]; exact hlen.out)
      generalize wr.setCell ⟨g + 1, k, none⟩ (.int .u8 (boxV q)) = w2 at O' R' HB' ⊢
      clear O R HB cO fO b1 b2 b3 b4 hlen
      have kb : (0 : Int) ≤ (k : Int) ∧ (k : Int) ≤ 255 := by omega
      have db := dbl_byte (x := (k : Int))
      have hx : Hid (bits .xor .u8 (dbl (k : Int)) (k : Int) = (((dbl (k : Int)).toNat ^^^ k : Nat) : Int)) := Lib.hid (by rw [k_xor_u8 _ _ db kb]; rfl)
      have hk2 : (dbl (k : Int)).toNat ^^^ k < 256 := Nat.xor_lt_two_pow (n := 8) (by omega) hk
      refine (aes_double _ _ kb).mono ?_
      rintro e w' ⟨rfl, rfl⟩
      go_wp2_with fail
      refine (aes_Times _ _ _ hq (by omega)).mono ?_
      rintro e w' ⟨rfl, rfl⟩
      rw [hx.out]
      have hk3 : Hid ((bx (dbl (k : Int)) (k : Int)) = (((dbl (k : Int)).toNat ^^^ k : Nat) : Int)) := rfl
      generalize (dbl (k : Int)).toNat ^^^ k = k2 at hk2 hk3 ⊢
      clear hx db kb
      go_wp2
      refine ⟨⟨j + 1, k2, times q 246, _, rfl, rfl, by go_num, by omega, hk2, times_byte hq, hlen', Lib.hid ?_, O', R', HB'⟩, by simp [intOf]; omega⟩
      rw [← hL.out, show 255 - j = (255 - (j + 1)) + 1 by omega, boxL, hk3.out]
      rfl
    · obtain rfl : j = 255 := by omega
      have hT : Hid (boxT = out.set 0 99) := Lib.hid (by unfold boxT; rw [← hL.out]; rfl)
      have cO := O.out.cell 0 (by rw [hlen.out]; decide)
      have fO := O.out.free 0
      have O' := O.out.set 0 99
      rw [← hT.out] at O'
      have R' := R.out.far (p := ⟨g + 1, 0, none⟩) (by simp) (.int .u8 99)
      have HB' := Lib.hid (below_set HB.out (p := ⟨g + 1, 0, none⟩) (by simp) (.int .u8 99))
      have hi : (Try.prog.info? 47).map (·.size) = some (cellsB boxT).size := by rw [cellsB_size, boxT_len]; kernel_rfl
      have ho : (cellsB zl256).size = (cellsB boxT).size := by rw [cellsB_size, cellsB_size, boxT_len, zl256_len]
      have Q := Lib.hid (R'.setRow boxT).blk
      have OB := Lib.hid O'.blk
      have RB := Lib.hid R'.blk
      replace hi := Lib.hid hi
      replace ho := Lib.hid ho
      have HC := Lib.hid (below_setRow HB'.out (g := g) (Nat.le_refl _) (cellsB boxT))
      clear O R HB R' O' HB' hlen hL hT
      go_wp2_with (first | (refine wpList_load_row rfl 47 _ rfl (g + 1) rfl 47 (cellsB boxT) (0, 0) _ OB.out Try.underlying47 rfl hi.out ?_) | (refine wpList_store_row rfl 47 _ _ rfl g (cellsB boxT) rfl rfl 47 (cellsB zl256) RB.out hi.out ho.out (cellsB_one _) ?_))
      refine ret_cell1 rfl rfl Q.out Try.underlying47 rfl hi.out ?_
      exact ⟨rfl, hg ▸ HC.out⟩

/-- The table, in memory. -/
theorem box_info : (Try.prog.info? 47).map (·.size) = some (cellsB boxT).size := by rw [cellsB_size, boxT_len]; kernel_rfl
theorem box_size : zs256.size = (cellsB boxT).size := by show (cellsB zl256).size = _; rw [cellsB_size, cellsB_size, boxT_len, zl256_len]
theorem box_laid (w : World) (g : Nat) (hg : w.heap.size = g) : (w.alloc (.cells zs256 47)).heap[g]? = some (.cells zs256 47 (0, 0)) := by subst hg; exact blk_new _ _
theorem box_arr (w : World) (g : Nat) (hg : w.heap.size = g) : Arr ((w.alloc (.cells zs256 47)).setRow g (cellsB boxT)) g 47 boxT := ⟨setRow_heap _ _ _ _ _ _ (box_laid w g hg)⟩

end Go.Proofs.Ytgkphopdmkfcgaa

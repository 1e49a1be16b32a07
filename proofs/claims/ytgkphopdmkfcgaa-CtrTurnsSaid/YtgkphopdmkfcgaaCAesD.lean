/- Contract of a block under keys. Conditions: each argument is of its Go type. -/
import Derived.Test.YtgkphopdmkfcgaaCAesC
namespace Go.Proofs.Ytgkphopdmkfcgaa
open Go.RowKit Go.Proofs.YtgkphopdmkfcgaaW.PrintWords








set_option maxHeartbeats 2000000 in
theorem aes_Block (A : Option Addr) (n c : Nat) (ks : List Int) (B : Option Addr) (m d : Nat) (ys : List Int) (w : World) (h : Bts w A n c ks) (h2 : Bts w B m d ys) :
    Calls Try.prog 25 #[.slice A n c, .slice B m d] w (ReadPost (blkErr n m) (blockS ks ys) w) := by
  by_cases hn : n = 176 ∨ n = 240
  · by_cases hm : m = 16
    · subst hm
      rw [blkErr_zero.2 ⟨hn, (rfl : 16 = 16)⟩]
      have hl := h.len
      have hb := h.byt
      have hb2 := h2.byt
      replace hl := Lib.hid hl
      rcases hn with rfl | rfl
      · go_enter Try.func25, Try.ntmps25
        go_wp2_with fail
        refine (aes_boxes _).mono ?_
        rintro e w2 ⟨rfl, hB2⟩
        have z := zero256
        have hne := zs256_ne
        have hi := Lib.hid box_info
        have ho := Lib.hid box_size
        have L := Lib.hid (box_laid w2 w2.heap.size rfl)
        go_wp2_with (refine wpList_store_row rfl 47 _ _ rfl w2.heap.size (cellsB boxT) rfl rfl 47 zs256 L.out hi.out ho.out (cellsB_one _) (hid_stop ?_))
        have T := box_arr w2 w2.heap.size rfl
        have HT := below_setRow (below_alloc (Below.refl w2.heap.size w2) (.cells zs256 47)) (g := w2.heap.size) (Nat.le_refl _) (cellsB boxT)
        generalize (w2.alloc (.cells zs256 47)).setRow w2.heap.size (cellsB boxT) = w3 at T HT ⊢
        refine Lib.hid ?_
        clear z hne hi ho L
        replace HT := below_step2 hB2 HT
        generalize hgt : w2.heap.size = gt at T ⊢
        have hgt' : w.heap.size ≤ gt := by have := hB2.size; omega
        clear hB2 hgt
        obtain ⟨ad, rfl, cc⟩ := (h2.below HT).some_ (by omega)
        have hi2 := Lib.hid (blk_info ys (by rw [h2.len]))
        have cc' := Lib.hid (by rw [← h2.len] at cc; exact cc)
        clear cc
        have ha := fun W => run_arrayAt (P := Try.prog) W 55 _ 16 (some ad) 16 d Try.underlying55 (Nat.le_refl _)
        go_wp2_with (refine wpList_load_at rfl 55 _ rfl ad rfl ys _ cc'.out Try.underlying55 rfl hi2.out ?_)
        clear ha hi2 cc'
        refine (aes_with ys A 176 c ks _ h2.len hb2 (by omega) (h.below HT)).mono ?_
        rintro e w4 ⟨rfl, hB4⟩
        replace T := T.below hB4
        replace HT := below_step2 HT hB4
        clear hB4
        have gt4 := T.lt
        have Z := Lib.hid (Arr.at_ w4 w4.heap.size 55 z16 rfl)
        have hi := Lib.hid (blk_info (withS ys ks) (withS_len _ _))
        have ho : (cellsB z16).size = (cellsB (withS ys ks)).size := by rw [cellsB_size, cellsB_size, withS_len]; rfl
        replace ho := Lib.hid ho
        have RB := Lib.hid Z.out.blk
        have T5 := Lib.hid ((T.alloc (.cells (cellsB z16) 55)).farRow (g' := w4.heap.size) (by omega) (cellsB (withS ys ks)))
        have S5 := Lib.hid (Z.out.setRow (withS ys ks))
        have B5 := Lib.hid (below_setRow (below_alloc HT (.cells (cellsB z16) 55)) (g := w4.heap.size) HT.size (cellsB (withS ys ks)))
        clear T HT Z
        go_wp2_with (refine wpList_store_row rfl 55 _ _ rfl w4.heap.size (cellsB (withS ys ks)) rfl rfl 55 (cellsB z16) RB.out hi.out ho.out (cellsB_one _) (hid_stop ?_))
        clear RB ho hi
        generalize hgs : w4.heap.size = gs at T5 S5 B5 gt4 ⊢
        change Hid (wpList _ _ _ _ _ ((w4.alloc (.cells (cellsB z16) 55)).setRow gs (cellsB (withS ys ks))))
        generalize (w4.alloc (.cells (cellsB z16) 55)).setRow gs (cellsB (withS ys ks)) = w5 at T5 S5 B5 ⊢
        refine Lib.hid ?_
        have hgs' : w.heap.size ≤ gs := Nat.le_trans hgt' (Nat.le_of_lt gt4)
        clear hgs
        have hbs := Lib.hid (withS_byt hb2 hb)
        have hq : Hid (blockL (176 / 16 - 1) (withS ys ks) (ks.drop 16) = blockS ks ys) := Lib.hid (by unfold blockS; rw [hl.out])
        have hls := Lib.hid (withS_len ys ks)
        generalize withS ys ks = st0 at S5 hbs hq hls
        have h6 := h.drop_lit 16 (by omega) (by omega)
        have cN := h.le
        have cN' : (176 : Int) ≤ (c : Int) := by omega
        rw [if_neg (show ¬ c = 16 by omega)] at h6
        replace h6 := Lib.hid h6
        go_wp2
        go_loopw [0] (fun vk wr => ∃ (A' : Option Addr) (n' k c' : Nat) (rest st : List Int), vk = .slice A' n' c' ∧ Hid (n' = 16 * k) ∧ Hid (st.length = 16) ∧ Hid (Byt st) ∧ Hid (blockL k st rest = blockS ks ys) ∧ Bts w A' n' c' rest ∧ Hid (Arr wr gs 55 st) ∧ Hid (Arr wr gt 47 boxT) ∧ Hid (Below w.heap.size w wr)) (fun vk _ => slen vk)
        case atStart => exact ⟨_, _, (176 / 16 - 1), _, _, st0, rfl, Lib.hid rfl, hls, hbs, hq, h6.out, S5, T5, B5⟩
        case round =>
          clear h6 S5 T5 B5 hq hbs hls cN cN'
          obtain ⟨A', n', k, c', rest, st, rfl, hnk, hls, hbs, hq, h5, S5, T5, B5⟩ := hrel
          match k, hnk, hq with
          | 0, hnk, hq =>
            obtain rfl : n' = 0 := hnk.out
            go_wp2
            go_ret2
            refine ⟨_, _, _, rfl, ?_, B5.out⟩
            rw [if_pos rfl, ← hq.out]
            have q := S5.out.bts hbs.out (by rw [hls.out]; decide)
            rw [hls.out] at q
            exact q
          | k + 1, hnk, hq =>
            have hn' := hnk.out
            have j0 : (0 : Int) < (n' : Int) := by omega
            have j1 : 0 < n' := by omega
            have hrl := h5.len
            replace hrl := Lib.hid hrl
            replace hnk := Lib.hid hnk.out
            clear hn'
            have hi := Lib.hid (blk_info st hls.out)
            have RB := Lib.hid S5.out.blk
            go_wp2_with (refine wpList_load_row rfl 55 _ rfl gs rfl 55 (cellsB (st)) (0, 0) _ RB.out Try.underlying55 rfl hi.out ?_)
            clear RB
            refine (aes_rows st gt _ hls.out hbs.out T5.out).mono ?_
            rintro e w6 ⟨rfl, hB6⟩
            replace T5 := Lib.hid (T5.out.below hB6)
            replace S5 := Lib.hid (S5.out.below hB6)
            replace B5 := Lib.hid (below_step2 B5.out hB6)
            clear hB6 hi
            have hi := Lib.hid (blk_info (rowsS st) (rowsS_len st))
            have ho : (cellsB (st)).size = (cellsB (rowsS st)).size := by rw [cellsB_size, cellsB_size, rowsS_len st, hls.out]
            replace ho := Lib.hid ho
            have RB := Lib.hid S5.out.blk
            replace T5 := Lib.hid (T5.out.farRow (g' := gs) (by omega) (cellsB (rowsS st)))
            replace S5 := Lib.hid (S5.out.setRow (rowsS st))
            replace B5 := Lib.hid (below_setRow B5.out (g := gs) hgs' (cellsB (rowsS st)))
            go_wp2_with (refine wpList_store_row rfl 55 _ _ rfl gs (cellsB (rowsS st)) rfl rfl 55 (cellsB (st)) RB.out hi.out ho.out (cellsB_one _) (hid_stop ?_))
            clear RB ho
            generalize w6.setRow gs (cellsB (rowsS st)) = w7 at T5 S5 B5 ⊢
            refine Lib.hid ?_
            by_cases h16 : 16 < n'
            · have e16 : decide ((16 : Int) < (n' : Int)) = true := decide_eq_true (by omega)
              have e16' : decide (16 < n') = true := decide_eq_true h16
              have RB := Lib.hid S5.out.blk
              go_wp2_with (refine wpList_load_row rfl 55 _ rfl gs rfl 55 (cellsB (rowsS st)) (0, 0) _ RB.out Try.underlying55 rfl hi.out ?_)
              clear RB
              refine (aes_mix (rowsS st) _ (rowsS_len _) (rowsS_byt _)).mono ?_
              rintro e w8 ⟨rfl, hB8⟩
              replace T5 := Lib.hid (T5.out.below hB8)
              replace S5 := Lib.hid (S5.out.below hB8)
              replace B5 := Lib.hid (below_step2 B5.out hB8)
              clear hB8 hi
              have hi := Lib.hid (blk_info (mixS (rowsS st)) (mixS_len _))
              have ho : (cellsB (rowsS st)).size = (cellsB (mixS (rowsS st))).size := by rw [cellsB_size, cellsB_size, mixS_len _, (rowsS_len _)]
              replace ho := Lib.hid ho
              have RB := Lib.hid S5.out.blk
              replace T5 := Lib.hid (T5.out.farRow (g' := gs) (by omega) (cellsB (mixS (rowsS st))))
              replace S5 := Lib.hid (S5.out.setRow (mixS (rowsS st)))
              replace B5 := Lib.hid (below_setRow B5.out (g := gs) hgs' (cellsB (mixS (rowsS st))))
              go_wp2_with (refine wpList_store_row rfl 55 _ _ rfl gs (cellsB (mixS (rowsS st))) rfl rfl 55 (cellsB (rowsS st)) RB.out hi.out ho.out (cellsB_one _) (hid_stop ?_))
              clear RB ho
              generalize w8.setRow gs (cellsB (mixS (rowsS st))) = w9 at T5 S5 B5 ⊢
              refine Lib.hid ?_
              have hn16 : 16 ≤ n' := by have := hnk.out; omega
              have RB := Lib.hid S5.out.blk
              go_wp2_with (refine wpList_load_row rfl 55 _ rfl gs rfl 55 (cellsB (mixS (rowsS st))) (0, 0) _ RB.out Try.underlying55 rfl hi.out ?_)
              clear RB
              refine (aes_with (mixS (rowsS st)) A' n' c' rest _ (mixS_len _) (mixS_byt (rowsS_byt st)) hn16 (h5.below B5.out)).mono ?_
              rintro e w10 ⟨rfl, hB10⟩
              replace T5 := Lib.hid (T5.out.below hB10)
              replace S5 := Lib.hid (S5.out.below hB10)
              replace B5 := Lib.hid (below_step2 B5.out hB10)
              clear hB10 hi
              have hi := Lib.hid (blk_info (withS (mixS (rowsS st)) rest) (withS_len _ _))
              have ho : (cellsB (mixS (rowsS st))).size = (cellsB (withS (mixS (rowsS st)) rest)).size := by rw [cellsB_size, cellsB_size, withS_len _ _, (mixS_len _)]
              replace ho := Lib.hid ho
              have RB := Lib.hid S5.out.blk
              replace T5 := Lib.hid (T5.out.farRow (g' := gs) (by omega) (cellsB (withS (mixS (rowsS st)) rest)))
              replace S5 := Lib.hid (S5.out.setRow (withS (mixS (rowsS st)) rest))
              replace B5 := Lib.hid (below_setRow B5.out (g := gs) hgs' (cellsB (withS (mixS (rowsS st)) rest)))
              go_wp2_with (refine wpList_store_row rfl 55 _ _ rfl gs (cellsB (withS (mixS (rowsS st)) rest)) rfl rfl 55 (cellsB (mixS (rowsS st))) RB.out hi.out ho.out (cellsB_one _) (hid_stop ?_))
              clear RB ho
              generalize w10.setRow gs (cellsB (withS (mixS (rowsS st)) rest)) = w11 at T5 S5 B5 ⊢
              refine Lib.hid ?_
              have h5d := h5.drop_lit 16 (by omega) (by omega)
              have hbr := h5.byt
              have hle := h5.le
              have j2 : (16 : Int) ≤ (n' : Int) := by omega
              have j3 : (n' : Int) ≤ (c' : Int) := by omega
              have j4 : (16 : Int) ≤ (c' : Int) := by omega
              replace h5d := Lib.hid h5d
              have hbn := Lib.hid (withS_byt (mixS_byt (rowsS_byt st)) hbr)
              clear hi
              go_wp2
              refine ⟨⟨_, n' - 16, k, _, rest.drop 16, withS (mixS (rowsS st)) rest, rfl, Lib.hid (by have := hnk.out; omega), Lib.hid (withS_len _ _), hbn, Lib.hid ?_, (by first | exact h5d.out | (have q := h5d.out; rw [if_neg (show ¬ c' = 16 by omega)] at q; exact q)), S5, T5, B5⟩, by simp only [slen]; omega⟩
              rw [← hq.out, blockL, hrl.out]
              rw [if_pos h16]
            · have e16 : decide ((16 : Int) < (n' : Int)) = false := decide_eq_false (by omega)
              have e16' : decide (16 < n') = false := decide_eq_false h16
              have hn16 : 16 ≤ n' := by have := hnk.out; omega
              have RB := Lib.hid S5.out.blk
              go_wp2_with (refine wpList_load_row rfl 55 _ rfl gs rfl 55 (cellsB (rowsS st)) (0, 0) _ RB.out Try.underlying55 rfl hi.out ?_)
              clear RB
              refine (aes_with (rowsS st) A' n' c' rest _ (rowsS_len _) (rowsS_byt st) hn16 (h5.below B5.out)).mono ?_
              rintro e w10 ⟨rfl, hB10⟩
              replace T5 := Lib.hid (T5.out.below hB10)
              replace S5 := Lib.hid (S5.out.below hB10)
              replace B5 := Lib.hid (below_step2 B5.out hB10)
              clear hB10 hi
              have hi := Lib.hid (blk_info (withS (rowsS st) rest) (withS_len _ _))
              have ho : (cellsB (rowsS st)).size = (cellsB (withS (rowsS st) rest)).size := by rw [cellsB_size, cellsB_size, withS_len _ _, (rowsS_len _)]
              replace ho := Lib.hid ho
              have RB := Lib.hid S5.out.blk
              replace T5 := Lib.hid (T5.out.farRow (g' := gs) (by omega) (cellsB (withS (rowsS st) rest)))
              replace S5 := Lib.hid (S5.out.setRow (withS (rowsS st) rest))
              replace B5 := Lib.hid (below_setRow B5.out (g := gs) hgs' (cellsB (withS (rowsS st) rest)))
              go_wp2_with (refine wpList_store_row rfl 55 _ _ rfl gs (cellsB (withS (rowsS st) rest)) rfl rfl 55 (cellsB (rowsS st)) RB.out hi.out ho.out (cellsB_one _) (hid_stop ?_))
              clear RB ho
              generalize w10.setRow gs (cellsB (withS (rowsS st) rest)) = w11 at T5 S5 B5 ⊢
              refine Lib.hid ?_
              have h5d := h5.drop_lit 16 (by omega) (by omega)
              have hbr := h5.byt
              have hle := h5.le
              have j2 : (16 : Int) ≤ (n' : Int) := by omega
              have j3 : (n' : Int) ≤ (c' : Int) := by omega
              have j4 : (16 : Int) ≤ (c' : Int) := by omega
              replace h5d := Lib.hid h5d
              have hbn := Lib.hid (withS_byt (rowsS_byt st) hbr)
              clear hi
              go_wp2
              refine ⟨⟨_, n' - 16, k, _, rest.drop 16, withS (rowsS st) rest, rfl, Lib.hid (by have := hnk.out; omega), Lib.hid (withS_len _ _), hbn, Lib.hid ?_, (by first | exact h5d.out | (have q := h5d.out; rw [if_neg (show ¬ c' = 16 by omega)] at q; exact q)), S5, T5, B5⟩, by simp only [slen]; omega⟩
              rw [← hq.out, blockL, hrl.out]
              rw [if_neg h16]
      · go_enter Try.func25, Try.ntmps25
        go_wp2_with fail
        refine (aes_boxes _).mono ?_
        rintro e w2 ⟨rfl, hB2⟩
        have z := zero256
        have hne := zs256_ne
        have hi := Lib.hid box_info
        have ho := Lib.hid box_size
        have L := Lib.hid (box_laid w2 w2.heap.size rfl)
        go_wp2_with (refine wpList_store_row rfl 47 _ _ rfl w2.heap.size (cellsB boxT) rfl rfl 47 zs256 L.out hi.out ho.out (cellsB_one _) (hid_stop ?_))
        have T := box_arr w2 w2.heap.size rfl
        have HT := below_setRow (below_alloc (Below.refl w2.heap.size w2) (.cells zs256 47)) (g := w2.heap.size) (Nat.le_refl _) (cellsB boxT)
        generalize (w2.alloc (.cells zs256 47)).setRow w2.heap.size (cellsB boxT) = w3 at T HT ⊢
        refine Lib.hid ?_
        clear z hne hi ho L
        replace HT := below_step2 hB2 HT
        generalize hgt : w2.heap.size = gt at T ⊢
        have hgt' : w.heap.size ≤ gt := by have := hB2.size; omega
        clear hB2 hgt
        obtain ⟨ad, rfl, cc⟩ := (h2.below HT).some_ (by omega)
        have hi2 := Lib.hid (blk_info ys (by rw [h2.len]))
        have cc' := Lib.hid (by rw [← h2.len] at cc; exact cc)
        clear cc
        have ha := fun W => run_arrayAt (P := Try.prog) W 55 _ 16 (some ad) 16 d Try.underlying55 (Nat.le_refl _)
        go_wp2_with (refine wpList_load_at rfl 55 _ rfl ad rfl ys _ cc'.out Try.underlying55 rfl hi2.out ?_)
        clear ha hi2 cc'
        refine (aes_with ys A 240 c ks _ h2.len hb2 (by omega) (h.below HT)).mono ?_
        rintro e w4 ⟨rfl, hB4⟩
        replace T := T.below hB4
        replace HT := below_step2 HT hB4
        clear hB4
        have gt4 := T.lt
        have Z := Lib.hid (Arr.at_ w4 w4.heap.size 55 z16 rfl)
        have hi := Lib.hid (blk_info (withS ys ks) (withS_len _ _))
        have ho : (cellsB z16).size = (cellsB (withS ys ks)).size := by rw [cellsB_size, cellsB_size, withS_len]; rfl
        replace ho := Lib.hid ho
        have RB := Lib.hid Z.out.blk
        have T5 := Lib.hid ((T.alloc (.cells (cellsB z16) 55)).farRow (g' := w4.heap.size) (by omega) (cellsB (withS ys ks)))
        have S5 := Lib.hid (Z.out.setRow (withS ys ks))
        have B5 := Lib.hid (below_setRow (below_alloc HT (.cells (cellsB z16) 55)) (g := w4.heap.size) HT.size (cellsB (withS ys ks)))
        clear T HT Z
        go_wp2_with (refine wpList_store_row rfl 55 _ _ rfl w4.heap.size (cellsB (withS ys ks)) rfl rfl 55 (cellsB z16) RB.out hi.out ho.out (cellsB_one _) (hid_stop ?_))
        clear RB ho hi
        generalize hgs : w4.heap.size = gs at T5 S5 B5 gt4 ⊢
        change Hid (wpList _ _ _ _ _ ((w4.alloc (.cells (cellsB z16) 55)).setRow gs (cellsB (withS ys ks))))
        generalize (w4.alloc (.cells (cellsB z16) 55)).setRow gs (cellsB (withS ys ks)) = w5 at T5 S5 B5 ⊢
        refine Lib.hid ?_
        have hgs' : w.heap.size ≤ gs := Nat.le_trans hgt' (Nat.le_of_lt gt4)
        clear hgs
        have hbs := Lib.hid (withS_byt hb2 hb)
        have hq : Hid (blockL (240 / 16 - 1) (withS ys ks) (ks.drop 16) = blockS ks ys) := Lib.hid (by unfold blockS; rw [hl.out])
        have hls := Lib.hid (withS_len ys ks)
        generalize withS ys ks = st0 at S5 hbs hq hls
        have h6 := h.drop_lit 16 (by omega) (by omega)
        have cN := h.le
        have cN' : (240 : Int) ≤ (c : Int) := by omega
        rw [if_neg (show ¬ c = 16 by omega)] at h6
        replace h6 := Lib.hid h6
        go_wp2
        go_loopw [0] (fun vk wr => ∃ (A' : Option Addr) (n' k c' : Nat) (rest st : List Int), vk = .slice A' n' c' ∧ Hid (n' = 16 * k) ∧ Hid (st.length = 16) ∧ Hid (Byt st) ∧ Hid (blockL k st rest = blockS ks ys) ∧ Bts w A' n' c' rest ∧ Hid (Arr wr gs 55 st) ∧ Hid (Arr wr gt 47 boxT) ∧ Hid (Below w.heap.size w wr)) (fun vk _ => slen vk)
        case atStart => exact ⟨_, _, (240 / 16 - 1), _, _, st0, rfl, Lib.hid rfl, hls, hbs, hq, h6.out, S5, T5, B5⟩
        case round =>
          clear h6 S5 T5 B5 hq hbs hls cN cN'
          obtain ⟨A', n', k, c', rest, st, rfl, hnk, hls, hbs, hq, h5, S5, T5, B5⟩ := hrel
          match k, hnk, hq with
          | 0, hnk, hq =>
            obtain rfl : n' = 0 := hnk.out
            go_wp2
            go_ret2
            refine ⟨_, _, _, rfl, ?_, B5.out⟩
            rw [if_pos rfl, ← hq.out]
            have q := S5.out.bts hbs.out (by rw [hls.out]; decide)
            rw [hls.out] at q
            exact q
          | k + 1, hnk, hq =>
            have hn' := hnk.out
            have j0 : (0 : Int) < (n' : Int) := by omega
            have j1 : 0 < n' := by omega
            have hrl := h5.len
            replace hrl := Lib.hid hrl
            replace hnk := Lib.hid hnk.out
            clear hn'
            have hi := Lib.hid (blk_info st hls.out)
            have RB := Lib.hid S5.out.blk
            go_wp2_with (refine wpList_load_row rfl 55 _ rfl gs rfl 55 (cellsB (st)) (0, 0) _ RB.out Try.underlying55 rfl hi.out ?_)
            clear RB
            refine (aes_rows st gt _ hls.out hbs.out T5.out).mono ?_
            rintro e w6 ⟨rfl, hB6⟩
            replace T5 := Lib.hid (T5.out.below hB6)
            replace S5 := Lib.hid (S5.out.below hB6)
            replace B5 := Lib.hid (below_step2 B5.out hB6)
            clear hB6 hi
            have hi := Lib.hid (blk_info (rowsS st) (rowsS_len st))
            have ho : (cellsB (st)).size = (cellsB (rowsS st)).size := by rw [cellsB_size, cellsB_size, rowsS_len st, hls.out]
            replace ho := Lib.hid ho
            have RB := Lib.hid S5.out.blk
            replace T5 := Lib.hid (T5.out.farRow (g' := gs) (by omega) (cellsB (rowsS st)))
            replace S5 := Lib.hid (S5.out.setRow (rowsS st))
            replace B5 := Lib.hid (below_setRow B5.out (g := gs) hgs' (cellsB (rowsS st)))
            go_wp2_with (refine wpList_store_row rfl 55 _ _ rfl gs (cellsB (rowsS st)) rfl rfl 55 (cellsB (st)) RB.out hi.out ho.out (cellsB_one _) (hid_stop ?_))
            clear RB ho
            generalize w6.setRow gs (cellsB (rowsS st)) = w7 at T5 S5 B5 ⊢
            refine Lib.hid ?_
            by_cases h16 : 16 < n'
            · have e16 : decide ((16 : Int) < (n' : Int)) = true := decide_eq_true (by omega)
              have e16' : decide (16 < n') = true := decide_eq_true h16
              have RB := Lib.hid S5.out.blk
              go_wp2_with (refine wpList_load_row rfl 55 _ rfl gs rfl 55 (cellsB (rowsS st)) (0, 0) _ RB.out Try.underlying55 rfl hi.out ?_)
              clear RB
              refine (aes_mix (rowsS st) _ (rowsS_len _) (rowsS_byt _)).mono ?_
              rintro e w8 ⟨rfl, hB8⟩
              replace T5 := Lib.hid (T5.out.below hB8)
              replace S5 := Lib.hid (S5.out.below hB8)
              replace B5 := Lib.hid (below_step2 B5.out hB8)
              clear hB8 hi
              have hi := Lib.hid (blk_info (mixS (rowsS st)) (mixS_len _))
              have ho : (cellsB (rowsS st)).size = (cellsB (mixS (rowsS st))).size := by rw [cellsB_size, cellsB_size, mixS_len _, (rowsS_len _)]
              replace ho := Lib.hid ho
              have RB := Lib.hid S5.out.blk
              replace T5 := Lib.hid (T5.out.farRow (g' := gs) (by omega) (cellsB (mixS (rowsS st))))
              replace S5 := Lib.hid (S5.out.setRow (mixS (rowsS st)))
              replace B5 := Lib.hid (below_setRow B5.out (g := gs) hgs' (cellsB (mixS (rowsS st))))
              go_wp2_with (refine wpList_store_row rfl 55 _ _ rfl gs (cellsB (mixS (rowsS st))) rfl rfl 55 (cellsB (rowsS st)) RB.out hi.out ho.out (cellsB_one _) (hid_stop ?_))
              clear RB ho
              generalize w8.setRow gs (cellsB (mixS (rowsS st))) = w9 at T5 S5 B5 ⊢
              refine Lib.hid ?_
              have hn16 : 16 ≤ n' := by have := hnk.out; omega
              have RB := Lib.hid S5.out.blk
              go_wp2_with (refine wpList_load_row rfl 55 _ rfl gs rfl 55 (cellsB (mixS (rowsS st))) (0, 0) _ RB.out Try.underlying55 rfl hi.out ?_)
              clear RB
              refine (aes_with (mixS (rowsS st)) A' n' c' rest _ (mixS_len _) (mixS_byt (rowsS_byt st)) hn16 (h5.below B5.out)).mono ?_
              rintro e w10 ⟨rfl, hB10⟩
              replace T5 := Lib.hid (T5.out.below hB10)
              replace S5 := Lib.hid (S5.out.below hB10)
              replace B5 := Lib.hid (below_step2 B5.out hB10)
              clear hB10 hi
              have hi := Lib.hid (blk_info (withS (mixS (rowsS st)) rest) (withS_len _ _))
              have ho : (cellsB (mixS (rowsS st))).size = (cellsB (withS (mixS (rowsS st)) rest)).size := by rw [cellsB_size, cellsB_size, withS_len _ _, (mixS_len _)]
              replace ho := Lib.hid ho
              have RB := Lib.hid S5.out.blk
              replace T5 := Lib.hid (T5.out.farRow (g' := gs) (by omega) (cellsB (withS (mixS (rowsS st)) rest)))
              replace S5 := Lib.hid (S5.out.setRow (withS (mixS (rowsS st)) rest))
              replace B5 := Lib.hid (below_setRow B5.out (g := gs) hgs' (cellsB (withS (mixS (rowsS st)) rest)))
              go_wp2_with (refine wpList_store_row rfl 55 _ _ rfl gs (cellsB (withS (mixS (rowsS st)) rest)) rfl rfl 55 (cellsB (mixS (rowsS st))) RB.out hi.out ho.out (cellsB_one _) (hid_stop ?_))
              clear RB ho
              generalize w10.setRow gs (cellsB (withS (mixS (rowsS st)) rest)) = w11 at T5 S5 B5 ⊢
              refine Lib.hid ?_
              have h5d := h5.drop_lit 16 (by omega) (by omega)
              have hbr := h5.byt
              have hle := h5.le
              have j2 : (16 : Int) ≤ (n' : Int) := by omega
              have j3 : (n' : Int) ≤ (c' : Int) := by omega
              have j4 : (16 : Int) ≤ (c' : Int) := by omega
              replace h5d := Lib.hid h5d
              have hbn := Lib.hid (withS_byt (mixS_byt (rowsS_byt st)) hbr)
              clear hi
              go_wp2
              refine ⟨⟨_, n' - 16, k, _, rest.drop 16, withS (mixS (rowsS st)) rest, rfl, Lib.hid (by have := hnk.out; omega), Lib.hid (withS_len _ _), hbn, Lib.hid ?_, (by first | exact h5d.out | (have q := h5d.out; rw [if_neg (show ¬ c' = 16 by omega)] at q; exact q)), S5, T5, B5⟩, by simp only [slen]; omega⟩
              rw [← hq.out, blockL, hrl.out]
              rw [if_pos h16]
            · have e16 : decide ((16 : Int) < (n' : Int)) = false := decide_eq_false (by omega)
              have e16' : decide (16 < n') = false := decide_eq_false h16
              have hn16 : 16 ≤ n' := by have := hnk.out; omega
              have RB := Lib.hid S5.out.blk
              go_wp2_with (refine wpList_load_row rfl 55 _ rfl gs rfl 55 (cellsB (rowsS st)) (0, 0) _ RB.out Try.underlying55 rfl hi.out ?_)
              clear RB
              refine (aes_with (rowsS st) A' n' c' rest _ (rowsS_len _) (rowsS_byt st) hn16 (h5.below B5.out)).mono ?_
              rintro e w10 ⟨rfl, hB10⟩
              replace T5 := Lib.hid (T5.out.below hB10)
              replace S5 := Lib.hid (S5.out.below hB10)
              replace B5 := Lib.hid (below_step2 B5.out hB10)
              clear hB10 hi
              have hi := Lib.hid (blk_info (withS (rowsS st) rest) (withS_len _ _))
              have ho : (cellsB (rowsS st)).size = (cellsB (withS (rowsS st) rest)).size := by rw [cellsB_size, cellsB_size, withS_len _ _, (rowsS_len _)]
              replace ho := Lib.hid ho
              have RB := Lib.hid S5.out.blk
              replace T5 := Lib.hid (T5.out.farRow (g' := gs) (by omega) (cellsB (withS (rowsS st) rest)))
              replace S5 := Lib.hid (S5.out.setRow (withS (rowsS st) rest))
              replace B5 := Lib.hid (below_setRow B5.out (g := gs) hgs' (cellsB (withS (rowsS st) rest)))
              go_wp2_with (refine wpList_store_row rfl 55 _ _ rfl gs (cellsB (withS (rowsS st) rest)) rfl rfl 55 (cellsB (rowsS st)) RB.out hi.out ho.out (cellsB_one _) (hid_stop ?_))
              clear RB ho
              generalize w10.setRow gs (cellsB (withS (rowsS st) rest)) = w11 at T5 S5 B5 ⊢
              refine Lib.hid ?_
              have h5d := h5.drop_lit 16 (by omega) (by omega)
              have hbr := h5.byt
              have hle := h5.le
              have j2 : (16 : Int) ≤ (n' : Int) := by omega
              have j3 : (n' : Int) ≤ (c' : Int) := by omega
              have j4 : (16 : Int) ≤ (c' : Int) := by omega
              replace h5d := Lib.hid h5d
              have hbn := Lib.hid (withS_byt (rowsS_byt st) hbr)
              clear hi
              go_wp2
              refine ⟨⟨_, n' - 16, k, _, rest.drop 16, withS (rowsS st) rest, rfl, Lib.hid (by have := hnk.out; omega), Lib.hid (withS_len _ _), hbn, Lib.hid ?_, (by first | exact h5d.out | (have q := h5d.out; rw [if_neg (show ¬ c' = 16 by omega)] at q; exact q)), S5, T5, B5⟩, by simp only [slen]; omega⟩
              rw [← hq.out, blockL, hrl.out]
              rw [if_neg h16]
    · rw [blkErr_one (fun q => hm q.2)]
      have hmx := h2.max
      have e2 : ((m : Int) != 16) = true := bne_iff_ne.mpr (by omega)
      have e2' : (m != 16) = true := bne_iff_ne.mpr hm
      clear hm
      rcases hn with rfl | rfl
      · go_enter Try.func25, Try.ntmps25
        go_wp2
        go_ret2
        exact ⟨_, _, _, rfl, Bts.nil_ _ _ _ (by omega), Below.refl _ _⟩
      · go_enter Try.func25, Try.ntmps25
        go_wp2
        go_ret2
        exact ⟨_, _, _, rfl, Bts.nil_ _ _ _ (by omega), Below.refl _ _⟩
  · rw [blkErr_one (fun q => hn q.1)]
    have hmx := h.max
    have e1 : ((n : Int) != 176) = true := bne_iff_ne.mpr (by omega)
    have e1' : (n != 176) = true := bne_iff_ne.mpr (by omega)
    have e2 : ((n : Int) != 240) = true := bne_iff_ne.mpr (by omega)
    have e2' : (n != 240) = true := bne_iff_ne.mpr (by omega)
    clear hn
    go_enter Try.func25, Try.ntmps25
    go_wp2
    go_ret2
    exact ⟨_, _, _, rfl, Bts.nil_ _ _ _ (by omega), Below.refl _ _⟩
end Go.Proofs.Ytgkphopdmkfcgaa

/- Contract of a key's keys. Conditions: each argument is of its Go type. -/
import Derived.Test.YtgkphopdmkfcgaaCAesD
import Derived.Lib.SliceRun
import Derived.Deep.Slices
import Derived.StillTailTactics
import Derived.Deep.DeepCutAuto
import Derived.Deep.CutBlock
namespace Go.Proofs.Ytgkphopdmkfcgaa
open Go.RowKit Go.Proofs.YtgkphopdmkfcgaaW.PrintWords

theorem Try.info5 : (Try.prog.info? 5).map (fun i => (i.zero, i.size, i.bytes)) = some (some (.int .u8 0), 1, 1) := by kernel_rfl
theorem four_info (xs : List Int) (h : xs.length = 4) : (Try.prog.info? 49).map (·.size) = some (cellsB xs).size := by rw [cellsB_size, h]; kernel_rfl
/-- The last four. -/
def four (i : Nat) (out : List Int) : List Int := [out.getD (i - 4) 0, out.getD (i - 3) 0, out.getD (i - 2) 0, out.getD (i - 1) 0]
theorem four_cells (w : World) (ad : Addr) (i : Nat) (out : List Int) (hi : 4 ≤ i) (cc : ∀ j, j < i → w.cell? (ad.add j) = some (.int .u8 (out.getD j 0))) :
    ∀ j, j < (four i out).length → w.cell? ((ad.add (i - 4)).add j) = some (.int .u8 ((four i out).getD j 0)) := by
  intro j hj
  have hj4 : j < 4 := hj
  rw [Go.Deep.add_add, cc _ (by omega)]
  obtain rfl | rfl | rfl | rfl : j = 0 ∨ j = 1 ∨ j = 2 ∨ j = 3 := by omega
  · rfl
  · rw [show i - 4 + 1 = i - 3 by omega]; rfl
  · rw [show i - 4 + 2 = i - 2 by omega]; rfl
  · rw [show i - 4 + 3 = i - 1 by omega]; rfl
theorem OwnB.farRow {w : World} {base : Nat} {v : Value} {xs : List Int} (h : OwnB w base v xs) {g' : Nat} (hne : ∀ k, v.ownBlock = some k → k ≠ g') (cs : Array Value) : OwnB (w.setRow g' cs) base v xs :=
  ⟨own_other h.own (row := some g') ⟨rfl, rfl, rfl, Nat.le_of_eq (setRow_size w g' cs).symm, fun i _ hi => heap_setRow_far w g' cs i (fun e => hi (by rw [e]))⟩ (by
    cases hv : v.ownBlock with
    | none => exact .inl rfl
    | some k => exact .inr (fun e => hne k hv (by injection e))), h.max, h.byt⟩
theorem OwnB.other {w : World} {base : Nat} {A : Option Addr} {n c : Nat} {xs : List Int} (h : OwnB w base (.slice A n c) xs) {p : Addr} (hne : ∀ ad, A = some ad → ad.block ≠ p.block) (u : Value) : OwnB (w.setCell p u) base (.slice A n c) xs :=
  ⟨own_setCell h.own (by
    cases A with
    | none => simp [Value.ownBlock]
    | some ad => simp only [Value.ownBlock]; exact fun e => hne ad rfl (by injection e with e; exact e.symm)) u, h.max, h.byt⟩
theorem getD_app (out r : List Int) (k : Nat) (h : k < out.length) : (out ++ r).getD k 0 = out.getD k 0 := by
  simp [List.getD_eq_getElem?_getD, List.getElem?_append_left h]
/-- In the middle of a round. -/
structure Mid (w0 wx : World) (g9 gt N i : Nat) (turn : Int) (out : List Int) (A : Option Addr) (c : Nat) : Prop where
  W : Arr wx g9 49 (wordS N i turn out)
  o : OwnB wx w0.heap.size (.slice A i c) out
  T : Arr wx gt 47 boxT
  B : Below w0.heap.size w0 wx
theorem wordS_four (n i : Nat) (turn : Int) (out : List Int) : ∃ v0 v1 v2 v3, wordS n i turn out = [v0, v1, v2, v3] := by
  unfold wordS
  split
  · exact ⟨_, _, _, _, rfl⟩
  split
  · exact ⟨_, _, _, _, rfl⟩
  · exact ⟨_, _, _, _, rfl⟩
/-- An element of an array that is no variable. -/
theorem index4 (a b c d : Int) (k : Nat) (v : Int) (hv : [a, b, c, d][k]? = some v) (w : World) :
    (Instr.index 49 (.agg #[.int .u8 a, .int .u8 b, .int .u8 c, .int .u8 d]) (.int .i64 (k : Int))).run Try.prog w = .ok (.int .u8 v) w := by
  obtain ⟨i0, hi0, -, hi2, -⟩ := info_parts Try.info5
  have hk : k < 4 := by have := (List.getElem?_eq_some_iff.1 hv).1; simpa using this
  obtain rfl | rfl | rfl | rfl : k = 0 ∨ k = 1 ∨ k = 2 ∨ k = 3 := by omega
  all_goals
    simp at hv
    subst hv
    simp [Instr.index, asIntOf, Sem.run_bind, run_underlying Try.underlying49 w, sizeOf, typeInfo, hi0, hi2, part]
theorem OwnB.ne_arr {w : World} {base g t : Nat} {ad : Addr} {n c : Nat} {xs ys : List Int} (h : OwnB w base (.slice (some ad) n c) xs) (T : Arr w g t ys) (ht : t ≠ 5) : g ≠ ad.block := by
  rcases h.own.2 with ⟨e, _⟩ | ⟨k, cap, cur, e, _, hk, _⟩
  · cases e
  · injection e with e1 _ _
    injection e1 with e1
    subst e1
    rintro rfl
    have := T.blk
    rw [hk] at this
    injection this with this
    injection this with _ e2 _
    exact ht e2.symm
theorem Arr.grown {w w1 : World} {g t : Nat} {xs : List Int} (h : Arr w g t xs) {row : Option Nat} (hg : w.grownBy w1 row) (hne : some g ≠ row) : Arr w1 g t xs := ⟨blk_grown h.blk hg hne⟩
set_option maxHeartbeats 1000000 in
theorem bytes_Clone (ad : Addr) (n c : Nat) (xs : List Int) (w : World) (h : Bts w (some ad) n c xs) :
    Calls Try.prog (28) #[.slice (some ad) n c] w fun e w' => ∃ v, e = .returned v ∧ OwnB w' w.heap.size v xs ∧ Below w.heap.size w w' := by
  have o0 := Lib.hid (OwnB.lit_at w w.heap.size w.heap.size [] rfl (Nat.le_refl _) byt_nil (by simp))
  have hB0 := Lib.hid ((Below.refl w.heap.size w).alloc (Nat.le_refl _) (.cells (nums .u8 []).toArray 5))
  have hl := h.len
  have hm := h.max
  have h1 := Lib.hid h
  have hnil : (binOp .eql 22 (.slice (some ad) n c) (.slice none 0 0)).run Try.prog w = .ok (.bool false) w := Lib.run_eql_slice_nil w _ _ _ _ _ _ _ Try.underlying22
  go_enter Try.func28, Try.ntmps28
  go_wp2_with (at_builtin; refine hid_stop ?_)
  refine Lib.hid ?_
  refine append_own (w0 := w) w.heap.size rfl (.tmp 5) (.tmp 6) 22 rfl Try.underlying22 Try.info5 _ _ _ _ _ _ rfl rfl o0.out (h1.out.alloc _) hB0.out hB0.out.size (by simp; omega) ?_
  intro v1 w1 ho hB1 hg1
  go_wp2
  go_ret
  exact ⟨_, rfl, by rwa [List.nil_append] at ho, hB1⟩








set_option maxHeartbeats 2000000 in
set_option maxRecDepth 100000 in
theorem aes_Keys (A : Option Addr) (n c : Nat) (ks : List Int) (w : World) (h : Bts w A n c ks) :
    Calls Try.prog 19 #[.slice A n c] w (OwnPost (keyErr n) (keysS ks) w) := by
  by_cases hn : n = 16 ∨ n = 32
  · rw [show keyErr n = 0 from if_pos hn]
    have hl := Lib.hid h.len
    have hb := h.byt
    rcases hn with rfl | rfl
    · go_enter Try.func19, Try.ntmps19
      go_wp2_with fail
      refine (aes_boxes _).mono ?_
      rintro e w2 ⟨rfl, hB2⟩
      have z := zero256
      have hne := zs256_ne
      have hi := Lib.hid box_info
      have ho := Lib.hid box_size
      have L := Lib.hid (box_laid w2 w2.heap.size rfl)
      go_wp2_with (refine wpList_store_row rfl 47 _ _ rfl w2.heap.size (cellsB boxT) rfl rfl 47 zs256 L.out hi.out ho.out (cellsB_one _) (hid_stop ?_))
      have T := box_arr w2 w2.heap.size rfl
      have HT := below_setRow (below_alloc (Below.refl w2.heap.size w2) (.cells zs256 47)) (g := w2.heap.size) (Nat.le_refl _) (cellsB boxT)
      generalize (w2.alloc (.cells zs256 47)).setRow w2.heap.size (cellsB boxT) = w3 at T HT ⊢
      refine Lib.hid ?_
      clear z hne hi ho L
      have hgt' : w.heap.size ≤ w2.heap.size := by have := hB2.size; omega
      replace HT := below_step2 hB2 HT
      generalize hgt : w2.heap.size = gt at T hgt' ⊢
      clear hB2 hgt
      obtain ⟨ad, rfl, _⟩ := h.some_ (by omega)
      go_wp2_with fail
      refine (bytes_Clone _ _ _ _ _ (h.below HT)).mono ?_
      rintro e w4 ⟨v4, rfl, o4, hB4⟩
      replace T := Lib.hid (T.below hB4)
      replace o4 := o4.lower HT.size
      replace HT := Lib.hid (below_step2 HT hB4)
      clear hB4
      obtain ⟨A4, n4, c4, rfl, _⟩ := o4.bts
      obtain rfl : n4 = 16 := by have := o4.sl.len; rw [hl.out] at this; exact this.symm
      replace o4 := Lib.hid o4
      go_wp2
      have hb4 := Lib.hid (h.byt)
      go_loopw [6, 7, 8] (fun vo vt vi wr => ∃ (j i : Nat) (A' : Option Addr) (c' : Nat) (turn : Int) (out : List Int), vo = .slice A' i c' ∧ vt = .int .u8 turn ∧ vi = .int .i64 (i : Int) ∧ Hid (i + 4 * j = 176) ∧ 16 ≤ i ∧ i ≤ 176 ∧ (0 ≤ turn ∧ turn ≤ 255) ∧ Hid (keysL j 16 i turn out = keysS ks) ∧ Hid (OwnB wr w.heap.size (.slice A' i c') out) ∧ Hid (Arr wr gt 47 boxT) ∧ Hid (Below w.heap.size w wr)) (fun _ _ vi _ => 176 - (intOf vi).toNat)
      case atStart => exact ⟨40, 16, A4, c4, 1, ks, rfl, rfl, rfl, Lib.hid rfl, by omega, by omega, by omega, Lib.hid (by unfold keysS; rw [hl.out]; rfl), o4, T, HT⟩
      case round =>
        clear o4 T HT
        obtain ⟨j, i, A', c', turn, out, rfl, rfl, rfl, hij, hNi, hiL, ht, hK, o4, T, HT⟩ := hrel
        match j, hij, hK with
        | 0, hij, hK =>
          obtain rfl : i = 176 := by have := hij.out; omega
          go_wp2
          go_ret2
          refine ⟨_, _, _, rfl, ?_, HT.out⟩
          rw [if_pos rfl, ← hK.out]
          exact o4.out
        | j + 1, hij, hK =>
          have hi2 : i < 176 := by have := hij.out; omega
          have hii : (i : Int) < 176 := by omega
          have hcap := o4.out.sl.le
          have hlo := Lib.hid o4.out.sl.len
          obtain ⟨ad, rfl, cc⟩ := o4.out.sl.some_ (by omega)
          have hob := Lib.hid o4.out.byt
          have ha := fun W => run_arrayAt (P := Try.prog) W 49 _ 4 (some (ad.add (i - 4))) (i - (i - 4)) (c' - (i - 4)) Try.underlying49 (by omega)
          have hc4 := Lib.hid (four_cells wr ad i out (by omega) cc)
          have hi4 := Lib.hid (four_info (four i out) rfl)
          clear cc
          go_wp2_with (refine wpList_load_at rfl 49 _ rfl (ad.add (i - 4)) rfl (four i out) _ hc4.out Try.underlying49 rfl hi4.out (hid_stop ?_))
          refine Lib.hid ?_
          clear ha hc4
          have W4 := Lib.hid (Arr.at_ wr wr.heap.size 49 [0, 0, 0, 0] rfl)
          have RB := Lib.hid W4.out.blk
          have ho : Hid ((cellsB [0, 0, 0, 0]).size = (cellsB (four i out)).size) := Lib.hid rfl
          have hgw : gt < wr.heap.size := T.out.lt
          have hag : ad.block < wr.heap.size := own_lt o4.out.own ad.block rfl
          replace T := Lib.hid ((T.out.alloc (.cells (cellsB [0, 0, 0, 0]) 49)).farRow (g' := wr.heap.size) (by omega) (cellsB (four i out)))
          replace o4 := Lib.hid ((o4.out.alloc (.cells (cellsB [0, 0, 0, 0]) 49)).farRow (g' := wr.heap.size) (fun k hk => by have := own_lt o4.out.own k hk; omega) (cellsB (four i out)))
          replace W4 := Lib.hid (W4.out.setRow (four i out))
          replace HT := Lib.hid (below_setRow (below_alloc HT.out (.cells (cellsB [0, 0, 0, 0]) 49)) (g := wr.heap.size) HT.out.size (cellsB (four i out)))
          have hgw' : w.heap.size ≤ wr.heap.size := by omega
          go_wp2_with (refine wpList_store_row rfl 49 _ _ rfl wr.heap.size (cellsB (four i out)) rfl rfl 49 (cellsB [0, 0, 0, 0]) RB.out hi4.out ho.out (cellsB_one _) (hid_stop ?_))
          clear RB ho
          generalize hg9 : wr.heap.size = g9 at W4 T o4 HT hgw hgw' hag ⊢
          change Hid (wpList _ _ _ _ _ ((wr.alloc (.cells (cellsB [0, 0, 0, 0]) 49)).setRow g9 (cellsB (four i out))))
          generalize (wr.alloc (.cells (cellsB [0, 0, 0, 0]) 49)).setRow g9 (cellsB (four i out)) = w5 at W4 T o4 HT ⊢
          refine Lib.hid ?_
          clear hg9
          go_upto_block 2 with (fail)
          go_cut [7] (fun vt wx => vt = .int .u8 (if i % 16 = 0 then dbl turn else turn) ∧ Hid (Mid w wx g9 gt 16 i turn out (some ad) c'))
          case first =>
            have x0 := byt_get hob.out (i - 4)
            have x1 := byt_get hob.out (i - 3)
            have x2 := byt_get hob.out (i - 2)
            have x3 := byt_get hob.out (i - 1)
            by_cases hm : i % 16 = 0
            · have hW : Hid (wordS 16 i turn out = [bx (box (out.getD (i - 3) 0)) turn, box (out.getD (i - 2) 0), box (out.getD (i - 1) 0), box (out.getD (i - 4) 0)]) := Lib.hid (by unfold wordS; rw [if_pos hm])
              have e1 : ((i : Int) % 16 == 0) = true := by rw [beq_iff_eq]; omega
              have e1' : (i : Int) % 16 = 0 := by omega
              have hm' : Hid (dbl turn = if i % 16 = 0 then dbl turn else turn) := Lib.hid (by rw [if_pos hm])
              clear hm
              unfold four at W4
              generalize out.getD (i - 4) 0 = u0 at W4 hW x0
              generalize out.getD (i - 3) 0 = u1 at W4 hW x1
              generalize out.getD (i - 2) 0 = u2 at W4 hW x2
              generalize out.getD (i - 1) 0 = u3 at W4 hW x3
              obtain ⟨k0, rfl⟩ := Int.eq_ofNat_of_zero_le x0.1
              obtain ⟨k1, rfl⟩ := Int.eq_ofNat_of_zero_le x1.1
              obtain ⟨k2, rfl⟩ := Int.eq_ofNat_of_zero_le x2.1
              obtain ⟨k3, rfl⟩ := Int.eq_ofNat_of_zero_le x3.1
              have c0 : w5.cell? ⟨g9, 0, none⟩ = some (.int .u8 (k0 : Int)) := W4.out.cell 0 (by simp)
              have c1 : w5.cell? ⟨g9, 1, none⟩ = some (.int .u8 (k1 : Int)) := W4.out.cell 1 (by simp)
              have c2 : w5.cell? ⟨g9, 2, none⟩ = some (.int .u8 (k2 : Int)) := W4.out.cell 2 (by simp)
              have c3 : w5.cell? ⟨g9, 3, none⟩ = some (.int .u8 (k3 : Int)) := W4.out.cell 3 (by simp)
              have f0 := W4.out.free 0
              have f1 := W4.out.free 1
              have f2 := W4.out.free 2
              have f3 := W4.out.free 3
              have t0 : w5.cell? ⟨gt, k0, none⟩ = some (.int .u8 (box (k0 : Int))) := T.out.cell k0 (by rw [boxT_len]; omega)
              have t1 : w5.cell? ⟨gt, k1, none⟩ = some (.int .u8 (box (k1 : Int))) := T.out.cell k1 (by rw [boxT_len]; omega)
              have t2 : w5.cell? ⟨gt, k2, none⟩ = some (.int .u8 (box (k2 : Int))) := T.out.cell k2 (by rw [boxT_len]; omega)
              have t3 : w5.cell? ⟨gt, k3, none⟩ = some (.int .u8 (box (k3 : Int))) := T.out.cell k3 (by rw [boxT_len]; omega)
              have z0 := box_byte (k0 : Int)
              have z1 := box_byte (k1 : Int)
              have z2 := box_byte (k2 : Int)
              have z3 := box_byte (k3 : Int)
              have l0 : (k0 : Int) < 256 := by omega
              have l1 : (k1 : Int) < 256 := by omega
              have l2 : (k2 : Int) < 256 := by omega
              have l3 : (k3 : Int) < 256 := by omega
              generalize box (k0 : Int) = y0 at t0 z0 hW
              generalize box (k1 : Int) = y1 at t1 z1 hW
              generalize box (k2 : Int) = y2 at t2 z2 hW
              generalize box (k3 : Int) = y3 at t3 z3 hW
              have hv := k_xor_u8 y1 turn z1 ht
              have M : Mid w (w5.drew.setRow g9 (cellsB [(bx y1 turn), y2, y3, y0])) g9 gt 16 i turn out (some ad) c' := by
                refine ⟨?_, o4.out.drew.farRow (fun k hk => by injection hk with hk; subst hk; exact Nat.ne_of_lt hag) _, T.out.drew.farRow (Nat.ne_of_lt hgw) _, below_setRow (below_drew HT.out) hgw' _⟩
                rw [hW.out]
                exact W4.out.drew.setRow _
              replace M := Lib.hid M
              have RB := Lib.hid W4.out.drew.blk
              have hi6 := Lib.hid (four_info [(bx y1 turn), y2, y3, y0] rfl)
              go_wp2
              go_still_tail 19, (by kernel_rfl)
              change wpList _ _ _ _ _ w5.drew
              clear c0 c1 c2 c3 t0 t1 t2 t3 hv f0 f1 f2 f3
              go_wp2_with (refine wpList_store_row rfl 49 _ _ rfl g9 (cellsB [bx y1 turn, y2, y3, y0]) rfl rfl 49 (cellsB [(k0 : Int), (k1 : Int), (k2 : Int), (k3 : Int)]) RB.out hi6.out rfl (cellsB_one _) (hid_stop ?_))
              refine Lib.hid ?_
              go_wp2_with fail
              refine (aes_double _ _ ht).mono ?_
              rintro e w' ⟨rfl, rfl⟩
              go_wp2_with fail
              go_meet
              exact ⟨by rw [← hm'.out], M⟩
            · have hm' : Hid (turn = if i % 16 = 0 then dbl turn else turn) := Lib.hid (by rw [if_neg hm])
              have e1 : ((i : Int) % 16 == 0) = false := beq_eq_false_iff_ne.mpr (by omega)
              have hW : Hid (wordS 16 i turn out = four i out) := Lib.hid (by unfold wordS; rw [if_neg hm, if_neg (by omega)]; rfl)
              have M : Mid w w5 g9 gt 16 i turn out (some ad) c' := ⟨hW.out ▸ W4.out, o4.out, T.out, HT.out⟩
              replace M := Lib.hid M
              clear hm W4 o4 T HT
              go_wp2_with fail
              go_meet
              exact ⟨by rw [← hm'.out], M⟩
          case rest =>
            obtain ⟨rfl, M⟩ := hcut
            clear W4 o4 T HT hi4
            obtain ⟨v0, v1, v2, v3, hws⟩ := wordS_four 16 i turn out
            have W6 := M.out.W
            rw [hws] at W6
            have hvb := wordS_byt (n := 16) (i := i) ht hob.out
            rw [hws] at hvb
            simp only [byt_cons] at hvb
            obtain ⟨hv0, hv1, hv2, hv3, _⟩ := hvb
            have c0 : wc.cell? ⟨g9, 0, none⟩ = some (.int .u8 v0) := W6.cell 0 (by simp)
            have c1 : wc.cell? ⟨g9, 1, none⟩ = some (.int .u8 v1) := W6.cell 1 (by simp)
            have c2 : wc.cell? ⟨g9, 2, none⟩ = some (.int .u8 v2) := W6.cell 2 (by simp)
            have c3 : wc.cell? ⟨g9, 3, none⟩ = some (.int .u8 v3) := W6.cell 3 (by simp)
            have hS : Hid (keysL j 16 (i + 4) (if i % 16 = 0 then dbl turn else turn) (out ++ nextS 16 i [v0, v1, v2, v3] out) = keysS ks) := Lib.hid (by rw [← hK.out, keysL, hws])
            have htt : 0 ≤ (if i % 16 = 0 then dbl turn else turn) ∧ (if i % 16 = 0 then dbl turn else turn) ≤ 255 := by
              split
              · exact dbl_byte
              · exact ht
            have o6 := Lib.hid M.out.o
            have T6 := Lib.hid M.out.T
            have B6 := Lib.hid M.out.B
            clear hK ht W6 hws M
            generalize (if i % 16 = 0 then dbl turn else turn) = tt at hS htt ⊢
            replace hS := Lib.hid hS.out
            go_wp2
            go_loopw [6, 91] (fun vo vk wr => ∃ (k : Nat) (A'' : Option Addr) (c'' : Nat), vo = .slice A'' (i + k) c'' ∧ vk = .int .i64 (k : Int) ∧ k ≤ 4 ∧ Hid (OwnB wr w.heap.size (.slice A'' (i + k) c'') (out ++ (nextS 16 i [v0, v1, v2, v3] out).take k)) ∧ Hid (Arr wr gt 47 boxT) ∧ Hid (Below w.heap.size w wr)) (fun _ vk _ => 4 - (intOf vk).toNat)
            case atStart => exact ⟨0, some ad, c', rfl, rfl, by omega, Lib.hid (by rw [List.take_zero, List.append_nil]; exact o6.out), T6, B6⟩
            case round =>
              clear o6 T6 B6 c0 c1 c2 c3
              obtain ⟨k, A'', c'', rfl, rfl, hk, o4, T, HT⟩ := hrel
              by_cases h4 : k < 4
              · have hpos : 0 < i + k := by omega
                obtain ⟨ad2, rfl, cc⟩ := o4.out.sl.some_ hpos
                have hcap2 := o4.out.sl.le
                obtain rfl | rfl | rfl | rfl : k = 0 ∨ k = 1 ∨ k = 2 ∨ k = 3 := by omega
                · skip
                  have ck := cc (i - 16 + 0) (by omega)
                  rw [getD_app _ _ _ (by rw [hlo.out]; omega)] at ck
                  clear cc
                  try simp only [Nat.add_zero] at ck
                  have hT : Hid ((out ++ (nextS 16 i [v0, v1, v2, v3] out).take 0) ++ [bx v0 (out.getD (i - 16 + 0) 0)] = out ++ (nextS 16 i [v0, v1, v2, v3] out).take (0 + 1)) := Lib.hid (by rw [List.append_assoc]; rfl)
                  have bk := byt_get hob.out (i - 16 + 0)
                  try simp only [Nat.add_zero] at hT bk
                  generalize out.getD (i - 16 + 0) 0 = uk at ck hT bk
                  skip
                  have hx := k_xor_u8 v0 uk hv0 bk
                  have bxk := Lib.hid (bx_byte hv0 bk)
                  have hix : ∀ W, (Instr.index 49 (.agg #[.int .u8 v0, .int .u8 v1, .int .u8 v2, .int .u8 v3]) (.int .i64 0)).run Try.prog W = .ok (.int .u8 v0) W := index4 v0 v1 v2 v3 0 v0 rfl
                  have hne := Lib.hid (o4.out.ne_arr T.out (by decide))
                  have hln := Lib.hid o4.out.sl.len
                  have hlm := Lib.hid o4.out.max
                  go_wp2_with (at_builtin; refine hid_stop ?_)
                  refine Lib.hid ?_
                  refine append_own (w0 := w) w.heap.size rfl (.tmp 95) (.tmp 106) 22 rfl Try.underlying22 Try.info5 _ _ [bx v0 uk] _ _ _ rfl rfl (o4.out.alloc _) (Bts.lit_at wr wr.heap.size 5 [bx v0 uk] rfl (by simp only [byt_cons]; exact ⟨bxk.out, byt_nil⟩) (by simp)) (below_alloc HT.out _) (below_alloc HT.out _).size (by have := hln.out; rw [this]; simp; omega) ?_
                  intro vn w7 ho7 hB7 hg7
                  obtain ⟨A7, m7, c7, rfl, _⟩ := ho7.bts
                  obtain rfl : m7 = i + (0 + 1) := by have := ho7.sl.len; rw [List.length_append, hln.out] at this; simp at this; omega
                  rw [hT.out] at ho7
                  have T7 := Lib.hid ((T.out.alloc _).grown hg7 (fun e => hne.out (by injection e)))
                  replace ho7 := Lib.hid ho7
                  replace hB7 := Lib.hid hB7
                  clear o4 T HT hT hx hix ck hg7 hcap2
                  go_wp2
                  refine ⟨⟨0 + 1, A7, c7, rfl, by go_num, by omega, ho7, T7, hB7⟩, by simp [intOf]⟩
                · skip
                  have ck := cc (i - 16 + 1) (by omega)
                  rw [getD_app _ _ _ (by rw [hlo.out]; omega)] at ck
                  clear cc
                  try simp only [Nat.add_zero] at ck
                  have hT : Hid ((out ++ (nextS 16 i [v0, v1, v2, v3] out).take 1) ++ [bx v1 (out.getD (i - 16 + 1) 0)] = out ++ (nextS 16 i [v0, v1, v2, v3] out).take (1 + 1)) := Lib.hid (by rw [List.append_assoc]; rfl)
                  have bk := byt_get hob.out (i - 16 + 1)
                  try simp only [Nat.add_zero] at hT bk
                  generalize out.getD (i - 16 + 1) 0 = uk at ck hT bk
                  replace ck : wr.cell? { block := ad2.block, off := ad2.off + (i - 16 + 1) } = some (.int .u8 uk) := cell_add ck (by omega)
                  have hx := k_xor_u8 v1 uk hv1 bk
                  have bxk := Lib.hid (bx_byte hv1 bk)
                  have hix : ∀ W, (Instr.index 49 (.agg #[.int .u8 v0, .int .u8 v1, .int .u8 v2, .int .u8 v3]) (.int .i64 1)).run Try.prog W = .ok (.int .u8 v1) W := index4 v0 v1 v2 v3 1 v1 rfl
                  have hne := Lib.hid (o4.out.ne_arr T.out (by decide))
                  have hln := Lib.hid o4.out.sl.len
                  have hlm := Lib.hid o4.out.max
                  go_wp2_with (at_builtin; refine hid_stop ?_)
                  refine Lib.hid ?_
                  refine append_own (w0 := w) w.heap.size rfl (.tmp 95) (.tmp 106) 22 rfl Try.underlying22 Try.info5 _ _ [bx v1 uk] _ _ _ rfl rfl (o4.out.alloc _) (Bts.lit_at wr wr.heap.size 5 [bx v1 uk] rfl (by simp only [byt_cons]; exact ⟨bxk.out, byt_nil⟩) (by simp)) (below_alloc HT.out _) (below_alloc HT.out _).size (by have := hln.out; rw [this]; simp; omega) ?_
                  intro vn w7 ho7 hB7 hg7
                  obtain ⟨A7, m7, c7, rfl, _⟩ := ho7.bts
                  obtain rfl : m7 = i + (1 + 1) := by have := ho7.sl.len; rw [List.length_append, hln.out] at this; simp at this; omega
                  rw [hT.out] at ho7
                  have T7 := Lib.hid ((T.out.alloc _).grown hg7 (fun e => hne.out (by injection e)))
                  replace ho7 := Lib.hid ho7
                  replace hB7 := Lib.hid hB7
                  clear o4 T HT hT hx hix ck hg7 hcap2
                  go_wp2
                  refine ⟨⟨1 + 1, A7, c7, rfl, by go_num, by omega, ho7, T7, hB7⟩, by simp [intOf]⟩
                · skip
                  have ck := cc (i - 16 + 2) (by omega)
                  rw [getD_app _ _ _ (by rw [hlo.out]; omega)] at ck
                  clear cc
                  try simp only [Nat.add_zero] at ck
                  have hT : Hid ((out ++ (nextS 16 i [v0, v1, v2, v3] out).take 2) ++ [bx v2 (out.getD (i - 16 + 2) 0)] = out ++ (nextS 16 i [v0, v1, v2, v3] out).take (2 + 1)) := Lib.hid (by rw [List.append_assoc]; rfl)
                  have bk := byt_get hob.out (i - 16 + 2)
                  try simp only [Nat.add_zero] at hT bk
                  generalize out.getD (i - 16 + 2) 0 = uk at ck hT bk
                  replace ck : wr.cell? { block := ad2.block, off := ad2.off + (i - 16 + 1 + 1) } = some (.int .u8 uk) := cell_add ck (by omega)
                  have hx := k_xor_u8 v2 uk hv2 bk
                  have bxk := Lib.hid (bx_byte hv2 bk)
                  have hix : ∀ W, (Instr.index 49 (.agg #[.int .u8 v0, .int .u8 v1, .int .u8 v2, .int .u8 v3]) (.int .i64 2)).run Try.prog W = .ok (.int .u8 v2) W := index4 v0 v1 v2 v3 2 v2 rfl
                  have hne := Lib.hid (o4.out.ne_arr T.out (by decide))
                  have hln := Lib.hid o4.out.sl.len
                  have hlm := Lib.hid o4.out.max
                  go_wp2_with (at_builtin; refine hid_stop ?_)
                  refine Lib.hid ?_
                  refine append_own (w0 := w) w.heap.size rfl (.tmp 95) (.tmp 106) 22 rfl Try.underlying22 Try.info5 _ _ [bx v2 uk] _ _ _ rfl rfl (o4.out.alloc _) (Bts.lit_at wr wr.heap.size 5 [bx v2 uk] rfl (by simp only [byt_cons]; exact ⟨bxk.out, byt_nil⟩) (by simp)) (below_alloc HT.out _) (below_alloc HT.out _).size (by have := hln.out; rw [this]; simp; omega) ?_
                  intro vn w7 ho7 hB7 hg7
                  obtain ⟨A7, m7, c7, rfl, _⟩ := ho7.bts
                  obtain rfl : m7 = i + (2 + 1) := by have := ho7.sl.len; rw [List.length_append, hln.out] at this; simp at this; omega
                  rw [hT.out] at ho7
                  have T7 := Lib.hid ((T.out.alloc _).grown hg7 (fun e => hne.out (by injection e)))
                  replace ho7 := Lib.hid ho7
                  replace hB7 := Lib.hid hB7
                  clear o4 T HT hT hx hix ck hg7 hcap2
                  go_wp2
                  refine ⟨⟨2 + 1, A7, c7, rfl, by go_num, by omega, ho7, T7, hB7⟩, by simp [intOf]⟩
                · skip
                  have ck := cc (i - 16 + 3) (by omega)
                  rw [getD_app _ _ _ (by rw [hlo.out]; omega)] at ck
                  clear cc
                  try simp only [Nat.add_zero] at ck
                  have hT : Hid ((out ++ (nextS 16 i [v0, v1, v2, v3] out).take 3) ++ [bx v3 (out.getD (i - 16 + 3) 0)] = out ++ (nextS 16 i [v0, v1, v2, v3] out).take (3 + 1)) := Lib.hid (by rw [List.append_assoc]; rfl)
                  have bk := byt_get hob.out (i - 16 + 3)
                  try simp only [Nat.add_zero] at hT bk
                  generalize out.getD (i - 16 + 3) 0 = uk at ck hT bk
                  replace ck : wr.cell? { block := ad2.block, off := ad2.off + (i - 16 + 1 + 1 + 1) } = some (.int .u8 uk) := cell_add ck (by omega)
                  have hx := k_xor_u8 v3 uk hv3 bk
                  have bxk := Lib.hid (bx_byte hv3 bk)
                  have hix : ∀ W, (Instr.index 49 (.agg #[.int .u8 v0, .int .u8 v1, .int .u8 v2, .int .u8 v3]) (.int .i64 3)).run Try.prog W = .ok (.int .u8 v3) W := index4 v0 v1 v2 v3 3 v3 rfl
                  have hne := Lib.hid (o4.out.ne_arr T.out (by decide))
                  have hln := Lib.hid o4.out.sl.len
                  have hlm := Lib.hid o4.out.max
                  go_wp2_with (at_builtin; refine hid_stop ?_)
                  refine Lib.hid ?_
                  refine append_own (w0 := w) w.heap.size rfl (.tmp 95) (.tmp 106) 22 rfl Try.underlying22 Try.info5 _ _ [bx v3 uk] _ _ _ rfl rfl (o4.out.alloc _) (Bts.lit_at wr wr.heap.size 5 [bx v3 uk] rfl (by simp only [byt_cons]; exact ⟨bxk.out, byt_nil⟩) (by simp)) (below_alloc HT.out _) (below_alloc HT.out _).size (by have := hln.out; rw [this]; simp; omega) ?_
                  intro vn w7 ho7 hB7 hg7
                  obtain ⟨A7, m7, c7, rfl, _⟩ := ho7.bts
                  obtain rfl : m7 = i + (3 + 1) := by have := ho7.sl.len; rw [List.length_append, hln.out] at this; simp at this; omega
                  rw [hT.out] at ho7
                  have T7 := Lib.hid ((T.out.alloc _).grown hg7 (fun e => hne.out (by injection e)))
                  replace ho7 := Lib.hid ho7
                  replace hB7 := Lib.hid hB7
                  clear o4 T HT hT hx hix ck hg7 hcap2
                  go_wp2
                  refine ⟨⟨3 + 1, A7, c7, rfl, by go_num, by omega, ho7, T7, hB7⟩, by simp [intOf]⟩
              · obtain rfl : k = 4 := by omega
                go_wp2
                refine ⟨⟨j, i + 4, A'', c'', tt, _, rfl, rfl, by go_num, Lib.hid (by have := hij.out; omega), by omega, by have := hij.out; omega, htt, hS, o4, T, HT⟩, by simp [intOf]; omega⟩
    · go_enter Try.func19, Try.ntmps19
      go_wp2_with fail
      refine (aes_boxes _).mono ?_
      rintro e w2 ⟨rfl, hB2⟩
      have z := zero256
      have hne := zs256_ne
      have hi := Lib.hid box_info
      have ho := Lib.hid box_size
      have L := Lib.hid (box_laid w2 w2.heap.size rfl)
      go_wp2_with (refine wpList_store_row rfl 47 _ _ rfl w2.heap.size (cellsB boxT) rfl rfl 47 zs256 L.out hi.out ho.out (cellsB_one _) (hid_stop ?_))
      have T := box_arr w2 w2.heap.size rfl
      have HT := below_setRow (below_alloc (Below.refl w2.heap.size w2) (.cells zs256 47)) (g := w2.heap.size) (Nat.le_refl _) (cellsB boxT)
      generalize (w2.alloc (.cells zs256 47)).setRow w2.heap.size (cellsB boxT) = w3 at T HT ⊢
      refine Lib.hid ?_
      clear z hne hi ho L
      have hgt' : w.heap.size ≤ w2.heap.size := by have := hB2.size; omega
      replace HT := below_step2 hB2 HT
      generalize hgt : w2.heap.size = gt at T hgt' ⊢
      clear hB2 hgt
      obtain ⟨ad, rfl, _⟩ := h.some_ (by omega)
      go_wp2_with fail
      refine (bytes_Clone _ _ _ _ _ (h.below HT)).mono ?_
      rintro e w4 ⟨v4, rfl, o4, hB4⟩
      replace T := Lib.hid (T.below hB4)
      replace o4 := o4.lower HT.size
      replace HT := Lib.hid (below_step2 HT hB4)
      clear hB4
      obtain ⟨A4, n4, c4, rfl, _⟩ := o4.bts
      obtain rfl : n4 = 32 := by have := o4.sl.len; rw [hl.out] at this; exact this.symm
      replace o4 := Lib.hid o4
      go_wp2
      have hb4 := Lib.hid (h.byt)
      go_loopw [6, 7, 8] (fun vo vt vi wr => ∃ (j i : Nat) (A' : Option Addr) (c' : Nat) (turn : Int) (out : List Int), vo = .slice A' i c' ∧ vt = .int .u8 turn ∧ vi = .int .i64 (i : Int) ∧ Hid (i + 4 * j = 240) ∧ 32 ≤ i ∧ i ≤ 240 ∧ (0 ≤ turn ∧ turn ≤ 255) ∧ Hid (keysL j 32 i turn out = keysS ks) ∧ Hid (OwnB wr w.heap.size (.slice A' i c') out) ∧ Hid (Arr wr gt 47 boxT) ∧ Hid (Below w.heap.size w wr)) (fun _ _ vi _ => 240 - (intOf vi).toNat)
      case atStart => exact ⟨52, 32, A4, c4, 1, ks, rfl, rfl, rfl, Lib.hid rfl, by omega, by omega, by omega, Lib.hid (by unfold keysS; rw [hl.out]; rfl), o4, T, HT⟩
      case round =>
        clear o4 T HT
        obtain ⟨j, i, A', c', turn, out, rfl, rfl, rfl, hij, hNi, hiL, ht, hK, o4, T, HT⟩ := hrel
        match j, hij, hK with
        | 0, hij, hK =>
          obtain rfl : i = 240 := by have := hij.out; omega
          go_wp2
          go_ret2
          refine ⟨_, _, _, rfl, ?_, HT.out⟩
          rw [if_pos rfl, ← hK.out]
          exact o4.out
        | j + 1, hij, hK =>
          have hi2 : i < 240 := by have := hij.out; omega
          have hii : (i : Int) < 240 := by omega
          have hcap := o4.out.sl.le
          have hlo := Lib.hid o4.out.sl.len
          obtain ⟨ad, rfl, cc⟩ := o4.out.sl.some_ (by omega)
          have hob := Lib.hid o4.out.byt
          have ha := fun W => run_arrayAt (P := Try.prog) W 49 _ 4 (some (ad.add (i - 4))) (i - (i - 4)) (c' - (i - 4)) Try.underlying49 (by omega)
          have hc4 := Lib.hid (four_cells wr ad i out (by omega) cc)
          have hi4 := Lib.hid (four_info (four i out) rfl)
          clear cc
          go_wp2_with (refine wpList_load_at rfl 49 _ rfl (ad.add (i - 4)) rfl (four i out) _ hc4.out Try.underlying49 rfl hi4.out (hid_stop ?_))
          refine Lib.hid ?_
          clear ha hc4
          have W4 := Lib.hid (Arr.at_ wr wr.heap.size 49 [0, 0, 0, 0] rfl)
          have RB := Lib.hid W4.out.blk
          have ho : Hid ((cellsB [0, 0, 0, 0]).size = (cellsB (four i out)).size) := Lib.hid rfl
          have hgw : gt < wr.heap.size := T.out.lt
          have hag : ad.block < wr.heap.size := own_lt o4.out.own ad.block rfl
          replace T := Lib.hid ((T.out.alloc (.cells (cellsB [0, 0, 0, 0]) 49)).farRow (g' := wr.heap.size) (by omega) (cellsB (four i out)))
          replace o4 := Lib.hid ((o4.out.alloc (.cells (cellsB [0, 0, 0, 0]) 49)).farRow (g' := wr.heap.size) (fun k hk => by have := own_lt o4.out.own k hk; omega) (cellsB (four i out)))
          replace W4 := Lib.hid (W4.out.setRow (four i out))
          replace HT := Lib.hid (below_setRow (below_alloc HT.out (.cells (cellsB [0, 0, 0, 0]) 49)) (g := wr.heap.size) HT.out.size (cellsB (four i out)))
          have hgw' : w.heap.size ≤ wr.heap.size := by omega
          go_wp2_with (refine wpList_store_row rfl 49 _ _ rfl wr.heap.size (cellsB (four i out)) rfl rfl 49 (cellsB [0, 0, 0, 0]) RB.out hi4.out ho.out (cellsB_one _) (hid_stop ?_))
          clear RB ho
          generalize hg9 : wr.heap.size = g9 at W4 T o4 HT hgw hgw' hag ⊢
          change Hid (wpList _ _ _ _ _ ((wr.alloc (.cells (cellsB [0, 0, 0, 0]) 49)).setRow g9 (cellsB (four i out))))
          generalize (wr.alloc (.cells (cellsB [0, 0, 0, 0]) 49)).setRow g9 (cellsB (four i out)) = w5 at W4 T o4 HT ⊢
          refine Lib.hid ?_
          clear hg9
          go_upto_block 2 with (fail)
          go_cut [7] (fun vt wx => vt = .int .u8 (if i % 32 = 0 then dbl turn else turn) ∧ Hid (Mid w wx g9 gt 32 i turn out (some ad) c'))
          case first =>
            have x0 := byt_get hob.out (i - 4)
            have x1 := byt_get hob.out (i - 3)
            have x2 := byt_get hob.out (i - 2)
            have x3 := byt_get hob.out (i - 1)
            by_cases hm : i % 32 = 0
            · have hW : Hid (wordS 32 i turn out = [bx (box (out.getD (i - 3) 0)) turn, box (out.getD (i - 2) 0), box (out.getD (i - 1) 0), box (out.getD (i - 4) 0)]) := Lib.hid (by unfold wordS; rw [if_pos hm])
              have e1 : ((i : Int) % 32 == 0) = true := by rw [beq_iff_eq]; omega
              have e1' : (i : Int) % 32 = 0 := by omega
              have hm' : Hid (dbl turn = if i % 32 = 0 then dbl turn else turn) := Lib.hid (by rw [if_pos hm])
              clear hm
              unfold four at W4
              generalize out.getD (i - 4) 0 = u0 at W4 hW x0
              generalize out.getD (i - 3) 0 = u1 at W4 hW x1
              generalize out.getD (i - 2) 0 = u2 at W4 hW x2
              generalize out.getD (i - 1) 0 = u3 at W4 hW x3
              obtain ⟨k0, rfl⟩ := Int.eq_ofNat_of_zero_le x0.1
              obtain ⟨k1, rfl⟩ := Int.eq_ofNat_of_zero_le x1.1
              obtain ⟨k2, rfl⟩ := Int.eq_ofNat_of_zero_le x2.1
              obtain ⟨k3, rfl⟩ := Int.eq_ofNat_of_zero_le x3.1
              have c0 : w5.cell? ⟨g9, 0, none⟩ = some (.int .u8 (k0 : Int)) := W4.out.cell 0 (by simp)
              have c1 : w5.cell? ⟨g9, 1, none⟩ = some (.int .u8 (k1 : Int)) := W4.out.cell 1 (by simp)
              have c2 : w5.cell? ⟨g9, 2, none⟩ = some (.int .u8 (k2 : Int)) := W4.out.cell 2 (by simp)
              have c3 : w5.cell? ⟨g9, 3, none⟩ = some (.int .u8 (k3 : Int)) := W4.out.cell 3 (by simp)
              have f0 := W4.out.free 0
              have f1 := W4.out.free 1
              have f2 := W4.out.free 2
              have f3 := W4.out.free 3
              have t0 : w5.cell? ⟨gt, k0, none⟩ = some (.int .u8 (box (k0 : Int))) := T.out.cell k0 (by rw [boxT_len]; omega)
              have t1 : w5.cell? ⟨gt, k1, none⟩ = some (.int .u8 (box (k1 : Int))) := T.out.cell k1 (by rw [boxT_len]; omega)
              have t2 : w5.cell? ⟨gt, k2, none⟩ = some (.int .u8 (box (k2 : Int))) := T.out.cell k2 (by rw [boxT_len]; omega)
              have t3 : w5.cell? ⟨gt, k3, none⟩ = some (.int .u8 (box (k3 : Int))) := T.out.cell k3 (by rw [boxT_len]; omega)
              have z0 := box_byte (k0 : Int)
              have z1 := box_byte (k1 : Int)
              have z2 := box_byte (k2 : Int)
              have z3 := box_byte (k3 : Int)
              have l0 : (k0 : Int) < 256 := by omega
              have l1 : (k1 : Int) < 256 := by omega
              have l2 : (k2 : Int) < 256 := by omega
              have l3 : (k3 : Int) < 256 := by omega
              generalize box (k0 : Int) = y0 at t0 z0 hW
              generalize box (k1 : Int) = y1 at t1 z1 hW
              generalize box (k2 : Int) = y2 at t2 z2 hW
              generalize box (k3 : Int) = y3 at t3 z3 hW
              have hv := k_xor_u8 y1 turn z1 ht
              have M : Mid w (w5.drew.setRow g9 (cellsB [(bx y1 turn), y2, y3, y0])) g9 gt 32 i turn out (some ad) c' := by
                refine ⟨?_, o4.out.drew.farRow (fun k hk => by injection hk with hk; subst hk; exact Nat.ne_of_lt hag) _, T.out.drew.farRow (Nat.ne_of_lt hgw) _, below_setRow (below_drew HT.out) hgw' _⟩
                rw [hW.out]
                exact W4.out.drew.setRow _
              replace M := Lib.hid M
              have RB := Lib.hid W4.out.drew.blk
              have hi6 := Lib.hid (four_info [(bx y1 turn), y2, y3, y0] rfl)
              go_wp2
              go_still_tail 19, (by kernel_rfl)
              change wpList _ _ _ _ _ w5.drew
              clear c0 c1 c2 c3 t0 t1 t2 t3 hv f0 f1 f2 f3
              go_wp2_with (refine wpList_store_row rfl 49 _ _ rfl g9 (cellsB [bx y1 turn, y2, y3, y0]) rfl rfl 49 (cellsB [(k0 : Int), (k1 : Int), (k2 : Int), (k3 : Int)]) RB.out hi6.out rfl (cellsB_one _) (hid_stop ?_))
              refine Lib.hid ?_
              go_wp2_with fail
              refine (aes_double _ _ ht).mono ?_
              rintro e w' ⟨rfl, rfl⟩
              go_wp2_with fail
              go_meet
              exact ⟨by rw [← hm'.out], M⟩
            · have hm' : Hid (turn = if i % 32 = 0 then dbl turn else turn) := Lib.hid (by rw [if_neg hm])
              have e1 : ((i : Int) % 32 == 0) = false := beq_eq_false_iff_ne.mpr (by omega)
              by_cases h16 : i % 32 = 16
              · have hW : Hid (wordS 32 i turn out = [box (out.getD (i - 4) 0), box (out.getD (i - 3) 0), box (out.getD (i - 2) 0), box (out.getD (i - 1) 0)]) := Lib.hid (by unfold wordS; rw [if_neg hm, if_pos ⟨rfl, h16⟩])
                have e2 : ((i : Int) % 32 == 16) = true := by rw [beq_iff_eq]; omega
                clear hm h16
                unfold four at W4
                generalize out.getD (i - 4) 0 = u0 at W4 hW x0
                generalize out.getD (i - 3) 0 = u1 at W4 hW x1
                generalize out.getD (i - 2) 0 = u2 at W4 hW x2
                generalize out.getD (i - 1) 0 = u3 at W4 hW x3
                obtain ⟨k0, rfl⟩ := Int.eq_ofNat_of_zero_le x0.1
                obtain ⟨k1, rfl⟩ := Int.eq_ofNat_of_zero_le x1.1
                obtain ⟨k2, rfl⟩ := Int.eq_ofNat_of_zero_le x2.1
                obtain ⟨k3, rfl⟩ := Int.eq_ofNat_of_zero_le x3.1
                have c0 : w5.cell? ⟨g9, 0, none⟩ = some (.int .u8 (k0 : Int)) := W4.out.cell 0 (by simp)
                have c1 : w5.cell? ⟨g9, 1, none⟩ = some (.int .u8 (k1 : Int)) := W4.out.cell 1 (by simp)
                have c2 : w5.cell? ⟨g9, 2, none⟩ = some (.int .u8 (k2 : Int)) := W4.out.cell 2 (by simp)
                have c3 : w5.cell? ⟨g9, 3, none⟩ = some (.int .u8 (k3 : Int)) := W4.out.cell 3 (by simp)
                have f0 := W4.out.free 0
                have f1 := W4.out.free 1
                have f2 := W4.out.free 2
                have f3 := W4.out.free 3
                have t0 : w5.cell? ⟨gt, k0, none⟩ = some (.int .u8 (box (k0 : Int))) := T.out.cell k0 (by rw [boxT_len]; omega)
                have t1 : w5.cell? ⟨gt, k1, none⟩ = some (.int .u8 (box (k1 : Int))) := T.out.cell k1 (by rw [boxT_len]; omega)
                have t2 : w5.cell? ⟨gt, k2, none⟩ = some (.int .u8 (box (k2 : Int))) := T.out.cell k2 (by rw [boxT_len]; omega)
                have t3 : w5.cell? ⟨gt, k3, none⟩ = some (.int .u8 (box (k3 : Int))) := T.out.cell k3 (by rw [boxT_len]; omega)
                have z0 := box_byte (k0 : Int)
                have z1 := box_byte (k1 : Int)
                have z2 := box_byte (k2 : Int)
                have z3 := box_byte (k3 : Int)
                have l0 : (k0 : Int) < 256 := by omega
                have l1 : (k1 : Int) < 256 := by omega
                have l2 : (k2 : Int) < 256 := by omega
                have l3 : (k3 : Int) < 256 := by omega
                generalize box (k0 : Int) = y0 at t0 z0 hW
                generalize box (k1 : Int) = y1 at t1 z1 hW
                generalize box (k2 : Int) = y2 at t2 z2 hW
                generalize box (k3 : Int) = y3 at t3 z3 hW
                have M : Mid w (w5.drew.setRow g9 (cellsB [y0, y1, y2, y3])) g9 gt 32 i turn out (some ad) c' := by
                  refine ⟨?_, o4.out.drew.farRow (fun k hk => by injection hk with hk; subst hk; exact Nat.ne_of_lt hag) _, T.out.drew.farRow (Nat.ne_of_lt hgw) _, below_setRow (below_drew HT.out) hgw' _⟩
                  rw [hW.out]
                  exact W4.out.drew.setRow _
                replace M := Lib.hid M
                have RB := Lib.hid W4.out.drew.blk
                have hi6 := Lib.hid (four_info [y0, y1, y2, y3] rfl)
                go_wp2
                go_still_tail 17, (by kernel_rfl)
                change wpList _ _ _ _ _ w5.drew
                clear c0 c1 c2 c3 t0 t1 t2 t3 f0 f1 f2 f3
                go_wp2_with (refine wpList_store_row rfl 49 _ _ rfl g9 (cellsB [y0, y1, y2, y3]) rfl rfl 49 (cellsB [(k0 : Int), (k1 : Int), (k2 : Int), (k3 : Int)]) RB.out hi6.out rfl (cellsB_one _) (hid_stop ?_))
                refine Lib.hid ?_
                go_wp2_with fail
                go_meet
                exact ⟨by rw [← hm'.out], M⟩
              · have hW : Hid (wordS 32 i turn out = four i out) := Lib.hid (by unfold wordS; rw [if_neg hm, if_neg (by omega)]; rfl)
                have e2 : ((i : Int) % 32 == 16) = false := beq_eq_false_iff_ne.mpr (by omega)
                have M : Mid w w5 g9 gt 32 i turn out (some ad) c' := ⟨hW.out ▸ W4.out, o4.out, T.out, HT.out⟩
                replace M := Lib.hid M
                clear hm h16 W4 o4 T HT
                go_wp2_with fail
                go_meet
                exact ⟨by rw [← hm'.out], M⟩
          case rest =>
            obtain ⟨rfl, M⟩ := hcut
            clear W4 o4 T HT hi4
            obtain ⟨v0, v1, v2, v3, hws⟩ := wordS_four 32 i turn out
            have W6 := M.out.W
            rw [hws] at W6
            have hvb := wordS_byt (n := 32) (i := i) ht hob.out
            rw [hws] at hvb
            simp only [byt_cons] at hvb
            obtain ⟨hv0, hv1, hv2, hv3, _⟩ := hvb
            have c0 : wc.cell? ⟨g9, 0, none⟩ = some (.int .u8 v0) := W6.cell 0 (by simp)
            have c1 : wc.cell? ⟨g9, 1, none⟩ = some (.int .u8 v1) := W6.cell 1 (by simp)
            have c2 : wc.cell? ⟨g9, 2, none⟩ = some (.int .u8 v2) := W6.cell 2 (by simp)
            have c3 : wc.cell? ⟨g9, 3, none⟩ = some (.int .u8 v3) := W6.cell 3 (by simp)
            have hS : Hid (keysL j 32 (i + 4) (if i % 32 = 0 then dbl turn else turn) (out ++ nextS 32 i [v0, v1, v2, v3] out) = keysS ks) := Lib.hid (by rw [← hK.out, keysL, hws])
            have htt : 0 ≤ (if i % 32 = 0 then dbl turn else turn) ∧ (if i % 32 = 0 then dbl turn else turn) ≤ 255 := by
              split
              · exact dbl_byte
              · exact ht
            have o6 := Lib.hid M.out.o
            have T6 := Lib.hid M.out.T
            have B6 := Lib.hid M.out.B
            clear hK ht W6 hws M
            generalize (if i % 32 = 0 then dbl turn else turn) = tt at hS htt ⊢
            replace hS := Lib.hid hS.out
            go_wp2
            go_loopw [6, 91] (fun vo vk wr => ∃ (k : Nat) (A'' : Option Addr) (c'' : Nat), vo = .slice A'' (i + k) c'' ∧ vk = .int .i64 (k : Int) ∧ k ≤ 4 ∧ Hid (OwnB wr w.heap.size (.slice A'' (i + k) c'') (out ++ (nextS 32 i [v0, v1, v2, v3] out).take k)) ∧ Hid (Arr wr gt 47 boxT) ∧ Hid (Below w.heap.size w wr)) (fun _ vk _ => 4 - (intOf vk).toNat)
            case atStart => exact ⟨0, some ad, c', rfl, rfl, by omega, Lib.hid (by rw [List.take_zero, List.append_nil]; exact o6.out), T6, B6⟩
            case round =>
              clear o6 T6 B6 c0 c1 c2 c3
              obtain ⟨k, A'', c'', rfl, rfl, hk, o4, T, HT⟩ := hrel
              by_cases h4 : k < 4
              · have hpos : 0 < i + k := by omega
                obtain ⟨ad2, rfl, cc⟩ := o4.out.sl.some_ hpos
                have hcap2 := o4.out.sl.le
                obtain rfl | rfl | rfl | rfl : k = 0 ∨ k = 1 ∨ k = 2 ∨ k = 3 := by omega
                · skip
                  have ck := cc (i - 32 + 0) (by omega)
                  rw [getD_app _ _ _ (by rw [hlo.out]; omega)] at ck
                  clear cc
                  try simp only [Nat.add_zero] at ck
                  have hT : Hid ((out ++ (nextS 32 i [v0, v1, v2, v3] out).take 0) ++ [bx v0 (out.getD (i - 32 + 0) 0)] = out ++ (nextS 32 i [v0, v1, v2, v3] out).take (0 + 1)) := Lib.hid (by rw [List.append_assoc]; rfl)
                  have bk := byt_get hob.out (i - 32 + 0)
                  try simp only [Nat.add_zero] at hT bk
                  generalize out.getD (i - 32 + 0) 0 = uk at ck hT bk
                  skip
                  have hx := k_xor_u8 v0 uk hv0 bk
                  have bxk := Lib.hid (bx_byte hv0 bk)
                  have hix : ∀ W, (Instr.index 49 (.agg #[.int .u8 v0, .int .u8 v1, .int .u8 v2, .int .u8 v3]) (.int .i64 0)).run Try.prog W = .ok (.int .u8 v0) W := index4 v0 v1 v2 v3 0 v0 rfl
                  have hne := Lib.hid (o4.out.ne_arr T.out (by decide))
                  have hln := Lib.hid o4.out.sl.len
                  have hlm := Lib.hid o4.out.max
                  go_wp2_with (at_builtin; refine hid_stop ?_)
                  refine Lib.hid ?_
                  refine append_own (w0 := w) w.heap.size rfl (.tmp 95) (.tmp 106) 22 rfl Try.underlying22 Try.info5 _ _ [bx v0 uk] _ _ _ rfl rfl (o4.out.alloc _) (Bts.lit_at wr wr.heap.size 5 [bx v0 uk] rfl (by simp only [byt_cons]; exact ⟨bxk.out, byt_nil⟩) (by simp)) (below_alloc HT.out _) (below_alloc HT.out _).size (by have := hln.out; rw [this]; simp; omega) ?_
                  intro vn w7 ho7 hB7 hg7
                  obtain ⟨A7, m7, c7, rfl, _⟩ := ho7.bts
                  obtain rfl : m7 = i + (0 + 1) := by have := ho7.sl.len; rw [List.length_append, hln.out] at this; simp at this; omega
                  rw [hT.out] at ho7
                  have T7 := Lib.hid ((T.out.alloc _).grown hg7 (fun e => hne.out (by injection e)))
                  replace ho7 := Lib.hid ho7
                  replace hB7 := Lib.hid hB7
                  clear o4 T HT hT hx hix ck hg7 hcap2
                  go_wp2
                  refine ⟨⟨0 + 1, A7, c7, rfl, by go_num, by omega, ho7, T7, hB7⟩, by simp [intOf]⟩
                · skip
                  have ck := cc (i - 32 + 1) (by omega)
                  rw [getD_app _ _ _ (by rw [hlo.out]; omega)] at ck
                  clear cc
                  try simp only [Nat.add_zero] at ck
                  have hT : Hid ((out ++ (nextS 32 i [v0, v1, v2, v3] out).take 1) ++ [bx v1 (out.getD (i - 32 + 1) 0)] = out ++ (nextS 32 i [v0, v1, v2, v3] out).take (1 + 1)) := Lib.hid (by rw [List.append_assoc]; rfl)
                  have bk := byt_get hob.out (i - 32 + 1)
                  try simp only [Nat.add_zero] at hT bk
                  generalize out.getD (i - 32 + 1) 0 = uk at ck hT bk
                  replace ck : wr.cell? { block := ad2.block, off := ad2.off + (i - 32 + 1) } = some (.int .u8 uk) := cell_add ck (by omega)
                  have hx := k_xor_u8 v1 uk hv1 bk
                  have bxk := Lib.hid (bx_byte hv1 bk)
                  have hix : ∀ W, (Instr.index 49 (.agg #[.int .u8 v0, .int .u8 v1, .int .u8 v2, .int .u8 v3]) (.int .i64 1)).run Try.prog W = .ok (.int .u8 v1) W := index4 v0 v1 v2 v3 1 v1 rfl
                  have hne := Lib.hid (o4.out.ne_arr T.out (by decide))
                  have hln := Lib.hid o4.out.sl.len
                  have hlm := Lib.hid o4.out.max
                  go_wp2_with (at_builtin; refine hid_stop ?_)
                  refine Lib.hid ?_
                  refine append_own (w0 := w) w.heap.size rfl (.tmp 95) (.tmp 106) 22 rfl Try.underlying22 Try.info5 _ _ [bx v1 uk] _ _ _ rfl rfl (o4.out.alloc _) (Bts.lit_at wr wr.heap.size 5 [bx v1 uk] rfl (by simp only [byt_cons]; exact ⟨bxk.out, byt_nil⟩) (by simp)) (below_alloc HT.out _) (below_alloc HT.out _).size (by have := hln.out; rw [this]; simp; omega) ?_
                  intro vn w7 ho7 hB7 hg7
                  obtain ⟨A7, m7, c7, rfl, _⟩ := ho7.bts
                  obtain rfl : m7 = i + (1 + 1) := by have := ho7.sl.len; rw [List.length_append, hln.out] at this; simp at this; omega
                  rw [hT.out] at ho7
                  have T7 := Lib.hid ((T.out.alloc _).grown hg7 (fun e => hne.out (by injection e)))
                  replace ho7 := Lib.hid ho7
                  replace hB7 := Lib.hid hB7
                  clear o4 T HT hT hx hix ck hg7 hcap2
                  go_wp2
                  refine ⟨⟨1 + 1, A7, c7, rfl, by go_num, by omega, ho7, T7, hB7⟩, by simp [intOf]⟩
                · skip
                  have ck := cc (i - 32 + 2) (by omega)
                  rw [getD_app _ _ _ (by rw [hlo.out]; omega)] at ck
                  clear cc
                  try simp only [Nat.add_zero] at ck
                  have hT : Hid ((out ++ (nextS 32 i [v0, v1, v2, v3] out).take 2) ++ [bx v2 (out.getD (i - 32 + 2) 0)] = out ++ (nextS 32 i [v0, v1, v2, v3] out).take (2 + 1)) := Lib.hid (by rw [List.append_assoc]; rfl)
                  have bk := byt_get hob.out (i - 32 + 2)
                  try simp only [Nat.add_zero] at hT bk
                  generalize out.getD (i - 32 + 2) 0 = uk at ck hT bk
                  replace ck : wr.cell? { block := ad2.block, off := ad2.off + (i - 32 + 1 + 1) } = some (.int .u8 uk) := cell_add ck (by omega)
                  have hx := k_xor_u8 v2 uk hv2 bk
                  have bxk := Lib.hid (bx_byte hv2 bk)
                  have hix : ∀ W, (Instr.index 49 (.agg #[.int .u8 v0, .int .u8 v1, .int .u8 v2, .int .u8 v3]) (.int .i64 2)).run Try.prog W = .ok (.int .u8 v2) W := index4 v0 v1 v2 v3 2 v2 rfl
                  have hne := Lib.hid (o4.out.ne_arr T.out (by decide))
                  have hln := Lib.hid o4.out.sl.len
                  have hlm := Lib.hid o4.out.max
                  go_wp2_with (at_builtin; refine hid_stop ?_)
                  refine Lib.hid ?_
                  refine append_own (w0 := w) w.heap.size rfl (.tmp 95) (.tmp 106) 22 rfl Try.underlying22 Try.info5 _ _ [bx v2 uk] _ _ _ rfl rfl (o4.out.alloc _) (Bts.lit_at wr wr.heap.size 5 [bx v2 uk] rfl (by simp only [byt_cons]; exact ⟨bxk.out, byt_nil⟩) (by simp)) (below_alloc HT.out _) (below_alloc HT.out _).size (by have := hln.out; rw [this]; simp; omega) ?_
                  intro vn w7 ho7 hB7 hg7
                  obtain ⟨A7, m7, c7, rfl, _⟩ := ho7.bts
                  obtain rfl : m7 = i + (2 + 1) := by have := ho7.sl.len; rw [List.length_append, hln.out] at this; simp at this; omega
                  rw [hT.out] at ho7
                  have T7 := Lib.hid ((T.out.alloc _).grown hg7 (fun e => hne.out (by injection e)))
                  replace ho7 := Lib.hid ho7
                  replace hB7 := Lib.hid hB7
                  clear o4 T HT hT hx hix ck hg7 hcap2
                  go_wp2
                  refine ⟨⟨2 + 1, A7, c7, rfl, by go_num, by omega, ho7, T7, hB7⟩, by simp [intOf]⟩
                · skip
                  have ck := cc (i - 32 + 3) (by omega)
                  rw [getD_app _ _ _ (by rw [hlo.out]; omega)] at ck
                  clear cc
                  try simp only [Nat.add_zero] at ck
                  have hT : Hid ((out ++ (nextS 32 i [v0, v1, v2, v3] out).take 3) ++ [bx v3 (out.getD (i - 32 + 3) 0)] = out ++ (nextS 32 i [v0, v1, v2, v3] out).take (3 + 1)) := Lib.hid (by rw [List.append_assoc]; rfl)
                  have bk := byt_get hob.out (i - 32 + 3)
                  try simp only [Nat.add_zero] at hT bk
                  generalize out.getD (i - 32 + 3) 0 = uk at ck hT bk
                  replace ck : wr.cell? { block := ad2.block, off := ad2.off + (i - 32 + 1 + 1 + 1) } = some (.int .u8 uk) := cell_add ck (by omega)
                  have hx := k_xor_u8 v3 uk hv3 bk
                  have bxk := Lib.hid (bx_byte hv3 bk)
                  have hix : ∀ W, (Instr.index 49 (.agg #[.int .u8 v0, .int .u8 v1, .int .u8 v2, .int .u8 v3]) (.int .i64 3)).run Try.prog W = .ok (.int .u8 v3) W := index4 v0 v1 v2 v3 3 v3 rfl
                  have hne := Lib.hid (o4.out.ne_arr T.out (by decide))
                  have hln := Lib.hid o4.out.sl.len
                  have hlm := Lib.hid o4.out.max
                  go_wp2_with (at_builtin; refine hid_stop ?_)
                  refine Lib.hid ?_
                  refine append_own (w0 := w) w.heap.size rfl (.tmp 95) (.tmp 106) 22 rfl Try.underlying22 Try.info5 _ _ [bx v3 uk] _ _ _ rfl rfl (o4.out.alloc _) (Bts.lit_at wr wr.heap.size 5 [bx v3 uk] rfl (by simp only [byt_cons]; exact ⟨bxk.out, byt_nil⟩) (by simp)) (below_alloc HT.out _) (below_alloc HT.out _).size (by have := hln.out; rw [this]; simp; omega) ?_
                  intro vn w7 ho7 hB7 hg7
                  obtain ⟨A7, m7, c7, rfl, _⟩ := ho7.bts
                  obtain rfl : m7 = i + (3 + 1) := by have := ho7.sl.len; rw [List.length_append, hln.out] at this; simp at this; omega
                  rw [hT.out] at ho7
                  have T7 := Lib.hid ((T.out.alloc _).grown hg7 (fun e => hne.out (by injection e)))
                  replace ho7 := Lib.hid ho7
                  replace hB7 := Lib.hid hB7
                  clear o4 T HT hT hx hix ck hg7 hcap2
                  go_wp2
                  refine ⟨⟨3 + 1, A7, c7, rfl, by go_num, by omega, ho7, T7, hB7⟩, by simp [intOf]⟩
              · obtain rfl : k = 4 := by omega
                go_wp2
                refine ⟨⟨j, i + 4, A'', c'', tt, _, rfl, rfl, by go_num, Lib.hid (by have := hij.out; omega), by omega, by have := hij.out; omega, htt, hS, o4, T, HT⟩, by simp [intOf]; omega⟩
  · rw [show keyErr n = 1 from if_neg hn]
    have hmx := h.max
    have e1 : ((n : Int) != 16) = true := bne_iff_ne.mpr (by omega)
    have e1' : (n != 16) = true := bne_iff_ne.mpr (by omega)
    have e2 : ((n : Int) != 32) = true := bne_iff_ne.mpr (by omega)
    have e2' : (n != 32) = true := bne_iff_ne.mpr (by omega)
    clear hn
    go_enter Try.func19, Try.ntmps19
    go_wp2
    go_ret2
    exact ⟨_, _, _, rfl, OwnB.nil_ _ _, Below.refl _ _⟩
end Go.Proofs.Ytgkphopdmkfcgaa

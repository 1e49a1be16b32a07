/- Contract of a block's mix. Conditions: a block of 16 bytes. -/
import Derived.Test.YtgkphopdmkfcgaaCAesB
import Derived.Deep.RegionHeld3
namespace Go.Proofs.Ytgkphopdmkfcgaa
open Go.RowKit Go.Proofs.YtgkphopdmkfcgaaW.PrintWords


set_option maxHeartbeats 2000000 in
theorem aes_mix (xs : List Int) (w : World) (hx : xs.length = 16) (hb : Byt xs) :
    Calls Try.prog (36) #[.agg (cellsB xs)] w fun e w' => e = .returned (.agg (cellsB (mixS xs))) ∧ Below w.heap.size w w' := by
  have X := Lib.hid (((Arr.at_ w w.heap.size 55 xs rfl).alloc (.cells (cellsB z16) 55)).alloc (.cells (cellsB z16) 55))
  have Z := Lib.hid ((Arr.at_ (w.alloc (.cells (cellsB xs) 55)) (w.heap.size + 1) 55 z16 (by simp)).alloc (.cells (cellsB z16) 55))
  have R := Lib.hid (Arr.at_ ((w.alloc (.cells (cellsB xs) 55)).alloc (.cells (cellsB z16) 55)) (w.heap.size + 2) 55 z16 (by simp))
  have HB := Lib.hid (below_alloc (below_alloc (below_alloc (Below.refl w.heap.size w) (.cells (cellsB xs) 55)) (.cells (cellsB z16) 55)) (.cells (cellsB z16) 55))
  go_enter Try.func36, Try.ntmps36
  go_wp2
  generalize hg : w.heap.size = g at X R Z
  go_loopw [4] (fun vi wr => ∃ (a c : Nat) (zs : List Int), c = 4 * a ∧ vi = .int .i64 (c : Int) ∧ c ≤ 16 ∧ Hid (zs.length = 16) ∧ Hid (∀ j, j < 16 → zs.getD j 0 = if j < c then mixB xs (j / 4 * 4) (j % 4) else 0) ∧ Hid (Arr wr g 55 xs) ∧ Hid (Arr wr (g + 2) 55 zs) ∧ Hid (Arr wr (g + 1) 55 z16) ∧ Hid (Below g w wr)) (fun vi _ => 16 - (intOf vi).toNat)
  case atStart => exact ⟨0, 0, z16, rfl, rfl, by omega, Lib.hid rfl, Lib.hid (fun j _ => by rw [if_neg (by omega)]; exact z16_get j), X, R, Z, hg ▸ HB⟩
  case round =>
    clear X R Z HB
    obtain ⟨a, c, zs, hca, rfl, hc, hl, hf, X, R, Z, HB⟩ := hrel
    replace hca := Lib.hid hca
    by_cases h0 : c < 16
    · have hc4 := hca.out
      have i2 : (0 : Int) ≤ (c : Int) := by omega
      have i3 : (c : Int) < 16 := by omega
      have c0 := X.out.cell c (by rw [hx]; omega)
      have c1 := X.out.cell (c + 1) (by rw [hx]; omega)
      have c2 := X.out.cell (c + 2) (by rw [hx]; omega)
      have c3 := X.out.cell (c + 3) (by rw [hx]; omega)
      have b0 := byt_get hb c
      have b1 := byt_get hb (c + 1)
      have b2 := byt_get hb (c + 2)
      have b3 := byt_get hb (c + 3)
      have hA : Hid (bits .xor .u8 (bits .xor .u8 (bits .xor .u8 (xs.getD c 0) (xs.getD (c + 1) 0)) (xs.getD (c + 2) 0)) (xs.getD (c + 3) 0) = allS xs c) := Lib.hid (by
        unfold allS
        rw [k_xor_u8 _ _ b0 b1, k_xor_u8 _ _ (bx_byte b0 b1) b2, k_xor_u8 _ _ (bx_byte (bx_byte b0 b1) b2) b3])
      have hAb : 0 ≤ allS xs c ∧ allS xs c ≤ 255 := by unfold allS; exact bx_byte (bx_byte (bx_byte b0 b1) b2) b3
      have m1 : IntKind.i64.wrap ((c : Int) + 1) = ((c + 1 : Nat) : Int) := IntWalk.i64_in _ (by omega)
      have m2 : IntKind.i64.wrap ((c : Int) + 2) = ((c + 2 : Nat) : Int) := IntWalk.i64_in _ (by omega)
      have m3 : IntKind.i64.wrap ((c : Int) + 3) = ((c + 3 : Nat) : Int) := IntWalk.i64_in _ (by omega)
      generalize xs.getD c 0 = y0 at c0 hA
      generalize xs.getD (c + 1) 0 = y1 at c1 hA
      generalize xs.getD (c + 2) 0 = y2 at c2 hA
      generalize xs.getD (c + 3) 0 = y3 at c3 hA
      clear b0 b1 b2 b3
      have p1 : c + 1 < 16 := by omega
      have p2 : c + 2 < 16 := by omega
      have p3 : c + 3 < 16 := by omega
      generalize c + 1 = k1 at c1 m1 p1
      generalize c + 2 = k2 at c2 m2 p2
      generalize c + 3 = k3 at c3 m3 p3
      have q1 : (k1 : Int) < 16 := by omega
      have q2 : (k2 : Int) < 16 := by omega
      have q3 : (k3 : Int) < 16 := by omega
      have r1 : (0 : Int) ≤ (k1 : Int) := by omega
      have r2 : (0 : Int) ≤ (k2 : Int) := by omega
      have r3 : (0 : Int) ≤ (k3 : Int) := by omega
      clear hc4
      go_wp2
      go_quiet (fail)
      rw [hA.out]
      clear m1 m2 m3 q1 q2 q3 r1 r2 r3 c0 c1 c2 c3 hA p1 p2 p3
      replace X := Lib.hid (X.out.drewN nq)
      replace R := Lib.hid (R.out.drewN nq)
      replace Z := Lib.hid (Z.out.drewN nq)
      replace HB := Lib.hid (pw_below_drewN HB.out nq)
      generalize wr.drewN nq = wr0 at X R Z HB ⊢
      go_wp2
      go_loopw [29] (fun vr wi => ∃ (r : Nat) (ys : List Int), vr = .int .i64 (r : Int) ∧ r ≤ 4 ∧ Hid (ys.length = 16) ∧ Hid (∀ j, j < 16 → ys.getD j 0 = if j < c + r then mixB xs (j / 4 * 4) (j % 4) else 0) ∧ Hid (Arr wi g 55 xs) ∧ Hid (Arr wi (g + 2) 55 ys) ∧ Hid (Arr wi (g + 1) 55 z16) ∧ Hid (Below g w wi)) (fun vr _ => 4 - (intOf vr).toNat)
      case atStart => exact ⟨0, zs, rfl, by omega, hl, hf, X, R, Z, HB⟩
      case round =>
        clear X R Z HB hl hf
        obtain ⟨r, ys, rfl, hr, hl, hf, X, R, Z, HB⟩ := hrel
        by_cases h4 : r < 4
        · have hc4 := hca.out
          have hm : c + r < 16 := by omega
          have hp : c + (r + 1) % 4 < 16 := by omega
          have hv : Hid (mixB xs ((c + r) / 4 * 4) ((c + r) % 4) = bx (bx (xs.getD (c + r) 0) (allS xs c)) (dbl (bx (xs.getD (c + r) 0) (xs.getD (c + (r + 1) % 4) 0)))) := Lib.hid (by
            unfold mixB
            rw [show (c + r) / 4 * 4 = c by omega, show (c + r) % 4 = r by omega])
          have hf' : ∀ v, Hid (mixB xs ((c + r) / 4 * 4) ((c + r) % 4) = v) → Hid (∀ j, j < 16 → (ys.set (c + r) v).getD j 0 = if j < c + (r + 1) then mixB xs (j / 4 * 4) (j % 4) else 0) := fun v hv => Lib.hid (fun j hj => by
            rw [get_set _ _ _ _ (by rw [hl.out]; exact hj)]
            by_cases e : j = c + r
            · subst e; rw [if_pos rfl, if_pos (by omega), hv.out]
            · rw [if_neg e, hf.out j hj]
              by_cases e2 : j < c + r
              · rw [if_pos e2, if_pos (by omega)]
              · rw [if_neg e2, if_neg (by omega)])
          replace hf' := Lib.hid (hf' _ hv)
          have cm := X.out.cell (c + r) (by rw [hx]; exact hm)
          have cp := X.out.cell (c + (r + 1) % 4) (by rw [hx]; exact hp)
          have bm := byt_get hb (c + r)
          have bp := byt_get hb (c + (r + 1) % 4)
          have cz := R.out.cell (c + r) (by rw [hl.out]; exact hm)
          have fz := R.out.free (c + r)
          have m1 : IntKind.i64.wrap ((c : Int) + (r : Int)) = ((c + r : Nat) : Int) := IntWalk.i64_in _ (by omega)
          have m2 : IntKind.i64.wrap ((r : Int) + 1) = ((r + 1 : Nat) : Int) := IntWalk.i64_in _ (by omega)
          have m3 : ((r + 1 : Nat) : Int).tmod 4 = (((r + 1) % 4 : Nat) : Int) := by rw [tmod_pos _ _ (by omega)]; omega
          have m4 : IntKind.i64.wrap ((c : Int) + (((r + 1) % 4 : Nat) : Int)) = ((c + (r + 1) % 4 : Nat) : Int) := IntWalk.i64_in _ (by omega)
          clear hf hv hc4
          generalize xs.getD (c + r) 0 = x at cm bm hf'
          generalize xs.getD (c + (r + 1) % 4) 0 = y at cp bp hf'
          generalize c + (r + 1) % 4 = p at cp m4 hp
          generalize (r + 1) % 4 = q at m3 m4
          generalize hr1 : r + 1 = r1 at m2 m3
          generalize hmm : c + r = m at cm cz fz m1 hm hf'
          replace hr1 := Lib.hid hr1
          replace hmm := Lib.hid hmm
          have j1 : (m : Int) < 16 := by omega
          have j2 : (0 : Int) ≤ (m : Int) := by omega
          have j3 : (p : Int) < 16 := by omega
          have j4 : (0 : Int) ≤ (p : Int) := by omega
          have j5 : (0 : Int) ≤ (c : Int) := by omega
          have bxy := bx_byte bm bp
          have e1 : bits .xor .u8 x y = bx x y := k_xor_u8 _ _ bm bp
          have e2 : bits .xor .u8 x (allS xs c) = bx x (allS xs c) := k_xor_u8 _ _ bm hAb
          have bxa := bx_byte bm hAb
          have e3 := k_xor_u8 (bx x (allS xs c)) (dbl (bx x y)) bxa dbl_byte
          have bv := bx_byte bxa (dbl_byte (x := bx x y))
          clear hp hm bm bp
          have j6 : (r : Int) < 4 := by omega
          generalize hvv : bx (bx x (allS xs c)) (dbl (bx x y)) = v at e3 bv hf'
          clear hvv
          have R2 := Lib.hid ((R.out.set m v).drew)
          have X2 := Lib.hid ((X.out.far (p := ⟨g + 2, m, none⟩) (by simp) (.int .u8 v)).drew)
          have Z2 := Lib.hid ((Z.out.far (p := ⟨g + 2, m, none⟩) (by simp) (.int .u8 v)).drew)
          have B2 := Lib.hid (below_drew (below_set HB.out (p := ⟨g + 2, m, none⟩) (by simp) (.int .u8 v)))
          have l2 : Hid ((ys.set m v).length = 16) := Lib.hid (by rw [List.length_set]; exact hl.out)
          have cc : Hid ((wr.setCell ⟨g + 2, m, none⟩ (.int .u8 v)).drew.cell? ⟨g, m, none⟩ = some (.int .u8 x) ∧ (wr.setCell ⟨g + 2, m, none⟩ (.int .u8 v)).drew.cell? ⟨g, p, none⟩ = some (.int .u8 y)) := Lib.hid ⟨(World.cell?_setCell_far _ _ _ _ (by simp)).trans cm, (World.cell?_setCell_far _ _ _ _ (by simp)).trans cp⟩
          go_wp2
          go_region_held3 (fun w' => w'.cell? ⟨g, m, none⟩ = some (.int .u8 x) ∧ w'.cell? ⟨g, p, none⟩ = some (.int .u8 y))
            (first | exact cc.out | go_keep)
            (first
              | (go_at_call 29
                 refine (aes_double _ _ bxy).mono ?_
                 rintro e w' ⟨rfl, rfl⟩))
          clear R X Z HB hl cz fz cc cm cp e1 e2 e3 m1 m2 m3 m4
          generalize (wr.setCell ⟨g + 2, m, none⟩ (.int .u8 v)).drew = w2 at R2 X2 Z2 B2 ⊢
          go_wp2
          refine ⟨⟨r + 1, _, by go_num, by omega, l2, hf'.out, X2, R2, Z2, B2⟩, by simp [intOf]; omega⟩
        · obtain rfl : r = 4 := by omega
          have hc4 := hca.out
          go_wp2
          refine ⟨⟨a + 1, c + 4, ys, by omega, by go_num, by omega, hl, hf, X, R, Z, HB⟩, by simp [intOf]; omega⟩
    · obtain rfl : c = 16 := by omega
      obtain rfl : zs = mixS xs := eq_map16 _ _ hl.out fun j hj => by rw [hf.out j hj, if_pos hj]
      clear X
      have hi := Lib.hid (blk_info (mixS xs) (by rw [hl.out]))
      have ho : (cellsB z16).size = (cellsB (mixS xs)).size := by rw [cellsB_size, cellsB_size, hl.out]; rfl
      have Q := Lib.hid (Z.out.setRow (mixS xs)).blk
      have OB := Lib.hid R.out.blk
      have RB := Lib.hid Z.out.blk
      replace ho := Lib.hid ho
      have HC := Lib.hid (below_setRow HB.out (g := g+1) (by omega) (cellsB (mixS xs)))
      clear R Z HB hf hl
      go_wp2_with (first | (refine wpList_load_row rfl 55 _ rfl (g+2) rfl 55 (cellsB (mixS xs)) (0, 0) _ OB.out Try.underlying55 rfl hi.out ?_) | (refine wpList_store_row rfl 55 _ _ rfl (g+1) (cellsB (mixS xs)) rfl rfl 55 (cellsB z16) RB.out hi.out ho.out (cellsB_one _) ?_))
      refine ret_cell1 rfl rfl Q.out Try.underlying55 rfl hi.out ?_
      exact ⟨rfl, hg ▸ HC.out⟩
end Go.Proofs.Ytgkphopdmkfcgaa

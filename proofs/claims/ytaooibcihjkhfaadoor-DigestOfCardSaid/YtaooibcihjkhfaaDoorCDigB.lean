/- The contract of the words of a block. Conditions: those that each lemma states. -/
import Derived.Test.YtaooibcihjkhfaaDoorCDig
namespace Go.Proofs.YtaooibcihjkhfaaDoor
set_option linter.unusedSimpArgs false
set_option linter.unusedVariables false
open Go.RowKit Go.Proofs.YtaooibcihjkhfaaDoorW.PrintWords

theorem x32 {a b : Int} (ha : W32 a) (hb : W32 b) : bits .xor .u32 a b = bx a b := u32_xor a b ha.1 (by have := ha.2; omega) hb.1 (by have := hb.2; omega)
theorem word_go {x16 x15 x7 x2 : Int} (h15 : W32 x15) (h2 : W32 x2) :
    (((x16 + bits .xor .u32 (bits .xor .u32 (rot x15 7) (rot x15 18)) (x15 / 8)) % 4294967296 + x7) % 4294967296 + bits .xor .u32 (bits .xor .u32 (rot x2 17) (rot x2 19)) (x2 / 1024)) % 4294967296 = m32 (x16 + sg0 x15 + x7 + sg1 x2) := by
  have a1 := rot_w h15 7 (by omega)
  have a2 := rot_w h15 18 (by omega)
  have b1 := rot_w h2 17 (by omega)
  have b2 := rot_w h2 19 (by omega)
  rw [x32 a1 a2, x32 (bx_w a1 a2) (shr_w h15 8 (by omega)), x32 b1 b2, x32 (bx_w b1 b2) (shr_w h2 1024 (by omega))]
  show ((((x16 + sg0 x15) % 4294967296 + x7) % 4294967296 + sg1 x2)) % 4294967296 = _
  unfold m32
  omega
/-- A turn's contract. -/
abbrev RightAt (x n r : Int) : Prop := ∀ w, Calls Tryd.prog 28 #[.int .u32 x, .int .i64 n] w fun e w' => e = .returned (.int .u32 r) ∧ w = w'
def zl64 : List Int := List.replicate 64 0
/-- 64 times 0, in memory. -/
def zs64 : Array Value := cellsW zl64
theorem zs64_ne : zs64 ≠ #[] := by decide +kernel
theorem zero64 (W : World) : (zeroValue 51).run Tryd.prog W = .ok (.agg zs64) W := by
  have h : (Tryd.prog.info? 51).map (·.zero) = some (some (.agg zs64)) := by kernel_rfl
  obtain ⟨i, hi, hz⟩ := Option.map_eq_some_iff.1 h
  simp [zeroValue, typeInfo, Sem.run_bind, hi, hz]
/-- The array while words are laid. -/
def arrW (b : List Int) (i : Nat) : List Int := wordsL b i ++ List.replicate (64 - i) 0
theorem arrW_len (b : List Int) {i : Nat} (h : i ≤ 64) : (arrW b i).length = 64 := by unfold arrW; rw [List.length_append, wordsL_len, List.length_replicate]; omega
theorem arrW_get (b : List Int) {i j : Nat} (h : j < i) : (arrW b i).getD j 0 = (wordsL b i).getD j 0 := by
  unfold arrW
  rw [List.getD_eq_getElem?_getD, List.getElem?_append_left (by rw [wordsL_len]; exact h), List.getD_eq_getElem?_getD]
theorem arrW_zero (b : List Int) {i : Nat} (_h : i < 64) : (arrW b i).getD i 0 = 0 := by
  unfold arrW
  rw [List.getD_eq_getElem?_getD, List.getElem?_append_right (by rw [wordsL_len]; exact Nat.le_refl _), wordsL_len, Nat.sub_self]
  rcases hr : 64 - i with _ | k
  · simp
  · simp [List.replicate_succ]
theorem arrW_set (b : List Int) {i : Nat} (h : i < 64) : (arrW b i).set i (nextW b (wordsL b i) i) = arrW b (i + 1) := by
  unfold arrW
  rw [List.set_append_right _ _ (by rw [wordsL_len]; exact Nat.le_refl _), wordsL_len, Nat.sub_self, wordsL, List.append_assoc, show 64 - i = (64 - (i + 1)) + 1 by omega, List.replicate_succ]
  rfl
theorem set_self (l : List Int) (i : Nat) (h : i < l.length) : l.set i (l.getD i 0) = l := by
  rw [List.getD_eq_getElem?_getD, List.getElem?_eq_getElem h]
  exact List.set_getElem_self h
theorem getD_set_at (l : List Int) (i : Nat) (v : Int) (h : i < l.length) : (l.set i v).getD i 0 = v := by
  simp [List.getD_eq_getElem?_getD, h]
theorem take_drop_get (b : List Int) (p n j : Nat) (h : j < n) : ((b.drop p).take n).getD j 0 = b.getD (p + j) 0 := by
  simp [List.getD_eq_getElem?_getD, h]
/-- So many bytes of a word. -/
def accW (b : List Int) (i : Nat) : Nat → Int
  | 0 => 0
  | j + 1 => accW b i j * 256 + b.getD (4 * i + j) 0
theorem accW_bd {b : List Int} (h : Byt b) (i : Nat) : 0 ≤ accW b i 0 ∧ accW b i 0 < 1 ∧ 0 ≤ accW b i 1 ∧ accW b i 1 < 256 ∧ 0 ≤ accW b i 2 ∧ accW b i 2 < 65536 ∧ 0 ≤ accW b i 3 ∧ accW b i 3 < 16777216 ∧ 0 ≤ accW b i 4 ∧ accW b i 4 < 4294967296 := by
  have h0 := byt_get h (4 * i + 0)
  have h1 := byt_get h (4 * i + 1)
  have h2 := byt_get h (4 * i + 2)
  have h3 := byt_get h (4 * i + 3)
  simp only [accW]
  omega
theorem accW_lt {b : List Int} (h : Byt b) (i j : Nat) (hj : j < 4) : 0 ≤ accW b i j ∧ accW b i j < 16777216 := by
  have := accW_bd h i
  rcases (by omega : j = 0 ∨ j = 1 ∨ j = 2 ∨ j = 3) with rfl | rfl | rfl | rfl <;> omega
theorem accW_four (b l : List Int) (i : Nat) (hi : i < 16) : accW b i 4 = nextW b l i := by
  unfold nextW
  rw [if_pos hi]
  simp only [accW, Nat.add_zero]
  omega
theorem accW_step {b : List Int} (h : Byt b) (i j : Nat) (hj : j < 4) : bits .or .u32 (IntKind.u32.wrap (accW b i j * 256)) (b.getD (4 * i + j) 0) = accW b i (j + 1) := by
  have h1 := accW_lt h i j hj
  have h2 := byt_get h (4 * i + j)
  rw [accW]
  generalize accW b i j = p at h1 ⊢
  generalize b.getD (4 * i + j) 0 = q at h2 ⊢
  obtain ⟨a, rfl⟩ := Int.eq_ofNat_of_zero_le h1.1
  obtain ⟨x, rfl⟩ := Int.eq_ofNat_of_zero_le h2.1
  rw [IntKind.wrap_u32', show (a : Int) * 256 % 4294967296 = ((a * 256 : Nat) : Int) by omega, u32_or_join (a * 256) x 8 (by omega) (by omega) (by omega) (by omega)]
  simp

set_option maxHeartbeats 2000000 in
set_option maxRecDepth 100000 in
theorem dig_words (A : Option Addr) (c : Nat) (b : List Int) (w : World) (h : Bts w A 64 c b) :
    Calls Tryd.prog 25 #[.slice A 64 c] w fun e w' => e = .returned (.agg (cellsW (wordsS b))) ∧ Below w.heap.size w w' := by
  have z := zero64
  have R := Lib.hid ((Arw.at_ w w.heap.size 51 zl64 rfl).alloc (.cells zs64 51))
  have O := Lib.hid (Arw.at_ (w.alloc (.cells zs64 51)) (w.heap.size + 1) 51 zl64 (by simp))
  have HB := Lib.hid (below_alloc (below_alloc (Below.refl w.heap.size w) (.cells zs64 51)) (.cells zs64 51))
  have HI := Lib.hid (h.below HB.out)
  have hne := zs64_ne
  have hb := Lib.hid h.byt
  have hle := h.le
  obtain ⟨ad, e0, hq0⟩ := h.some_ (by omega)
  subst e0
  have hag : ad.block < w.heap.size := by
    have q := hq0 0 (by omega)
    rw [Addr.add_zero'] at q
    exact World.block_lt_of_cell? w _ q
  replace hag := Lib.hid hag
  clear h hq0
  go_enter Tryd.func25, Tryd.ntmps25
  go_wp2
  clear hne z
  generalize hg : w.heap.size = g at R O hag
  go_loopw [9] (fun vi wr => ∃ (i : Nat), vi = .int .i64 (i : Int) ∧ i ≤ 64 ∧ Hid (Arw wr (g + 1) 51 (arrW b i)) ∧ Hid (Arw wr g 51 zl64) ∧ Hid (Below g w wr) ∧ Hid (Bts wr (some ad) 64 c b)) (fun vi _ => (64 - intOf vi).toNat)
  case atStart => exact ⟨0, rfl, by omega, O, R, hg ▸ HB, HI⟩
  case round =>
    clear O R HB HI
    obtain ⟨i, rfl, hi, O, R, HB, HI⟩ := hrel
    by_cases h0 : i < 64
    · have i0 : (i : Int) < 64 := by omega
      by_cases h1 : i < 16
      · have i1 : (i : Int) < 16 := by omega
        obtain ⟨p, hp⟩ : ∃ p, 4 * i = p := ⟨_, rfl⟩
        obtain ⟨q, hq⟩ : ∃ q, p + 4 = q := ⟨_, rfl⟩
        have e1 : IntKind.i64.wrap (4 * (i : Int)) = (p : Int) := by rw [← hp]; exact IntWalk.i64_in _ (by omega)
        have e2 : IntKind.i64.wrap ((p : Int) + 4) = (q : Int) := by rw [← hq]; exact IntWalk.i64_in _ (by omega)
        have j1 : (p : Int) ≤ (q : Int) := by omega
        have j2 : (q : Int) ≤ (c : Int) := by omega
        have j3 : q - p = 4 := by omega
        replace hp := Lib.hid hp
        replace hq := Lib.hid hq
        have z0 : Hid ((arrW b i).set i (accW b i 0) = arrW b i) := Lib.hid (by
          have := set_self (arrW b i) i (by rw [arrW_len b hi]; exact h0)
          rwa [arrW_zero b h0] at this)
        go_wp2
        go_loopw [22] (fun vj wr => ∃ (j : Nat), vj = .int .i64 (j : Int) ∧ j ≤ 4 ∧ Hid (Arw wr (g + 1) 51 ((arrW b i).set i (accW b i j))) ∧ Hid (Arw wr g 51 zl64) ∧ Hid (Below g w wr) ∧ Hid (Bts wr (some ad) 64 c b)) (fun vi _ => (4 - intOf vi).toNat)
        case atStart => exact ⟨0, rfl, by omega, by rw [z0.out]; exact O, R, HB, HI⟩
        case round =>
          clear O R HB HI z0
          obtain ⟨j, rfl, hj, O, R, HB, HI⟩ := hrel
          by_cases k0 : j < 4
          · have k1 : (j : Int) < 4 := by omega
            have hp64 : p + 4 ≤ 64 := by have := hp.out; omega
            have T := (HI.out.drop_some p (by omega) (by omega)).take 4 (by omega)
            obtain ⟨ad', e', hc⟩ := T.at_ j k0
            injection e' with e'
            subst e'
            rw [take_drop_get _ _ _ _ k0] at hc
            have xb := byt_get hb.out (p + j)
            have cO := O.out.cell i (by rw [List.length_set, arrW_len b hi]; exact h0)
            rw [getD_set_at _ _ _ (by rw [arrW_len b hi]; exact h0)] at cO
            have fO := O.out.free i
            have hacc := Lib.hid (accW_step hb.out i j k0)
            rw [hp.out, IntKind.wrap_u32'] at hacc
            generalize b.getD (p + j) 0 = x at hc xb hacc
            have xw : IntKind.u32.wrap x = x := by rw [IntKind.wrap_u32']; omega
            clear T xb
            go_wp2
            rw [hacc.out]
            have O' := O.out.set i (accW b i (j + 1))
            rw [List.set_set] at O'
            refine ⟨⟨j + 1, by go_num, by omega, Lib.hid O', Lib.hid (R.out.far (by simp) _), Lib.hid (below_set HB.out (by simp) _), Lib.hid (HI.out.far (fun ad' e' => ?_) _)⟩, by simp [intOf]; omega⟩
            injection e' with e'
            subst e'
            have := hag.out
            show ad.block ≠ g + 1
            omega
          · obtain rfl : j = 4 := by omega
            have O' : Hid (Arw wr (g + 1) 51 (arrW b (i + 1))) := Lib.hid (by
              have q := O.out
              rw [accW_four b (wordsL b i) i h1, arrW_set b h0] at q
              exact q)
            clear O
            go_wp2
            exact ⟨⟨i + 1, by go_num, by omega, O', R, HB, HI⟩, by simp [intOf]; omega⟩
      · have i1 : ¬ (i : Int) < 16 := by omega
        have ii : decide ((i : Int) < 16) = false := decide_eq_false i1
        obtain ⟨p16, q16⟩ : ∃ p, i = p + 16 := ⟨i - 16, by omega⟩
        obtain ⟨p15, q15⟩ : ∃ p, i = p + 15 := ⟨i - 15, by omega⟩
        obtain ⟨p7, q7⟩ : ∃ p, i = p + 7 := ⟨i - 7, by omega⟩
        obtain ⟨p2, q2⟩ : ∃ p, i = p + 2 := ⟨i - 2, by omega⟩
        have e16 : IntKind.i64.wrap ((i : Int) - 16) = (p16 : Int) := by rw [show (i : Int) - 16 = (p16 : Int) by omega]; exact IntWalk.i64_in _ (by omega)
        have e15 : IntKind.i64.wrap ((i : Int) - 15) = (p15 : Int) := by rw [show (i : Int) - 15 = (p15 : Int) by omega]; exact IntWalk.i64_in _ (by omega)
        have e7 : IntKind.i64.wrap ((i : Int) - 7) = (p7 : Int) := by rw [show (i : Int) - 7 = (p7 : Int) by omega]; exact IntWalk.i64_in _ (by omega)
        have e2 : IntKind.i64.wrap ((i : Int) - 2) = (p2 : Int) := by rw [show (i : Int) - 2 = (p2 : Int) by omega]; exact IntWalk.i64_in _ (by omega)
        have l16 : (p16 : Int) < 64 := by omega
        have l15 : (p15 : Int) < 64 := by omega
        have l7 : (p7 : Int) < 64 := by omega
        have l2 : (p2 : Int) < 64 := by omega
        have hlen := arrW_len b hi
        have c16 := O.out.cell p16 (by omega)
        have c15 := O.out.cell p15 (by omega)
        have c7 := O.out.cell p7 (by omega)
        have c2 := O.out.cell p2 (by omega)
        have fO := O.out.free i
        have cI := O.out.cell i (by omega)
        rw [arrW_get b (by omega)] at c16 c15 c7 c2
        have w16 := all32_get (wordsL_w hb.out i) p16
        have w15 := all32_get (wordsL_w hb.out i) p15
        have w7 := all32_get (wordsL_w hb.out i) p7
        have w2 := all32_get (wordsL_w hb.out i) p2
        have hN : Hid (nextW b (wordsL b i) i = m32 ((wordsL b i).getD p16 0 + sg0 ((wordsL b i).getD p15 0) + (wordsL b i).getD p7 0 + sg1 ((wordsL b i).getD p2 0))) := Lib.hid (by
          unfold nextW
          rw [if_neg h1, show i - 16 = p16 by omega, show i - 15 = p15 by omega, show i - 7 = p7 by omega, show i - 2 = p2 by omega])
        generalize (wordsL b i).getD p16 0 = x16 at c16 w16 hN
        generalize (wordsL b i).getD p15 0 = x15 at c15 w15 hN
        generalize (wordsL b i).getD p7 0 = x7 at c7 w7 hN
        generalize (wordsL b i).getD p2 0 = x2 at c2 w2 hN
        have n16 : (⟨g + 1, i, none⟩ : Addr) ≠ ⟨g + 1, p16, none⟩ := fun e => by injection e with _ e _; omega
        have n7 : (⟨g + 1, i, none⟩ : Addr) ≠ ⟨g + 1, p7, none⟩ := fun e => by injection e with _ e _; omega
        clear q16 q15 q7 q2 hlen
        go_wp2
        go_quiet (fail)
        go_wp2
        replace c16 : (wr.drewN nq).drew.cell? ⟨g + 1, p16, none⟩ = some (.int .u32 x16) := c16
        replace cI : (wr.drewN nq).drew.cell? ⟨g + 1, i, none⟩ = some (.int .u32 ((arrW b i).getD i 0)) := cI
        replace c7 : (wr.drewN nq).drew.cell? ⟨g + 1, p7, none⟩ = some (.int .u32 x7) := c7
        replace O := Lib.hid (O.out.drewN nq).drew
        replace R := Lib.hid (R.out.drewN nq).drew
        replace HB := Lib.hid (below_drew (pw_below_drewN HB.out nq))
        replace HI := Lib.hid (HI.out.drewN nq).drew
        replace fO : (wr.drewN nq).drew.frozen? ⟨g + 1, i, none⟩ = false := fO
        clear c15 c2
        generalize wr.drewN nq = wq at cI c16 c7 O R HB HI fO ⊢
        have N1 : RightAt x15 7 (rot x15 7) := fun w => dig_right x15 7 w w15 (by decide)
        have N2 : RightAt x15 18 (rot x15 18) := fun w => dig_right x15 18 w w15 (by decide)
        have N3 : RightAt x2 17 (rot x2 17) := fun w => dig_right x2 17 w w2 (by decide)
        have N4 : RightAt x2 19 (rot x2 19) := fun w => dig_right x2 19 w w2 (by decide)
        go_region_held3 (fun w' => w'.cell? ⟨g + 1, p16, none⟩ = some (.int .u32 x16) ∧ w'.cell? ⟨g + 1, p7, none⟩ = some (.int .u32 x7))
          ((first | exact ⟨c16, c7⟩ | exact ⟨(World.cell?_setCell_other _ _ _ _ n16).trans c16, (World.cell?_setCell_other _ _ _ _ n7).trans c7⟩))
          (first
            | (go_at_call 28
               with_reducible refine (N1 _).mono ?_
               rintro e w' ⟨rfl, rfl⟩)
            | (go_at_call 28
               with_reducible refine (N2 _).mono ?_
               rintro e w' ⟨rfl, rfl⟩)
            | (go_at_call 28
               with_reducible refine (N3 _).mono ?_
               rintro e w' ⟨rfl, rfl⟩)
            | (go_at_call 28
               with_reducible refine (N4 _).mono ?_
               rintro e w' ⟨rfl, rfl⟩))
        go_wp2
        rw [word_go w15 w2, ← hN.out]
        have O' := O.out.set i (nextW b (wordsL b i) i)
        rw [arrW_set b h0] at O'
        have hne : ad.block ≠ g + 1 := by have := hag.out; omega
        exact ⟨⟨i + 1, by go_num, by omega, Lib.hid O', Lib.hid (R.out.far (by simp) _), Lib.hid (below_set HB.out (by simp) _), Lib.hid (HI.out.far (fun ad' e' => by injection e' with e'; subst e'; exact hne) _)⟩, by simp [intOf]; omega⟩
    · obtain rfl : i = 64 := by omega
      have e64 : arrW b 64 = wordsS b := by unfold arrW wordsS; simp
      rw [e64] at O
      have hl : (wordsS b).length = 64 := wordsL_len b 64
      have hi : (Tryd.prog.info? 51).map (·.size) = some (cellsW (wordsS b)).size := by rw [cellsW_size, hl]; kernel_rfl
      have ho : (cellsW zl64).size = (cellsW (wordsS b)).size := by rw [cellsW_size, cellsW_size, hl]; rfl
      have Q := Lib.hid (R.out.setRow (wordsS b)).blk
      have OB := Lib.hid O.out.blk
      have RB := Lib.hid R.out.blk
      replace hi := Lib.hid hi
      replace ho := Lib.hid ho
      have HC := Lib.hid (below_setRow HB.out (g := g) (Nat.le_refl _) (cellsW (wordsS b)))
      clear O R HB HI e64 hl
      go_wp2_with (first | (refine wpList_load_row rfl 51 _ rfl (g + 1) rfl 51 (cellsW (wordsS b)) (0, 0) _ OB.out Tryd.underlying51 rfl hi.out ?_) | (refine wpList_store_row rfl 51 _ _ rfl g (cellsW (wordsS b)) rfl rfl 51 (cellsW zl64) RB.out hi.out ho.out (cellsW_one _) ?_))
      refine ret_cell1 rfl rfl Q.out Tryd.underlying51 rfl hi.out ?_
      exact ⟨rfl, by rw [hg]; exact HC.out⟩
end Go.Proofs.YtaooibcihjkhfaaDoor

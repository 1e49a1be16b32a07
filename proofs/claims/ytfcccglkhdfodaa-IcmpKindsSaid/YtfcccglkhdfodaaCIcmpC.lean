/- What is read out of bytes as a message. Conditions: those that each lemma states. -/
import Derived.Test.YtfcccglkhdfodaaCIcmpB
import Derived.Deep.RegionHeld3
namespace Go.Proofs.Ytfcccglkhdfodaa
open Go.RowKit Go.Proofs.YtfcccglkhdfodaaW.PrintWords

/-- What is said of a Parse: refused, or read. -/
def IcPost (xs s d : List Int) (w : World) (e : Ending) (w' : World) : Prop :=
  Below w.heap.size w w' ∧ ((icErr xs s d ≠ 0 ∧ e = .returned (.tuple #[.agg #[.int .i64 0, .int .i64 0, .int .i64 0, .slice none 0 0], .int .i64 (icErr xs s d)])) ∨
    (icErr xs s d = 0 ∧ ∃ v, e = .returned (.tuple #[.agg #[.int .i64 (xs.getD 0 0), .int .i64 (xs.getD 1 0), .int .i64 (icRest xs), v], .int .i64 0]) ∧ OwnB w' w.heap.size v (xs.drop 8)))
theorem IcPost.err {xs s d : List Int} {w w' : World} {k : Int} (h : icErr xs s d = k) (hk : k ≠ 0) (hB : Below w.heap.size w w') : IcPost xs s d w (.returned (.tuple #[.agg #[.int .i64 0, .int .i64 0, .int .i64 0, .slice none 0 0], .int .i64 k])) w' :=
  ⟨hB, .inl ⟨by rw [h]; exact hk, by rw [h]⟩⟩
theorem IcPost.ok {xs s d : List Int} {w w' : World} {v : Value} {x y r : Int} (h : icErr xs s d = 0) (hx : xs.getD 0 0 = x) (hy : xs.getD 1 0 = y) (hr : icRest xs = r) (ho : OwnB w' w.heap.size v (xs.drop 8)) (hB : Below w.heap.size w w') : IcPost xs s d w (.returned (.tuple #[.agg #[.int .i64 x, .int .i64 y, .int .i64 r, v], .int .i64 0])) w' := by
  subst hx hy hr
  exact ⟨hB, .inr ⟨h, v, rfl, ho⟩⟩
/-- What two readings of the same bytes have alike. -/
theorem IcPost.view {xs s d : List Int} {w : World} {e : Ending} {w' : World} (h : IcPost xs s d w e w') :
    ∃ (x y r : Int) (A : Option Addr) (n c : Nat) (zs : List Int), e = .returned (.tuple #[.agg #[.int .i64 x, .int .i64 y, .int .i64 r, .slice A n c], .int .i64 (icErr xs s d)]) ∧ Bts w' A n c zs ∧ Below w.heap.size w w' ∧
      x = (if icErr xs s d = 0 then xs.getD 0 0 else 0) ∧ y = (if icErr xs s d = 0 then xs.getD 1 0 else 0) ∧ r = (if icErr xs s d = 0 then icRest xs else 0) ∧ zs = (if icErr xs s d = 0 then xs.drop 8 else []) := by
  obtain ⟨hB, ⟨hn, rfl⟩ | ⟨h0, v, rfl, ho⟩⟩ := h
  · exact ⟨0, 0, 0, none, 0, 0, [], rfl, Bts.nil_ none 0 _ (by omega), hB, by rw [if_neg hn], by rw [if_neg hn], by rw [if_neg hn], by rw [if_neg hn]⟩
  · obtain ⟨A, n, c, rfl, hb⟩ := ho.bts
    exact ⟨_, _, _, A, n, c, _, by rw [h0], hb, hB, by rw [if_pos h0], by rw [if_pos h0], by rw [if_pos h0], by rw [if_pos h0]⟩
/-- Two bytes in memory. -/
structure Q2 (w : World) (ad : Addr) (x0 x1 : Int) : Prop where
  a0 : w.cell? ad = some (.int .u8 x0)
  a1 : w.cell? ⟨ad.block, ad.off + 1, none⟩ = some (.int .u8 x1)
section
variable {w w1 : World} {ad : Addr} {x0 x1 : Int}
theorem Q2.cs (h : Q2 w ad x0 x1) : w.cell? ad = some (.int .u8 x0) ∧ w.cell? ⟨ad.block, ad.off + 1, none⟩ = some (.int .u8 x1) := ⟨h.a0, h.a1⟩
theorem Q2.below (h : Q2 w ad x0 x1) (hb : Below w.heap.size w w1) : Q2 w1 ad x0 x1 := by
  have l : ad.block < w.heap.size := World.block_lt_of_cell? w _ h.a0
  exact ⟨(hb.cell l).trans h.a0, (hb.cell (p := ⟨ad.block, ad.off + 1, none⟩) l).trans h.a1⟩
theorem Q2.set (h : Q2 w ad x0 x1) {p : Addr} (hp : ad.block < p.block) (v : Value) : Q2 (w.setCell p v) ad x0 x1 := by
  have e : ∀ q : Addr, q.block = ad.block → (w.setCell p v).cell? q = w.cell? q := fun q hq => World.cell?_of_block (w := w) (Below.heap_setCell w p v q.block (by omega))
  exact ⟨(e ad rfl).trans h.a0, (e ⟨ad.block, ad.off + 1, none⟩ rfl).trans h.a1⟩
end
/-- The number of the first bytes of four. -/
def rk (a b c d : Int) : Nat → Int
  | 0 => 0
  | 1 => a
  | 2 => 256 * a + b
  | 3 => 65536 * a + 256 * b + c
  | _ => 16777216 * a + 65536 * b + 256 * c + d






set_option maxHeartbeats 4000000 in
theorem icmp_Parse (A : Option Addr) (n k : Nat) (xs : List Int) (s d : ByteArray) (w : World) (hs : s.size ≤ 140737488351232) (hd : d.size ≤ 140737488351232) (h0 : Bts w A n k xs) :
    Calls Try.prog 15 #[.slice A n k, .string s, .string d] w (IcPost xs (bytesOf s) (bytesOf d) w) := by
  have hl := h0.len
  have ls := bytesOf_length s
  have ld := bytesOf_length d
  have hlt' : Hid (∀ ad : Addr, A = some ad → 0 < n → ad.block < w.heap.size) := Lib.hid (by
    intro ad e hn
    obtain ⟨ad', e', q⟩ := h0.some_ hn
    rw [e] at e'
    injection e' with e'
    subst e'
    have q0 := q 0 hn
    rw [Addr.add_zero'] at q0
    exact World.block_lt_of_cell? w _ q0)
  have R := Lib.hid (Mg.at w w.heap.size 0 0 0 none 0 0 rfl)
  have HB := Lib.hid (below_alloc (Below.refl w.heap.size w) (.cells #[.int .i64 0, .int .i64 0, .int .i64 0, .slice none 0 0] 24))
  by_cases hp : pairOk s.size d.size
  case neg =>
    have hE := icErr_pair xs (bytesOf s) (bytesOf d) (by rw [ls, ld]; exact hp)
    replace hE := Lib.hid hE
    go_enter Try.func15, Try.ntmps15
    go_wp2_with fail
    refine (icmp_of_no _ _ _ hs hd hp).mono ?_
    rintro e w2 ⟨rfl, rfl⟩
    have c0 := R.out.c0
    have c1 := R.out.c1
    have c2 := R.out.c2
    have c3 := R.out.c3
    have f0 := R.out.f 0
    have f1 := R.out.f 1
    have f2 := R.out.f 2
    have f3 := R.out.f 3
    go_wp2
    refine ret_cell2 rfl rfl R.out.blk Try.underlying24 rfl (by kernel_rfl) ?_
    exact IcPost.err hE.out (by decide) HB.out
  case pos =>
  have hp' : pairOk (bytesOf s).length (bytesOf d).length := by rw [ls, ld]; exact hp
  replace h0 := h0.below HB.out
  by_cases h4 : s.size = 4
  · have hS : Hid (icSum xs (bytesOf s) (bytesOf d) = sumL xs) := Lib.hid (by unfold icSum; rw [if_neg (by omega)])
    go_enter Try.func15, Try.ntmps15
    go_wp2_with fail
    refine (icmp_of_four _ _ _ hs hd hp h4).mono ?_
    rintro e w2 ⟨rfl, hB2⟩
    replace R := Lib.hid (R.out.below hB2)
    replace h0 := h0.below hB2
    replace HB := Lib.hid (below_step2 HB.out hB2)
    clear hB2
    have c0 := R.out.c0
    have c1 := R.out.c1
    have c2 := R.out.c2
    have c3 := R.out.c3
    have f0 := R.out.f 0
    have f1 := R.out.f 1
    have f2 := R.out.f 2
    have f3 := R.out.f 3
    by_cases h8 : n < 8
    · have d8 : decide ((n : Int) < 8) = true := decide_eq_true (by omega)
      have hE := Lib.hid (icErr_short xs (bytesOf s) (bytesOf d) hp' (by omega))
      go_wp2
      have q := blk_set (blk_set (blk_set (blk_set R.out.blk 0 (.int .i64 0)) 1 (.int .i64 0)) 2 (.int .i64 0)) 3 (.slice none 0 0)
      refine ret_cell2 rfl rfl q Try.underlying24 rfl (by kernel_rfl) (IcPost.err hE.out (by decide) ?_)
      exact below_set (below_set (below_set (below_set HB.out (p := ⟨w.heap.size, 0, none⟩) (Nat.le_refl _) _) (p := ⟨w.heap.size, 1, none⟩) (Nat.le_refl _) _) (p := ⟨w.heap.size, 2, none⟩) (Nat.le_refl _) _) (p := ⟨w.heap.size, 3, none⟩) (Nat.le_refl _) _
    have d8 : decide ((n : Int) < 8) = false := decide_eq_false (by omega)
    by_cases h9 : 65535 < n
    · have d9 : decide ((65535 : Int) < (n : Int)) = true := decide_eq_true (by omega)
      have hE := Lib.hid (icErr_long xs (bytesOf s) (bytesOf d) hp' (by omega) (by omega))
      go_wp2
      have q := blk_set (blk_set (blk_set (blk_set R.out.blk 0 (.int .i64 0)) 1 (.int .i64 0)) 2 (.int .i64 0)) 3 (.slice none 0 0)
      refine ret_cell2 rfl rfl q Try.underlying24 rfl (by kernel_rfl) (IcPost.err hE.out (by decide) ?_)
      exact below_set (below_set (below_set (below_set HB.out (p := ⟨w.heap.size, 0, none⟩) (Nat.le_refl _) _) (p := ⟨w.heap.size, 1, none⟩) (Nat.le_refl _) _) (p := ⟨w.heap.size, 2, none⟩) (Nat.le_refl _) _) (p := ⟨w.heap.size, 3, none⟩) (Nat.le_refl _) _
    have d9 : decide ((65535 : Int) < (n : Int)) = false := decide_eq_false (by omega)
    clear c0 c1 c2 c3 f0 f1 f2 f3
    go_wp2_with fail
    refine (icmp_narrow_sum _ _ _ _ _ h0).mono ?_
    rintro e w3 ⟨rfl, hB3⟩
    replace R := Lib.hid (R.out.below hB3)
    replace h0 := h0.below hB3
    replace HB := Lib.hid (below_step2 HB.out hB3)
    clear hB3
    have c0 := R.out.c0
    have c1 := R.out.c1
    have c2 := R.out.c2
    have c3 := R.out.c3
    have f0 := R.out.f 0
    have f1 := R.out.f 1
    have f2 := R.out.f 2
    have f3 := R.out.f 3
    rw [← hS.out]
    by_cases h10 : icSum xs (bytesOf s) (bytesOf d) = 65535
    case neg =>
      have d10 : (icSum xs (bytesOf s) (bytesOf d) != 65535) = true := bne_iff_ne.mpr h10
      have hE := Lib.hid (icErr_sum xs (bytesOf s) (bytesOf d) hp' (by omega) (by omega) h10)
      generalize icSum xs (bytesOf s) (bytesOf d) = Q at d10
      clear h10 hS
      go_wp2
      have q := blk_set (blk_set (blk_set (blk_set R.out.blk 0 (.int .i64 0)) 1 (.int .i64 0)) 2 (.int .i64 0)) 3 (.slice none 0 0)
      refine ret_cell2 rfl rfl q Try.underlying24 rfl (by kernel_rfl) (IcPost.err hE.out (by decide) ?_)
      exact below_set (below_set (below_set (below_set HB.out (p := ⟨w.heap.size, 0, none⟩) (Nat.le_refl _) _) (p := ⟨w.heap.size, 1, none⟩) (Nat.le_refl _) _) (p := ⟨w.heap.size, 2, none⟩) (Nat.le_refl _) _) (p := ⟨w.heap.size, 3, none⟩) (Nat.le_refl _) _
    case pos =>
    have hE := Lib.hid (icErr_ok xs (bytesOf s) (bytesOf d) hp' (by omega) (by omega) h10)
    rw [h10]
    clear h10 hS c0 c1 c2 c3 f0 f1 f2 f3
    have A1 : A.isSome = true := by obtain ⟨_, e, _⟩ := h0.some_ (by omega); rw [e]; rfl
    obtain ⟨ad, rfl⟩ := Option.isSome_iff_exists.1 A1
    clear A1
    have i8 : (8 : Int) ≤ (n : Int) := by omega
    have i7 := h0.le
    have i9 : (8 : Int) ≤ (k : Int) := by omega
    have i6 : (4 : Int) ≤ (n : Int) := by omega
    have i5 : (4 : Int) ≤ (k : Int) := by omega
    obtain ⟨ad', e', a0, aa⟩ := h0.lit (by omega)
    injection e' with e'
    subst e'
    have a1 := Lib.hid (aa 1 (by omega) (by omega))
    have a4 := aa 4 (by omega) (by omega)
    have a5 : w3.cell? { block := ad.block, off := ad.off + 4 + 1 } = some (.int .u8 (xs.getD 5 0)) := aa 5 (by omega) (by omega)
    have a6 : w3.cell? { block := ad.block, off := ad.off + 4 + 2 } = some (.int .u8 (xs.getD 6 0)) := aa 6 (by omega) (by omega)
    have a7 : w3.cell? { block := ad.block, off := ad.off + 4 + 3 } = some (.int .u8 (xs.getD 7 0)) := aa 7 (by omega) (by omega)
    have b4 := byt_get h0.byt 4
    have b5 := byt_get h0.byt 5
    have b6 := byt_get h0.byt 6
    have b7 := byt_get h0.byt 7
    have hR : Hid (icRest xs = rk (xs.getD 4 0) (xs.getD 5 0) (xs.getD 6 0) (xs.getD 7 0) 4) := rfl
    generalize xs.getD 4 0 = x4 at a4 b4 hR
    generalize xs.getD 5 0 = x5 at a5 b5 hR
    generalize xs.getD 6 0 = x6 at a6 b6 hR
    generalize xs.getD 7 0 = x7 at a7 b7 hR
    have H := Lib.hid h0
    replace a0 := Lib.hid a0
    clear h0 aa
    go_wp2
    go_loop [10, 43] (fun vr vj => ∃ j : Nat, j ≤ 4 ∧ vj = .int .i64 (j : Int) ∧ vr = .int .i64 (rk x4 x5 x6 x7 j)) (fun _ vj => 4 - (intOf vj).toNat)
    case atStart => exact ⟨0, by omega, rfl, rfl⟩
    case round =>
      obtain ⟨j, hj, rfl, rfl⟩ := hrel
      by_cases h4' : j = 4
      · subst h4'
        clear a4 a5 a6 a7
        rw [← hR.out]
        clear b4 b5 b6 b7 hR
        generalize hrr : icRest xs = rr
        replace hrr := Lib.hid hrr
        have a0' := a0.out
        have a1' := a1.out
        have bb0 := byt_get H.out.byt 0
        have bb1 := byt_get H.out.byt 1
        generalize hx0 : xs.getD 0 0 = x0 at a0' bb0
        generalize hx1 : xs.getD 1 0 = x1 at a1' bb1
        replace hx0 := Lib.hid hx0
        replace hx1 := Lib.hid hx1
        have hlt : ad.block < w.heap.size := hlt'.out ad rfl (by omega)
        have HD := Lib.hid (H.out.below (below_drew (Below.refl _ _)))
        have RD := Lib.hid (R.out.below (below_drew (Below.refl _ _)))
        have BD := Lib.hid (below_drew HB.out)
        have ZD := Lib.hid ((⟨a0', a1'⟩ : Q2 w3 ad x0 x1).below (below_drew (Below.refl _ _)))
        have j0 : (0 : Int) < (n : Int) := by omega
        have j4 : 0 < n := by omega
        have j1 : (1 : Int) < (n : Int) := by omega
        have e0 : IntKind.i64.wrap x0 = x0 := IntWalk.i64_in _ (by omega)
        have e1 : IntKind.i64.wrap x1 = x1 := IntWalk.i64_in _ (by omega)
        clear a0 a1 a0' a1' H R HB
        go_wp2
        by_cases hk8 : k = 8
        · go_region_held3 (fun w' => w'.cell? ad = some (.int .u8 x0) ∧ w'.cell? ⟨ad.block, ad.off + 1, none⟩ = some (.int .u8 x1))
            ((refine Q2.cs ?_; first
              | exact ((((Z3.out.set (p := ⟨w.heap.size, 0, none⟩) hlt _).set (p := ⟨w.heap.size, 1, none⟩) hlt _).set (p := ⟨w.heap.size, 2, none⟩) hlt _).set (p := ⟨w.heap.size, 3, none⟩) hlt _)
              | exact Z3.out
              | exact ZD.out))
            (first
              | (go_at_call 28
                 refine (slices_Clone _ _ _ (xs.drop 8) _ (by have q := HD.out.drop_lit 8 (by omega) (by omega); rwa [if_pos hk8, show k - 8 = 0 by omega] at q)).mono ?_
                 rintro e w7 ⟨v7, rfl, o7, hB7⟩
                 have Z3 := Lib.hid (ZD.out.below hB7)
                 have R3 := Lib.hid (RD.out.below hB7)
                 obtain ⟨A7, n7, c7, rfl, _⟩ := o7.bts
                 have b7 := blk_lt RD.out.blk
                 have b8 := BD.out.size
                 replace o7 := Lib.hid o7
                 have c0 := R3.out.c0
                 have c1 := R3.out.c1
                 have c2 := R3.out.c2
                 have c3 := R3.out.c3
                 have f0 := R3.out.f 0
                 have f1 := R3.out.f 1
                 have f2 := R3.out.f 2
                 have f3 := R3.out.f 3
                 have B3 := Lib.hid (below_step2 BD.out hB7)
                 clear hB7))
          go_wp2
          have q := blk_set (blk_set (blk_set (blk_set R3.out.blk 0 (.int .i64 x0)) 1 (.int .i64 x1)) 2 (.int .i64 rr)) 3 (.slice A7 n7 c7)
          refine ret_cell2 rfl rfl q Try.underlying24 rfl (by kernel_rfl) (IcPost.ok hE.out hx0.out hx1.out hrr.out ?_ ?_)
          · exact ((((o7.out.far (p := ⟨w.heap.size, 0, none⟩) b7 _).far (p := ⟨w.heap.size, 1, none⟩) b7 _).far (p := ⟨w.heap.size, 2, none⟩) b7 _).far (p := ⟨w.heap.size, 3, none⟩) b7 _).lower b8
          · exact below_set (below_set (below_set (below_set B3.out (p := ⟨w.heap.size, 0, none⟩) (Nat.le_refl _) _) (p := ⟨w.heap.size, 1, none⟩) (Nat.le_refl _) _) (p := ⟨w.heap.size, 2, none⟩) (Nat.le_refl _) _) (p := ⟨w.heap.size, 3, none⟩) (Nat.le_refl _) _
        · go_region_held3 (fun w' => w'.cell? ad = some (.int .u8 x0) ∧ w'.cell? ⟨ad.block, ad.off + 1, none⟩ = some (.int .u8 x1))
            ((refine Q2.cs ?_; first
              | exact ((((Z3.out.set (p := ⟨w.heap.size, 0, none⟩) hlt _).set (p := ⟨w.heap.size, 1, none⟩) hlt _).set (p := ⟨w.heap.size, 2, none⟩) hlt _).set (p := ⟨w.heap.size, 3, none⟩) hlt _)
              | exact Z3.out
              | exact ZD.out))
            (first
              | (go_at_call 28
                 refine (slices_Clone _ _ _ (xs.drop 8) _ (by have q := HD.out.drop_lit 8 (by omega) (by omega); rwa [if_neg hk8] at q)).mono ?_
                 rintro e w7 ⟨v7, rfl, o7, hB7⟩
                 have Z3 := Lib.hid (ZD.out.below hB7)
                 have R3 := Lib.hid (RD.out.below hB7)
                 obtain ⟨A7, n7, c7, rfl, _⟩ := o7.bts
                 have b7 := blk_lt RD.out.blk
                 have b8 := BD.out.size
                 replace o7 := Lib.hid o7
                 have c0 := R3.out.c0
                 have c1 := R3.out.c1
                 have c2 := R3.out.c2
                 have c3 := R3.out.c3
                 have f0 := R3.out.f 0
                 have f1 := R3.out.f 1
                 have f2 := R3.out.f 2
                 have f3 := R3.out.f 3
                 have B3 := Lib.hid (below_step2 BD.out hB7)
                 clear hB7))
          go_wp2
          have q := blk_set (blk_set (blk_set (blk_set R3.out.blk 0 (.int .i64 x0)) 1 (.int .i64 x1)) 2 (.int .i64 rr)) 3 (.slice A7 n7 c7)
          refine ret_cell2 rfl rfl q Try.underlying24 rfl (by kernel_rfl) (IcPost.ok hE.out hx0.out hx1.out hrr.out ?_ ?_)
          · exact ((((o7.out.far (p := ⟨w.heap.size, 0, none⟩) b7 _).far (p := ⟨w.heap.size, 1, none⟩) b7 _).far (p := ⟨w.heap.size, 2, none⟩) b7 _).far (p := ⟨w.heap.size, 3, none⟩) b7 _).lower b8
          · exact below_set (below_set (below_set (below_set B3.out (p := ⟨w.heap.size, 0, none⟩) (Nat.le_refl _) _) (p := ⟨w.heap.size, 1, none⟩) (Nat.le_refl _) _) (p := ⟨w.heap.size, 2, none⟩) (Nat.le_refl _) _) (p := ⟨w.heap.size, 3, none⟩) (Nat.le_refl _) _
      · obtain rfl | rfl | rfl | rfl : j = 0 ∨ j = 1 ∨ j = 2 ∨ j = 3 := by omega
        · simp only [rk]
          have hj8 := Lib.hid (k_or_shift 0 x4 (by omega) (by omega) (by omega))
          go_wp2
          refine ⟨⟨1, by omega, rfl, val_int ?_⟩, by simp [intOf]⟩
          refine Eq.trans hj8.out ?_
          show _ = rk x4 x5 x6 x7 1
          simp only [rk]
          try omega
        · simp only [rk]
          have hj8 := Lib.hid (k_or_shift x4 x5 (by omega) (by omega) (by omega))
          go_wp2
          refine ⟨⟨2, by omega, rfl, val_int ?_⟩, by simp [intOf]⟩
          refine Eq.trans hj8.out ?_
          show _ = rk x4 x5 x6 x7 2
          simp only [rk]
          try omega
        · simp only [rk]
          have hj8 := Lib.hid (k_or_shift (256 * x4 + x5) x6 (by omega) (by omega) (by omega))
          go_wp2
          refine ⟨⟨3, by omega, rfl, val_int ?_⟩, by simp [intOf]⟩
          refine Eq.trans hj8.out ?_
          show _ = rk x4 x5 x6 x7 3
          simp only [rk]
          try omega
        · simp only [rk]
          have hj8 := Lib.hid (k_or_shift (65536 * x4 + 256 * x5 + x6) x7 (by omega) (by omega) (by omega))
          go_wp2
          refine ⟨⟨4, by omega, rfl, val_int ?_⟩, by simp [intOf]⟩
          refine Eq.trans hj8.out ?_
          show _ = rk x4 x5 x6 x7 4
          simp only [rk]
          try omega
  · have hS : Hid (icSum xs (bytesOf s) (bytesOf d) = psSum 58 xs (bytesOf s) (bytesOf d)) := Lib.hid (by unfold icSum; rw [if_pos (by unfold pairOk at hp; omega)])
    go_enter Try.func15, Try.ntmps15
    go_wp2_with fail
    refine (icmp_of_six _ _ _ hs hd hp h4).mono ?_
    rintro e w2 ⟨rfl, hB2⟩
    replace R := Lib.hid (R.out.below hB2)
    replace h0 := h0.below hB2
    replace HB := Lib.hid (below_step2 HB.out hB2)
    clear hB2
    have c0 := R.out.c0
    have c1 := R.out.c1
    have c2 := R.out.c2
    have c3 := R.out.c3
    have f0 := R.out.f 0
    have f1 := R.out.f 1
    have f2 := R.out.f 2
    have f3 := R.out.f 3
    by_cases h8 : n < 8
    · have d8 : decide ((n : Int) < 8) = true := decide_eq_true (by omega)
      have hE := Lib.hid (icErr_short xs (bytesOf s) (bytesOf d) hp' (by omega))
      go_wp2
      have q := blk_set (blk_set (blk_set (blk_set R.out.blk 0 (.int .i64 0)) 1 (.int .i64 0)) 2 (.int .i64 0)) 3 (.slice none 0 0)
      refine ret_cell2 rfl rfl q Try.underlying24 rfl (by kernel_rfl) (IcPost.err hE.out (by decide) ?_)
      exact below_set (below_set (below_set (below_set HB.out (p := ⟨w.heap.size, 0, none⟩) (Nat.le_refl _) _) (p := ⟨w.heap.size, 1, none⟩) (Nat.le_refl _) _) (p := ⟨w.heap.size, 2, none⟩) (Nat.le_refl _) _) (p := ⟨w.heap.size, 3, none⟩) (Nat.le_refl _) _
    have d8 : decide ((n : Int) < 8) = false := decide_eq_false (by omega)
    by_cases h9 : 65535 < n
    · have d9 : decide ((65535 : Int) < (n : Int)) = true := decide_eq_true (by omega)
      have hE := Lib.hid (icErr_long xs (bytesOf s) (bytesOf d) hp' (by omega) (by omega))
      go_wp2
      have q := blk_set (blk_set (blk_set (blk_set R.out.blk 0 (.int .i64 0)) 1 (.int .i64 0)) 2 (.int .i64 0)) 3 (.slice none 0 0)
      refine ret_cell2 rfl rfl q Try.underlying24 rfl (by kernel_rfl) (IcPost.err hE.out (by decide) ?_)
      exact below_set (below_set (below_set (below_set HB.out (p := ⟨w.heap.size, 0, none⟩) (Nat.le_refl _) _) (p := ⟨w.heap.size, 1, none⟩) (Nat.le_refl _) _) (p := ⟨w.heap.size, 2, none⟩) (Nat.le_refl _) _) (p := ⟨w.heap.size, 3, none⟩) (Nat.le_refl _) _
    have d9 : decide ((65535 : Int) < (n : Int)) = false := decide_eq_false (by omega)
    clear c0 c1 c2 c3 f0 f1 f2 f3
    go_wp2_with fail
    refine (icmp_wide_sum _ _ _ _ _ _ _ hs hd h0 hp (by omega)).mono ?_
    rintro e w3 ⟨rfl, hB3⟩
    replace R := Lib.hid (R.out.below hB3)
    replace h0 := h0.below hB3
    replace HB := Lib.hid (below_step2 HB.out hB3)
    clear hB3
    have c0 := R.out.c0
    have c1 := R.out.c1
    have c2 := R.out.c2
    have c3 := R.out.c3
    have f0 := R.out.f 0
    have f1 := R.out.f 1
    have f2 := R.out.f 2
    have f3 := R.out.f 3
    rw [← hS.out]
    by_cases h10 : icSum xs (bytesOf s) (bytesOf d) = 65535
    case neg =>
      have d10 : (icSum xs (bytesOf s) (bytesOf d) != 65535) = true := bne_iff_ne.mpr h10
      have hE := Lib.hid (icErr_sum xs (bytesOf s) (bytesOf d) hp' (by omega) (by omega) h10)
      generalize icSum xs (bytesOf s) (bytesOf d) = Q at d10
      clear h10 hS
      go_wp2
      have q := blk_set (blk_set (blk_set (blk_set R.out.blk 0 (.int .i64 0)) 1 (.int .i64 0)) 2 (.int .i64 0)) 3 (.slice none 0 0)
      refine ret_cell2 rfl rfl q Try.underlying24 rfl (by kernel_rfl) (IcPost.err hE.out (by decide) ?_)
      exact below_set (below_set (below_set (below_set HB.out (p := ⟨w.heap.size, 0, none⟩) (Nat.le_refl _) _) (p := ⟨w.heap.size, 1, none⟩) (Nat.le_refl _) _) (p := ⟨w.heap.size, 2, none⟩) (Nat.le_refl _) _) (p := ⟨w.heap.size, 3, none⟩) (Nat.le_refl _) _
    case pos =>
    have hE := Lib.hid (icErr_ok xs (bytesOf s) (bytesOf d) hp' (by omega) (by omega) h10)
    rw [h10]
    clear h10 hS c0 c1 c2 c3 f0 f1 f2 f3
    have A1 : A.isSome = true := by obtain ⟨_, e, _⟩ := h0.some_ (by omega); rw [e]; rfl
    obtain ⟨ad, rfl⟩ := Option.isSome_iff_exists.1 A1
    clear A1
    have i8 : (8 : Int) ≤ (n : Int) := by omega
    have i7 := h0.le
    have i9 : (8 : Int) ≤ (k : Int) := by omega
    have i6 : (4 : Int) ≤ (n : Int) := by omega
    have i5 : (4 : Int) ≤ (k : Int) := by omega
    obtain ⟨ad', e', a0, aa⟩ := h0.lit (by omega)
    injection e' with e'
    subst e'
    have a1 := Lib.hid (aa 1 (by omega) (by omega))
    have a4 := aa 4 (by omega) (by omega)
    have a5 : w3.cell? { block := ad.block, off := ad.off + 4 + 1 } = some (.int .u8 (xs.getD 5 0)) := aa 5 (by omega) (by omega)
    have a6 : w3.cell? { block := ad.block, off := ad.off + 4 + 2 } = some (.int .u8 (xs.getD 6 0)) := aa 6 (by omega) (by omega)
    have a7 : w3.cell? { block := ad.block, off := ad.off + 4 + 3 } = some (.int .u8 (xs.getD 7 0)) := aa 7 (by omega) (by omega)
    have b4 := byt_get h0.byt 4
    have b5 := byt_get h0.byt 5
    have b6 := byt_get h0.byt 6
    have b7 := byt_get h0.byt 7
    have hR : Hid (icRest xs = rk (xs.getD 4 0) (xs.getD 5 0) (xs.getD 6 0) (xs.getD 7 0) 4) := rfl
    generalize xs.getD 4 0 = x4 at a4 b4 hR
    generalize xs.getD 5 0 = x5 at a5 b5 hR
    generalize xs.getD 6 0 = x6 at a6 b6 hR
    generalize xs.getD 7 0 = x7 at a7 b7 hR
    have H := Lib.hid h0
    replace a0 := Lib.hid a0
    clear h0 aa
    go_wp2
    go_loop [10, 43] (fun vr vj => ∃ j : Nat, j ≤ 4 ∧ vj = .int .i64 (j : Int) ∧ vr = .int .i64 (rk x4 x5 x6 x7 j)) (fun _ vj => 4 - (intOf vj).toNat)
    case atStart => exact ⟨0, by omega, rfl, rfl⟩
    case round =>
      obtain ⟨j, hj, rfl, rfl⟩ := hrel
      by_cases h4' : j = 4
      · subst h4'
        clear a4 a5 a6 a7
        rw [← hR.out]
        clear b4 b5 b6 b7 hR
        generalize hrr : icRest xs = rr
        replace hrr := Lib.hid hrr
        have a0' := a0.out
        have a1' := a1.out
        have bb0 := byt_get H.out.byt 0
        have bb1 := byt_get H.out.byt 1
        generalize hx0 : xs.getD 0 0 = x0 at a0' bb0
        generalize hx1 : xs.getD 1 0 = x1 at a1' bb1
        replace hx0 := Lib.hid hx0
        replace hx1 := Lib.hid hx1
        have hlt : ad.block < w.heap.size := hlt'.out ad rfl (by omega)
        have HD := Lib.hid (H.out.below (below_drew (Below.refl _ _)))
        have RD := Lib.hid (R.out.below (below_drew (Below.refl _ _)))
        have BD := Lib.hid (below_drew HB.out)
        have ZD := Lib.hid ((⟨a0', a1'⟩ : Q2 w3 ad x0 x1).below (below_drew (Below.refl _ _)))
        have j0 : (0 : Int) < (n : Int) := by omega
        have j4 : 0 < n := by omega
        have j1 : (1 : Int) < (n : Int) := by omega
        have e0 : IntKind.i64.wrap x0 = x0 := IntWalk.i64_in _ (by omega)
        have e1 : IntKind.i64.wrap x1 = x1 := IntWalk.i64_in _ (by omega)
        clear a0 a1 a0' a1' H R HB
        go_wp2
        by_cases hk8 : k = 8
        · go_region_held3 (fun w' => w'.cell? ad = some (.int .u8 x0) ∧ w'.cell? ⟨ad.block, ad.off + 1, none⟩ = some (.int .u8 x1))
            ((refine Q2.cs ?_; first
              | exact ((((Z3.out.set (p := ⟨w.heap.size, 0, none⟩) hlt _).set (p := ⟨w.heap.size, 1, none⟩) hlt _).set (p := ⟨w.heap.size, 2, none⟩) hlt _).set (p := ⟨w.heap.size, 3, none⟩) hlt _)
              | exact Z3.out
              | exact ZD.out))
            (first
              | (go_at_call 28
                 refine (slices_Clone _ _ _ (xs.drop 8) _ (by have q := HD.out.drop_lit 8 (by omega) (by omega); rwa [if_pos hk8, show k - 8 = 0 by omega] at q)).mono ?_
                 rintro e w7 ⟨v7, rfl, o7, hB7⟩
                 have Z3 := Lib.hid (ZD.out.below hB7)
                 have R3 := Lib.hid (RD.out.below hB7)
                 obtain ⟨A7, n7, c7, rfl, _⟩ := o7.bts
                 have b7 := blk_lt RD.out.blk
                 have b8 := BD.out.size
                 replace o7 := Lib.hid o7
                 have c0 := R3.out.c0
                 have c1 := R3.out.c1
                 have c2 := R3.out.c2
                 have c3 := R3.out.c3
                 have f0 := R3.out.f 0
                 have f1 := R3.out.f 1
                 have f2 := R3.out.f 2
                 have f3 := R3.out.f 3
                 have B3 := Lib.hid (below_step2 BD.out hB7)
                 clear hB7))
          go_wp2
          have q := blk_set (blk_set (blk_set (blk_set R3.out.blk 0 (.int .i64 x0)) 1 (.int .i64 x1)) 2 (.int .i64 rr)) 3 (.slice A7 n7 c7)
          refine ret_cell2 rfl rfl q Try.underlying24 rfl (by kernel_rfl) (IcPost.ok hE.out hx0.out hx1.out hrr.out ?_ ?_)
          · exact ((((o7.out.far (p := ⟨w.heap.size, 0, none⟩) b7 _).far (p := ⟨w.heap.size, 1, none⟩) b7 _).far (p := ⟨w.heap.size, 2, none⟩) b7 _).far (p := ⟨w.heap.size, 3, none⟩) b7 _).lower b8
          · exact below_set (below_set (below_set (below_set B3.out (p := ⟨w.heap.size, 0, none⟩) (Nat.le_refl _) _) (p := ⟨w.heap.size, 1, none⟩) (Nat.le_refl _) _) (p := ⟨w.heap.size, 2, none⟩) (Nat.le_refl _) _) (p := ⟨w.heap.size, 3, none⟩) (Nat.le_refl _) _
        · go_region_held3 (fun w' => w'.cell? ad = some (.int .u8 x0) ∧ w'.cell? ⟨ad.block, ad.off + 1, none⟩ = some (.int .u8 x1))
            ((refine Q2.cs ?_; first
              | exact ((((Z3.out.set (p := ⟨w.heap.size, 0, none⟩) hlt _).set (p := ⟨w.heap.size, 1, none⟩) hlt _).set (p := ⟨w.heap.size, 2, none⟩) hlt _).set (p := ⟨w.heap.size, 3, none⟩) hlt _)
              | exact Z3.out
              | exact ZD.out))
            (first
              | (go_at_call 28
                 refine (slices_Clone _ _ _ (xs.drop 8) _ (by have q := HD.out.drop_lit 8 (by omega) (by omega); rwa [if_neg hk8] at q)).mono ?_
                 rintro e w7 ⟨v7, rfl, o7, hB7⟩
                 have Z3 := Lib.hid (ZD.out.below hB7)
                 have R3 := Lib.hid (RD.out.below hB7)
                 obtain ⟨A7, n7, c7, rfl, _⟩ := o7.bts
                 have b7 := blk_lt RD.out.blk
                 have b8 := BD.out.size
                 replace o7 := Lib.hid o7
                 have c0 := R3.out.c0
                 have c1 := R3.out.c1
                 have c2 := R3.out.c2
                 have c3 := R3.out.c3
                 have f0 := R3.out.f 0
                 have f1 := R3.out.f 1
                 have f2 := R3.out.f 2
                 have f3 := R3.out.f 3
                 have B3 := Lib.hid (below_step2 BD.out hB7)
                 clear hB7))
          go_wp2
          have q := blk_set (blk_set (blk_set (blk_set R3.out.blk 0 (.int .i64 x0)) 1 (.int .i64 x1)) 2 (.int .i64 rr)) 3 (.slice A7 n7 c7)
          refine ret_cell2 rfl rfl q Try.underlying24 rfl (by kernel_rfl) (IcPost.ok hE.out hx0.out hx1.out hrr.out ?_ ?_)
          · exact ((((o7.out.far (p := ⟨w.heap.size, 0, none⟩) b7 _).far (p := ⟨w.heap.size, 1, none⟩) b7 _).far (p := ⟨w.heap.size, 2, none⟩) b7 _).far (p := ⟨w.heap.size, 3, none⟩) b7 _).lower b8
          · exact below_set (below_set (below_set (below_set B3.out (p := ⟨w.heap.size, 0, none⟩) (Nat.le_refl _) _) (p := ⟨w.heap.size, 1, none⟩) (Nat.le_refl _) _) (p := ⟨w.heap.size, 2, none⟩) (Nat.le_refl _) _) (p := ⟨w.heap.size, 3, none⟩) (Nat.le_refl _) _
      · obtain rfl | rfl | rfl | rfl : j = 0 ∨ j = 1 ∨ j = 2 ∨ j = 3 := by omega
        · simp only [rk]
          have hj8 := Lib.hid (k_or_shift 0 x4 (by omega) (by omega) (by omega))
          go_wp2
          refine ⟨⟨1, by omega, rfl, val_int ?_⟩, by simp [intOf]⟩
          refine Eq.trans hj8.out ?_
          show _ = rk x4 x5 x6 x7 1
          simp only [rk]
          try omega
        · simp only [rk]
          have hj8 := Lib.hid (k_or_shift x4 x5 (by omega) (by omega) (by omega))
          go_wp2
          refine ⟨⟨2, by omega, rfl, val_int ?_⟩, by simp [intOf]⟩
          refine Eq.trans hj8.out ?_
          show _ = rk x4 x5 x6 x7 2
          simp only [rk]
          try omega
        · simp only [rk]
          have hj8 := Lib.hid (k_or_shift (256 * x4 + x5) x6 (by omega) (by omega) (by omega))
          go_wp2
          refine ⟨⟨3, by omega, rfl, val_int ?_⟩, by simp [intOf]⟩
          refine Eq.trans hj8.out ?_
          show _ = rk x4 x5 x6 x7 3
          simp only [rk]
          try omega
        · simp only [rk]
          have hj8 := Lib.hid (k_or_shift (65536 * x4 + 256 * x5 + x6) x7 (by omega) (by omega) (by omega))
          go_wp2
          refine ⟨⟨4, by omega, rfl, val_int ?_⟩, by simp [intOf]⟩
          refine Eq.trans hj8.out ?_
          show _ = rk x4 x5 x6 x7 4
          simp only [rk]
          try omega
end Go.Proofs.Ytfcccglkhdfodaa

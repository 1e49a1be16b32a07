/- What the reference reads out of bytes as a datagram. Conditions: those that each lemma states. -/
import Derived.Test.YtbmlbomildfmcaaCUdpE
namespace Go.Proofs.Ytbmlbomildfmcaa
open Go.RowKit Go.Proofs.YtbmlbomildfmcaaW.PrintWords

theorem ParsePost.ok' {xs s d : List Int} {w w' : World} {v : Value} {x y : Int} (h : dgErr xs s d = 0) (hx : dgSrc xs = x) (hy : dgDst xs = y) (ho : OwnB w' w.heap.size v (xs.drop 8)) (hB : Below w.heap.size w w') : ParsePost xs s d w (.returned (.tuple #[.agg #[.int .i64 x, .int .i64 y, v], .int .i64 0])) w' := by
  subst hx hy
  exact ParsePost.ok h ho hB
/-- Four bytes in memory. -/
structure Q4 (w : World) (ad : Addr) (x0 x1 x2 x3 : Int) : Prop where
  a0 : w.cell? ad = some (.int .u8 x0)
  a1 : w.cell? ⟨ad.block, ad.off + 1, none⟩ = some (.int .u8 x1)
  a2 : w.cell? ⟨ad.block, ad.off + 2, none⟩ = some (.int .u8 x2)
  a3 : w.cell? ⟨ad.block, ad.off + 3, none⟩ = some (.int .u8 x3)
section
variable {w w1 : World} {ad : Addr} {x0 x1 x2 x3 : Int}
theorem Q4.cs (h : Q4 w ad x0 x1 x2 x3) : w.cell? ad = some (.int .u8 x0) ∧ w.cell? ⟨ad.block, ad.off + 1, none⟩ = some (.int .u8 x1) ∧ w.cell? ⟨ad.block, ad.off + 2, none⟩ = some (.int .u8 x2) ∧ w.cell? ⟨ad.block, ad.off + 3, none⟩ = some (.int .u8 x3) := ⟨h.a0, h.a1, h.a2, h.a3⟩
theorem Q4.below (h : Q4 w ad x0 x1 x2 x3) (hb : Below w.heap.size w w1) : Q4 w1 ad x0 x1 x2 x3 := by
  have l : ad.block < w.heap.size := World.block_lt_of_cell? w _ h.a0
  exact ⟨(hb.cell l).trans h.a0, (hb.cell (p := ⟨ad.block, ad.off + 1, none⟩) l).trans h.a1, (hb.cell (p := ⟨ad.block, ad.off + 2, none⟩) l).trans h.a2, (hb.cell (p := ⟨ad.block, ad.off + 3, none⟩) l).trans h.a3⟩
theorem Q4.set (h : Q4 w ad x0 x1 x2 x3) {p : Addr} (hp : ad.block < p.block) (v : Value) : Q4 (w.setCell p v) ad x0 x1 x2 x3 := by
  have e : ∀ q : Addr, q.block = ad.block → (w.setCell p v).cell? q = w.cell? q := fun q hq => World.cell?_of_block (w := w) (Below.heap_setCell w p v q.block (by omega))
  exact ⟨(e ad rfl).trans h.a0, (e ⟨ad.block, ad.off + 1, none⟩ rfl).trans h.a1, (e ⟨ad.block, ad.off + 2, none⟩ rfl).trans h.a2, (e ⟨ad.block, ad.off + 3, none⟩ rfl).trans h.a3⟩
end

set_option maxHeartbeats 4000000 in
theorem ref05_Parse (A : Option Addr) (n c : Nat) (xs : List Int) (s d : ByteArray) (w : World) (hs : s.size ≤ 140737488351232) (hd : d.size ≤ 140737488351232) (h0 : Bts w A n c xs) :
    Calls Try.prog 15 #[.slice A n c, .string s, .string d] w (ParsePost xs (bytesOf s) (bytesOf d) w) := by
  have hl := h0.len
  have hlt' : Hid (∀ ad : Addr, A = some ad → 0 < n → ad.block < w.heap.size) := Lib.hid (by
    intro ad e hn
    obtain ⟨ad', e', q⟩ := h0.some_ hn
    rw [e] at e'
    injection e' with e'
    subst e'
    have q0 := q 0 hn
    rw [Addr.add_zero'] at q0
    exact World.block_lt_of_cell? w _ q0)
  have ls := bytesOf_length s
  have ld := bytesOf_length d
  have R := Lib.hid (Dg.at w w.heap.size 0 0 none 0 0 rfl)
  have HB := Lib.hid (below_alloc (Below.refl w.heap.size w) (.cells #[.int .i64 0, .int .i64 0, .slice none 0 0] 24))
  replace h0 := h0.below HB.out
  go_enter Try.func15, Try.ntmps15
  go_wp2_with fail
  generalize w.alloc (.cells #[.int .i64 0, .int .i64 0, .slice none 0 0] 24) = w1 at h0 R HB ⊢
  refine (ref05_Pair _ _ _).mono ?_
  rintro e w' ⟨rfl, rfl⟩
  have c0 := R.out.c0
  have c1 := R.out.c1
  have c2 := R.out.c2
  have f0 := R.out.f 0
  have f1 := R.out.f 1
  have f2 := R.out.f 2
  by_cases hp : pairOk s.size d.size
  case neg =>
    have hE := Lib.hid (dgErr_pair xs (bytesOf s) (bytesOf d) (by rw [ls, ld]; exact hp))
    rw [decide_eq_false hp]
    go_wp2
    have q := blk_set (blk_set (blk_set R.out.blk 0 (.int .i64 0)) 1 (.int .i64 0)) 2 (.slice none 0 0)
    refine ret_cell2 rfl rfl q Try.underlying24 rfl (by kernel_rfl) (ParsePost.err hE.out (by decide) ?_)
    exact below_set (below_set (below_set HB.out (p := ⟨w.heap.size, 0, none⟩) (Nat.le_refl _) _) (p := ⟨w.heap.size, 1, none⟩) (Nat.le_refl _) _) (p := ⟨w.heap.size, 2, none⟩) (Nat.le_refl _) _
  case pos =>
  have hp' : pairOk (bytesOf s).length (bytesOf d).length := by rw [ls, ld]; exact hp
  rw [decide_eq_true hp]
  by_cases h8 : n < 8
  · have d8 : decide ((n : Int) < 8) = true := decide_eq_true (by omega)
    have hE := Lib.hid (dgErr_short xs (bytesOf s) (bytesOf d) hp' (by omega))
    go_wp2
    have q := blk_set (blk_set (blk_set R.out.blk 0 (.int .i64 0)) 1 (.int .i64 0)) 2 (.slice none 0 0)
    refine ret_cell2 rfl rfl q Try.underlying24 rfl (by kernel_rfl) (ParsePost.err hE.out (by decide) ?_)
    exact below_set (below_set (below_set HB.out (p := ⟨w.heap.size, 0, none⟩) (Nat.le_refl _) _) (p := ⟨w.heap.size, 1, none⟩) (Nat.le_refl _) _) (p := ⟨w.heap.size, 2, none⟩) (Nat.le_refl _) _
  have d8 : decide ((n : Int) < 8) = false := decide_eq_false (by omega)
  have hL := dgLen_bd xs h0.byt
  have hLe : dgLen xs = 256 * xs.getD 4 0 + xs.getD 5 0 := rfl
  have b4 := byt_get h0.byt 4
  have b5 := byt_get h0.byt 5
  have i8 : (8 : Int) ≤ (n : Int) := by omega
  have i4 : (4 : Int) < (n : Int) := by omega
  have i5 : (5 : Int) < (n : Int) := by omega
  have A1 : A.isSome = true := by obtain ⟨_, e, _⟩ := h0.some_ (by omega); rw [e]; rfl
  obtain ⟨ad, rfl⟩ := Option.isSome_iff_exists.1 A1
  clear A1
  have hlt := hlt'.out ad rfl (by omega)
  clear hlt'
  obtain ⟨ad', e', a0, aa⟩ := h0.lit (by omega)
  injection e' with e'
  subst e'
  have a1 := aa 1 (by omega) (by omega)
  have a2 := aa 2 (by omega) (by omega)
  have a3 := aa 3 (by omega) (by omega)
  have a4 := aa 4 (by omega) (by omega)
  have a5 := aa 5 (by omega) (by omega)
  have a6 := aa 6 (by omega) (by omega)
  have a7 := aa 7 (by omega) (by omega)
  clear aa
  have w4 : IntKind.i64.wrap (xs.getD 4 0) = xs.getD 4 0 := IntWalk.i64_in _ (by omega)
  have w5 : IntKind.i64.wrap (xs.getD 5 0) = xs.getD 5 0 := IntWalk.i64_in _ (by omega)
  have w6 : IntKind.i64.wrap (256 * xs.getD 4 0) = 256 * xs.getD 4 0 := IntWalk.i64_in _ (by omega)
  have w7 : IntKind.i64.wrap (256 * xs.getD 4 0 + xs.getD 5 0) = dgLen xs := IntWalk.i64_in _ (by omega)
  generalize xs.getD 4 0 = x4 at a4 b4 hLe w4 w6 w7
  generalize xs.getD 5 0 = x5 at a5 b5 hLe w5 w7
  generalize hLL : dgLen xs = LL at hL hLe w7
  replace hLL := Lib.hid hLL
  go_wp2
  go_quiet (fail)
  rw [← hLe]
  clear w4 w5 w6 w7 hLe b4 b5 i4 i5 c0 c1 c2 f0 f1 f2 a0 a1 a2 a3 a4 a5 a6 a7
  replace h0 := h0.drewN nq
  replace R := Lib.hid (R.out.drewN nq)
  replace HB := Lib.hid (pw_below_drewN HB.out nq)
  generalize w1.drewN nq = w2 at h0 R HB ⊢
  have c0 := R.out.c0
  have c1 := R.out.c1
  have c2 := R.out.c2
  have f0 := R.out.f 0
  have f1 := R.out.f 1
  have f2 := R.out.f 2
  obtain ⟨ad', e', a0, aa⟩ := h0.lit (by omega)
  injection e' with e'
  subst e'
  have a1 := aa 1 (by omega) (by omega)
  have a2 := aa 2 (by omega) (by omega)
  have a3 := aa 3 (by omega) (by omega)
  have a4 := aa 4 (by omega) (by omega)
  have a5 := aa 5 (by omega) (by omega)
  have a6 := aa 6 (by omega) (by omega)
  have a7 := aa 7 (by omega) (by omega)
  clear aa
  by_cases h9 : (n : Int) < LL
  · have d9 : decide ((n : Int) < LL) = true := decide_eq_true h9
    have hE := Lib.hid (dgErr_more xs (bytesOf s) (bytesOf d) hp' (by omega) (by rw [hLL.out]; omega))
    go_wp2
    have q := blk_set (blk_set (blk_set R.out.blk 0 (.int .i64 0)) 1 (.int .i64 0)) 2 (.slice none 0 0)
    refine ret_cell2 rfl rfl q Try.underlying24 rfl (by kernel_rfl) (ParsePost.err hE.out (by decide) ?_)
    exact below_set (below_set (below_set HB.out (p := ⟨w.heap.size, 0, none⟩) (Nat.le_refl _) _) (p := ⟨w.heap.size, 1, none⟩) (Nat.le_refl _) _) (p := ⟨w.heap.size, 2, none⟩) (Nat.le_refl _) _
  have d9 : decide ((n : Int) < LL) = false := decide_eq_false h9
  by_cases h10 : LL < 8
  · have d10 : decide (LL < 8) = true := decide_eq_true h10
    have hE := Lib.hid (dgErr_form xs (bytesOf s) (bytesOf d) hp' (by omega) (by rw [hLL.out]; omega) (by rw [hLL.out]; omega))
    go_wp2
    have q := blk_set (blk_set (blk_set R.out.blk 0 (.int .i64 0)) 1 (.int .i64 0)) 2 (.slice none 0 0)
    refine ret_cell2 rfl rfl q Try.underlying24 rfl (by kernel_rfl) (ParsePost.err hE.out (by decide) ?_)
    exact below_set (below_set (below_set HB.out (p := ⟨w.heap.size, 0, none⟩) (Nat.le_refl _) _) (p := ⟨w.heap.size, 1, none⟩) (Nat.le_refl _) _) (p := ⟨w.heap.size, 2, none⟩) (Nat.le_refl _) _
  have d10 : decide (LL < 8) = false := decide_eq_false h10
  by_cases h11 : LL < n
  · have d11 : decide (LL < (n : Int)) = true := decide_eq_true h11
    have hE := Lib.hid (dgErr_form xs (bytesOf s) (bytesOf d) hp' (by omega) (by rw [hLL.out]; omega) (by rw [hLL.out]; omega))
    go_wp2
    have q := blk_set (blk_set (blk_set R.out.blk 0 (.int .i64 0)) 1 (.int .i64 0)) 2 (.slice none 0 0)
    refine ret_cell2 rfl rfl q Try.underlying24 rfl (by kernel_rfl) (ParsePost.err hE.out (by decide) ?_)
    exact below_set (below_set (below_set HB.out (p := ⟨w.heap.size, 0, none⟩) (Nat.le_refl _) _) (p := ⟨w.heap.size, 1, none⟩) (Nat.le_refl _) _) (p := ⟨w.heap.size, 2, none⟩) (Nat.le_refl _) _
  have d11 : decide (LL < (n : Int)) = false := decide_eq_false h11
  have hLn : dgLen xs = xs.length := by rw [hLL.out]; omega
  have hN : Hid (dgNone xs ↔ xs.getD 6 0 = 0 ∧ xs.getD 7 0 = 0) := Iff.rfl
  have i6 : (6 : Int) < (n : Int) := by omega
  have i7 : (7 : Int) < (n : Int) := by omega
  generalize xs.getD 6 0 = x6 at a6 hN
  generalize xs.getD 7 0 = x7 at a7 hN
  by_cases h6 : x6 = 0
  · have e6 : (x6 == 0) = true := by rw [beq_iff_eq]; exact h6
    by_cases h7 : x7 = 0
    · have e7 : (x7 == 0) = true := by rw [beq_iff_eq]; exact h7
      have hno := hN.out.2 ⟨h6, h7⟩
      clear h6 h7
      by_cases h16 : s.size = 16
      · have e3 : ((s.size : Int) == 16) = true := by rw [beq_iff_eq]; omega
        have hE := Lib.hid (dgErr_sum xs (bytesOf s) (bytesOf d) hp' (by omega) hLn (.inl ⟨hno, by omega⟩))
        clear h16 hLn hno
        go_wp2
        have q := blk_set (blk_set (blk_set R.out.blk 0 (.int .i64 0)) 1 (.int .i64 0)) 2 (.slice none 0 0)
        refine ret_cell2 rfl rfl q Try.underlying24 rfl (by kernel_rfl) (ParsePost.err hE.out (by decide) ?_)
        exact below_set (below_set (below_set HB.out (p := ⟨w.heap.size, 0, none⟩) (Nat.le_refl _) _) (p := ⟨w.heap.size, 1, none⟩) (Nat.le_refl _) _) (p := ⟨w.heap.size, 2, none⟩) (Nat.le_refl _) _
      · have e3 : ((s.size : Int) == 16) = false := beq_eq_false_iff_ne.mpr (by omega)
        have hE := Lib.hid (dgErr_ok xs (bytesOf s) (bytesOf d) hp' (by omega) hLn (by rintro (⟨_, q⟩ | ⟨q, _⟩); (omega); exact q hno))
        clear h16 hLn hno
        go_wp2_with fail
        have HD := Lib.hid (h0.below (below_drew (Below.refl _ _)))
        have RD := Lib.hid (R.out.below (below_drew (Below.refl _ _)))
        have BD := Lib.hid (below_drew HB.out)
        have i8 : (8 : Int) ≤ (n : Int) := by omega
        have i9 : (8 : Int) ≤ (c : Int) := by have := h0.le; omega
        have i7 := h0.le
        have j0 : (0 : Int) < (n : Int) := by omega
        have j4 : 0 < n := by omega
        have j1 : (1 : Int) < (n : Int) := by omega
        have j2 : (2 : Int) < (n : Int) := by omega
        have j3 : (3 : Int) < (n : Int) := by omega
        have b0 := byt_get h0.byt 0
        have b1 := byt_get h0.byt 1
        have b2 := byt_get h0.byt 2
        have b3 := byt_get h0.byt 3
        have V := Lib.hid (And.intro (show dgSrc xs = 256 * xs.getD 0 0 + xs.getD 1 0 from rfl) (show dgDst xs = 256 * xs.getD 2 0 + xs.getD 3 0 from rfl))
        have hmx := h0.max
        have ZD := Lib.hid ((⟨a0, a1, a2, a3⟩ : Q4 w2 ad (xs.getD 0 0) (xs.getD 1 0) (xs.getD 2 0) (xs.getD 3 0)).below (below_drew (Below.refl _ _)))
        clear c0 c1 c2 f0 f1 f2 a4 a5 a6 a7 a0 a1 a2 a3 h0 R HB
        generalize xs.getD 0 0 = x0 at b0 V ZD
        generalize xs.getD 1 0 = x1 at b1 V ZD
        generalize xs.getD 2 0 = x2 at b2 V ZD
        generalize xs.getD 3 0 = x3 at b3 V ZD
        have w0 : IntKind.i64.wrap x0 = x0 := IntWalk.i64_in _ (by omega)
        have w1 : IntKind.i64.wrap x1 = x1 := IntWalk.i64_in _ (by omega)
        have w2 : IntKind.i64.wrap x2 = x2 := IntWalk.i64_in _ (by omega)
        have w3 : IntKind.i64.wrap x3 = x3 := IntWalk.i64_in _ (by omega)
        have w4 : IntKind.i64.wrap (256 * x0) = 256 * x0 := IntWalk.i64_in _ (by omega)
        have w5 : IntKind.i64.wrap (256 * x2) = 256 * x2 := IntWalk.i64_in _ (by omega)
        have w6 : IntKind.i64.wrap (256 * x0 + x1) = 256 * x0 + x1 := IntWalk.i64_in _ (by omega)
        have w7 : IntKind.i64.wrap (256 * x2 + x3) = 256 * x2 + x3 := IntWalk.i64_in _ (by omega)
        by_cases hc8 : c = 8
        · go_region_held3 (fun w' => w'.cell? ad = some (.int .u8 x0) ∧ w'.cell? ⟨ad.block, ad.off + 1, none⟩ = some (.int .u8 x1) ∧ w'.cell? ⟨ad.block, ad.off + 2, none⟩ = some (.int .u8 x2) ∧ w'.cell? ⟨ad.block, ad.off + 3, none⟩ = some (.int .u8 x3))
            ((refine Q4.cs ?_; first
              | exact (((Z3.out.set (p := ⟨w.heap.size, 0, none⟩) hlt _).set (p := ⟨w.heap.size, 1, none⟩) hlt _).set (p := ⟨w.heap.size, 2, none⟩) hlt _)
              | exact Z3.out
              | exact ZD.out.below (below_alloc (Below.refl _ _) _)
              | exact ZD.out))
            (first
              | (go_at_call 8
                 refine (ref01_Both _ _ _ [xs.drop 8] _ (Rws.one _ _ 22 rfl (by have q := HD.out.drop_lit 8 (by omega) (by omega); rwa [if_pos hc8, show c - 8 = 0 by omega] at q)) (by simp; omega)).mono ?_
                 rintro e w7 ⟨v7, rfl, o7, hB7⟩
                 simp only [List.flatten_cons, List.flatten_nil, List.append_nil] at o7
                 obtain ⟨A7, n7, c7, rfl, _⟩ := o7.bts
                 replace o7 := Lib.hid (o7.lower (below_alloc (Below.refl _ _) _).size)
                 replace hB7 := below_step2 (below_alloc (Below.refl _ _) _) hB7
                 have Z3 := Lib.hid (ZD.out.below hB7)
                 have R3 := Lib.hid (RD.out.below hB7)
                 have B3 := Lib.hid (below_step2 BD.out hB7)
                 have b7 := blk_lt RD.out.blk
                 have b8 := BD.out.size
                 have c0 := R3.out.c0
                 have c1 := R3.out.c1
                 have c2 := R3.out.c2
                 have f0 := R3.out.f 0
                 have f1 := R3.out.f 1
                 have f2 := R3.out.f 2
                 clear hB7))
          go_wp2
          have q := blk_set (blk_set (blk_set R3.out.blk 0 (.int .i64 (256 * x0 + x1))) 1 (.int .i64 (256 * x2 + x3))) 2 (.slice A7 n7 c7)
          refine ret_cell2 rfl rfl q Try.underlying24 rfl (by kernel_rfl) (ParsePost.ok' hE.out V.out.1 V.out.2 ?_ ?_)
          · exact (((o7.out.far (p := ⟨w.heap.size, 0, none⟩) b7 _).far (p := ⟨w.heap.size, 1, none⟩) b7 _).far (p := ⟨w.heap.size, 2, none⟩) b7 _).lower b8
          · exact below_set (below_set (below_set B3.out (p := ⟨w.heap.size, 0, none⟩) (Nat.le_refl _) _) (p := ⟨w.heap.size, 1, none⟩) (Nat.le_refl _) _) (p := ⟨w.heap.size, 2, none⟩) (Nat.le_refl _) _
        · go_region_held3 (fun w' => w'.cell? ad = some (.int .u8 x0) ∧ w'.cell? ⟨ad.block, ad.off + 1, none⟩ = some (.int .u8 x1) ∧ w'.cell? ⟨ad.block, ad.off + 2, none⟩ = some (.int .u8 x2) ∧ w'.cell? ⟨ad.block, ad.off + 3, none⟩ = some (.int .u8 x3))
            ((refine Q4.cs ?_; first
              | exact (((Z3.out.set (p := ⟨w.heap.size, 0, none⟩) hlt _).set (p := ⟨w.heap.size, 1, none⟩) hlt _).set (p := ⟨w.heap.size, 2, none⟩) hlt _)
              | exact Z3.out
              | exact ZD.out.below (below_alloc (Below.refl _ _) _)
              | exact ZD.out))
            (first
              | (go_at_call 8
                 refine (ref01_Both _ _ _ [xs.drop 8] _ (Rws.one _ _ 22 rfl (by have q := HD.out.drop_lit 8 (by omega) (by omega); rwa [if_neg hc8] at q)) (by simp; omega)).mono ?_
                 rintro e w7 ⟨v7, rfl, o7, hB7⟩
                 simp only [List.flatten_cons, List.flatten_nil, List.append_nil] at o7
                 obtain ⟨A7, n7, c7, rfl, _⟩ := o7.bts
                 replace o7 := Lib.hid (o7.lower (below_alloc (Below.refl _ _) _).size)
                 replace hB7 := below_step2 (below_alloc (Below.refl _ _) _) hB7
                 have Z3 := Lib.hid (ZD.out.below hB7)
                 have R3 := Lib.hid (RD.out.below hB7)
                 have B3 := Lib.hid (below_step2 BD.out hB7)
                 have b7 := blk_lt RD.out.blk
                 have b8 := BD.out.size
                 have c0 := R3.out.c0
                 have c1 := R3.out.c1
                 have c2 := R3.out.c2
                 have f0 := R3.out.f 0
                 have f1 := R3.out.f 1
                 have f2 := R3.out.f 2
                 clear hB7))
          go_wp2
          have q := blk_set (blk_set (blk_set R3.out.blk 0 (.int .i64 (256 * x0 + x1))) 1 (.int .i64 (256 * x2 + x3))) 2 (.slice A7 n7 c7)
          refine ret_cell2 rfl rfl q Try.underlying24 rfl (by kernel_rfl) (ParsePost.ok' hE.out V.out.1 V.out.2 ?_ ?_)
          · exact (((o7.out.far (p := ⟨w.heap.size, 0, none⟩) b7 _).far (p := ⟨w.heap.size, 1, none⟩) b7 _).far (p := ⟨w.heap.size, 2, none⟩) b7 _).lower b8
          · exact below_set (below_set (below_set B3.out (p := ⟨w.heap.size, 0, none⟩) (Nat.le_refl _) _) (p := ⟨w.heap.size, 1, none⟩) (Nat.le_refl _) _) (p := ⟨w.heap.size, 2, none⟩) (Nat.le_refl _) _
    · have e7 : (x7 == 0) = false := beq_eq_false_iff_ne.mpr h7
      have hno : ¬ dgNone xs := fun q => h7 (hN.out.1 q).2
      clear h6 h7
      go_wp2_with fail
      refine (ref05_Sum _ _ _ _ _ _ _ hs hd h0 hp (by omega)).mono ?_
      rintro e w3 ⟨rfl, hB3⟩
      clear c0 c1 c2 f0 f1 f2 a0 a1 a2 a3 a4 a5 a6 a7
      replace h0 := h0.below hB3
      replace R := Lib.hid (R.out.below hB3)
      replace HB := Lib.hid (below_step2 HB.out hB3)
      clear hB3
      have c0 := R.out.c0
      have c1 := R.out.c1
      have c2 := R.out.c2
      have f0 := R.out.f 0
      have f1 := R.out.f 1
      have f2 := R.out.f 2
      obtain ⟨ad', e', a0, aa⟩ := h0.lit (by omega)
      injection e' with e'
      subst e'
      have a1 := aa 1 (by omega) (by omega)
      have a2 := aa 2 (by omega) (by omega)
      have a3 := aa 3 (by omega) (by omega)
      have a4 := aa 4 (by omega) (by omega)
      have a5 := aa 5 (by omega) (by omega)
      have a6 := aa 6 (by omega) (by omega)
      have a7 := aa 7 (by omega) (by omega)
      clear aa
      by_cases hD : dgSum xs (bytesOf s) (bytesOf d) = 65535
      · have hE := Lib.hid (dgErr_ok xs (bytesOf s) (bytesOf d) hp' (by omega) hLn (by rintro (⟨q, _⟩ | ⟨_, q⟩); (exact hno q); exact q hD))
        rw [hD]
        clear hno hLn hD
        go_wp2_with fail
        have HD := Lib.hid (h0.below (below_drew (Below.refl _ _)))
        have RD := Lib.hid (R.out.below (below_drew (Below.refl _ _)))
        have BD := Lib.hid (below_drew HB.out)
        have i8 : (8 : Int) ≤ (n : Int) := by omega
        have i9 : (8 : Int) ≤ (c : Int) := by have := h0.le; omega
        have i7 := h0.le
        have j0 : (0 : Int) < (n : Int) := by omega
        have j4 : 0 < n := by omega
        have j1 : (1 : Int) < (n : Int) := by omega
        have j2 : (2 : Int) < (n : Int) := by omega
        have j3 : (3 : Int) < (n : Int) := by omega
        have b0 := byt_get h0.byt 0
        have b1 := byt_get h0.byt 1
        have b2 := byt_get h0.byt 2
        have b3 := byt_get h0.byt 3
        have V := Lib.hid (And.intro (show dgSrc xs = 256 * xs.getD 0 0 + xs.getD 1 0 from rfl) (show dgDst xs = 256 * xs.getD 2 0 + xs.getD 3 0 from rfl))
        have hmx := h0.max
        have ZD := Lib.hid ((⟨a0, a1, a2, a3⟩ : Q4 w3 ad (xs.getD 0 0) (xs.getD 1 0) (xs.getD 2 0) (xs.getD 3 0)).below (below_drew (Below.refl _ _)))
        clear c0 c1 c2 f0 f1 f2 a4 a5 a6 a7 a0 a1 a2 a3 h0 R HB
        generalize xs.getD 0 0 = x0 at b0 V ZD
        generalize xs.getD 1 0 = x1 at b1 V ZD
        generalize xs.getD 2 0 = x2 at b2 V ZD
        generalize xs.getD 3 0 = x3 at b3 V ZD
        have w0 : IntKind.i64.wrap x0 = x0 := IntWalk.i64_in _ (by omega)
        have w1 : IntKind.i64.wrap x1 = x1 := IntWalk.i64_in _ (by omega)
        have w2 : IntKind.i64.wrap x2 = x2 := IntWalk.i64_in _ (by omega)
        have w3 : IntKind.i64.wrap x3 = x3 := IntWalk.i64_in _ (by omega)
        have w4 : IntKind.i64.wrap (256 * x0) = 256 * x0 := IntWalk.i64_in _ (by omega)
        have w5 : IntKind.i64.wrap (256 * x2) = 256 * x2 := IntWalk.i64_in _ (by omega)
        have w6 : IntKind.i64.wrap (256 * x0 + x1) = 256 * x0 + x1 := IntWalk.i64_in _ (by omega)
        have w7 : IntKind.i64.wrap (256 * x2 + x3) = 256 * x2 + x3 := IntWalk.i64_in _ (by omega)
        by_cases hc8 : c = 8
        · go_region_held3 (fun w' => w'.cell? ad = some (.int .u8 x0) ∧ w'.cell? ⟨ad.block, ad.off + 1, none⟩ = some (.int .u8 x1) ∧ w'.cell? ⟨ad.block, ad.off + 2, none⟩ = some (.int .u8 x2) ∧ w'.cell? ⟨ad.block, ad.off + 3, none⟩ = some (.int .u8 x3))
            ((refine Q4.cs ?_; first
              | exact (((Z3.out.set (p := ⟨w.heap.size, 0, none⟩) hlt _).set (p := ⟨w.heap.size, 1, none⟩) hlt _).set (p := ⟨w.heap.size, 2, none⟩) hlt _)
              | exact Z3.out
              | exact ZD.out.below (below_alloc (Below.refl _ _) _)
              | exact ZD.out))
            (first
              | (go_at_call 8
                 refine (ref01_Both _ _ _ [xs.drop 8] _ (Rws.one _ _ 22 rfl (by have q := HD.out.drop_lit 8 (by omega) (by omega); rwa [if_pos hc8, show c - 8 = 0 by omega] at q)) (by simp; omega)).mono ?_
                 rintro e w7 ⟨v7, rfl, o7, hB7⟩
                 simp only [List.flatten_cons, List.flatten_nil, List.append_nil] at o7
                 obtain ⟨A7, n7, c7, rfl, _⟩ := o7.bts
                 replace o7 := Lib.hid (o7.lower (below_alloc (Below.refl _ _) _).size)
                 replace hB7 := below_step2 (below_alloc (Below.refl _ _) _) hB7
                 have Z3 := Lib.hid (ZD.out.below hB7)
                 have R3 := Lib.hid (RD.out.below hB7)
                 have B3 := Lib.hid (below_step2 BD.out hB7)
                 have b7 := blk_lt RD.out.blk
                 have b8 := BD.out.size
                 have c0 := R3.out.c0
                 have c1 := R3.out.c1
                 have c2 := R3.out.c2
                 have f0 := R3.out.f 0
                 have f1 := R3.out.f 1
                 have f2 := R3.out.f 2
                 clear hB7))
          go_wp2
          have q := blk_set (blk_set (blk_set R3.out.blk 0 (.int .i64 (256 * x0 + x1))) 1 (.int .i64 (256 * x2 + x3))) 2 (.slice A7 n7 c7)
          refine ret_cell2 rfl rfl q Try.underlying24 rfl (by kernel_rfl) (ParsePost.ok' hE.out V.out.1 V.out.2 ?_ ?_)
          · exact (((o7.out.far (p := ⟨w.heap.size, 0, none⟩) b7 _).far (p := ⟨w.heap.size, 1, none⟩) b7 _).far (p := ⟨w.heap.size, 2, none⟩) b7 _).lower b8
          · exact below_set (below_set (below_set B3.out (p := ⟨w.heap.size, 0, none⟩) (Nat.le_refl _) _) (p := ⟨w.heap.size, 1, none⟩) (Nat.le_refl _) _) (p := ⟨w.heap.size, 2, none⟩) (Nat.le_refl _) _
        · go_region_held3 (fun w' => w'.cell? ad = some (.int .u8 x0) ∧ w'.cell? ⟨ad.block, ad.off + 1, none⟩ = some (.int .u8 x1) ∧ w'.cell? ⟨ad.block, ad.off + 2, none⟩ = some (.int .u8 x2) ∧ w'.cell? ⟨ad.block, ad.off + 3, none⟩ = some (.int .u8 x3))
            ((refine Q4.cs ?_; first
              | exact (((Z3.out.set (p := ⟨w.heap.size, 0, none⟩) hlt _).set (p := ⟨w.heap.size, 1, none⟩) hlt _).set (p := ⟨w.heap.size, 2, none⟩) hlt _)
              | exact Z3.out
              | exact ZD.out.below (below_alloc (Below.refl _ _) _)
              | exact ZD.out))
            (first
              | (go_at_call 8
                 refine (ref01_Both _ _ _ [xs.drop 8] _ (Rws.one _ _ 22 rfl (by have q := HD.out.drop_lit 8 (by omega) (by omega); rwa [if_neg hc8] at q)) (by simp; omega)).mono ?_
                 rintro e w7 ⟨v7, rfl, o7, hB7⟩
                 simp only [List.flatten_cons, List.flatten_nil, List.append_nil] at o7
                 obtain ⟨A7, n7, c7, rfl, _⟩ := o7.bts
                 replace o7 := Lib.hid (o7.lower (below_alloc (Below.refl _ _) _).size)
                 replace hB7 := below_step2 (below_alloc (Below.refl _ _) _) hB7
                 have Z3 := Lib.hid (ZD.out.below hB7)
                 have R3 := Lib.hid (RD.out.below hB7)
                 have B3 := Lib.hid (below_step2 BD.out hB7)
                 have b7 := blk_lt RD.out.blk
                 have b8 := BD.out.size
                 have c0 := R3.out.c0
                 have c1 := R3.out.c1
                 have c2 := R3.out.c2
                 have f0 := R3.out.f 0
                 have f1 := R3.out.f 1
                 have f2 := R3.out.f 2
                 clear hB7))
          go_wp2
          have q := blk_set (blk_set (blk_set R3.out.blk 0 (.int .i64 (256 * x0 + x1))) 1 (.int .i64 (256 * x2 + x3))) 2 (.slice A7 n7 c7)
          refine ret_cell2 rfl rfl q Try.underlying24 rfl (by kernel_rfl) (ParsePost.ok' hE.out V.out.1 V.out.2 ?_ ?_)
          · exact (((o7.out.far (p := ⟨w.heap.size, 0, none⟩) b7 _).far (p := ⟨w.heap.size, 1, none⟩) b7 _).far (p := ⟨w.heap.size, 2, none⟩) b7 _).lower b8
          · exact below_set (below_set (below_set B3.out (p := ⟨w.heap.size, 0, none⟩) (Nat.le_refl _) _) (p := ⟨w.heap.size, 1, none⟩) (Nat.le_refl _) _) (p := ⟨w.heap.size, 2, none⟩) (Nat.le_refl _) _
      · have hE := Lib.hid (dgErr_sum xs (bytesOf s) (bytesOf d) hp' (by omega) hLn (.inr ⟨hno, hD⟩))
        have e9 : (dgSum xs (bytesOf s) (bytesOf d) != 65535) = true := bne_iff_ne.mpr hD
        clear hno hLn hD
        go_wp2
        have q := blk_set (blk_set (blk_set R.out.blk 0 (.int .i64 0)) 1 (.int .i64 0)) 2 (.slice none 0 0)
        refine ret_cell2 rfl rfl q Try.underlying24 rfl (by kernel_rfl) (ParsePost.err hE.out (by decide) ?_)
        exact below_set (below_set (below_set HB.out (p := ⟨w.heap.size, 0, none⟩) (Nat.le_refl _) _) (p := ⟨w.heap.size, 1, none⟩) (Nat.le_refl _) _) (p := ⟨w.heap.size, 2, none⟩) (Nat.le_refl _) _
  · have e6 : (x6 == 0) = false := beq_eq_false_iff_ne.mpr h6
    have hno : ¬ dgNone xs := fun q => h6 (hN.out.1 q).1
    clear h6
    go_wp2_with fail
    refine (ref05_Sum _ _ _ _ _ _ _ hs hd h0 hp (by omega)).mono ?_
    rintro e w3 ⟨rfl, hB3⟩
    clear c0 c1 c2 f0 f1 f2 a0 a1 a2 a3 a4 a5 a6 a7
    replace h0 := h0.below hB3
    replace R := Lib.hid (R.out.below hB3)
    replace HB := Lib.hid (below_step2 HB.out hB3)
    clear hB3
    have c0 := R.out.c0
    have c1 := R.out.c1
    have c2 := R.out.c2
    have f0 := R.out.f 0
    have f1 := R.out.f 1
    have f2 := R.out.f 2
    obtain ⟨ad', e', a0, aa⟩ := h0.lit (by omega)
    injection e' with e'
    subst e'
    have a1 := aa 1 (by omega) (by omega)
    have a2 := aa 2 (by omega) (by omega)
    have a3 := aa 3 (by omega) (by omega)
    have a4 := aa 4 (by omega) (by omega)
    have a5 := aa 5 (by omega) (by omega)
    have a6 := aa 6 (by omega) (by omega)
    have a7 := aa 7 (by omega) (by omega)
    clear aa
    by_cases hD : dgSum xs (bytesOf s) (bytesOf d) = 65535
    · have hE := Lib.hid (dgErr_ok xs (bytesOf s) (bytesOf d) hp' (by omega) hLn (by rintro (⟨q, _⟩ | ⟨_, q⟩); (exact hno q); exact q hD))
      rw [hD]
      clear hno hLn hD
      go_wp2_with fail
      have HD := Lib.hid (h0.below (below_drew (Below.refl _ _)))
      have RD := Lib.hid (R.out.below (below_drew (Below.refl _ _)))
      have BD := Lib.hid (below_drew HB.out)
      have i8 : (8 : Int) ≤ (n : Int) := by omega
      have i9 : (8 : Int) ≤ (c : Int) := by have := h0.le; omega
      have i7 := h0.le
      have j0 : (0 : Int) < (n : Int) := by omega
      have j4 : 0 < n := by omega
      have j1 : (1 : Int) < (n : Int) := by omega
      have j2 : (2 : Int) < (n : Int) := by omega
      have j3 : (3 : Int) < (n : Int) := by omega
      have b0 := byt_get h0.byt 0
      have b1 := byt_get h0.byt 1
      have b2 := byt_get h0.byt 2
      have b3 := byt_get h0.byt 3
      have V := Lib.hid (And.intro (show dgSrc xs = 256 * xs.getD 0 0 + xs.getD 1 0 from rfl) (show dgDst xs = 256 * xs.getD 2 0 + xs.getD 3 0 from rfl))
      have hmx := h0.max
      have ZD := Lib.hid ((⟨a0, a1, a2, a3⟩ : Q4 w3 ad (xs.getD 0 0) (xs.getD 1 0) (xs.getD 2 0) (xs.getD 3 0)).below (below_drew (Below.refl _ _)))
      clear c0 c1 c2 f0 f1 f2 a4 a5 a6 a7 a0 a1 a2 a3 h0 R HB
      generalize xs.getD 0 0 = x0 at b0 V ZD
      generalize xs.getD 1 0 = x1 at b1 V ZD
      generalize xs.getD 2 0 = x2 at b2 V ZD
      generalize xs.getD 3 0 = x3 at b3 V ZD
      have w0 : IntKind.i64.wrap x0 = x0 := IntWalk.i64_in _ (by omega)
      have w1 : IntKind.i64.wrap x1 = x1 := IntWalk.i64_in _ (by omega)
      have w2 : IntKind.i64.wrap x2 = x2 := IntWalk.i64_in _ (by omega)
      have w3 : IntKind.i64.wrap x3 = x3 := IntWalk.i64_in _ (by omega)
      have w4 : IntKind.i64.wrap (256 * x0) = 256 * x0 := IntWalk.i64_in _ (by omega)
      have w5 : IntKind.i64.wrap (256 * x2) = 256 * x2 := IntWalk.i64_in _ (by omega)
      have w6 : IntKind.i64.wrap (256 * x0 + x1) = 256 * x0 + x1 := IntWalk.i64_in _ (by omega)
      have w7 : IntKind.i64.wrap (256 * x2 + x3) = 256 * x2 + x3 := IntWalk.i64_in _ (by omega)
      by_cases hc8 : c = 8
      · go_region_held3 (fun w' => w'.cell? ad = some (.int .u8 x0) ∧ w'.cell? ⟨ad.block, ad.off + 1, none⟩ = some (.int .u8 x1) ∧ w'.cell? ⟨ad.block, ad.off + 2, none⟩ = some (.int .u8 x2) ∧ w'.cell? ⟨ad.block, ad.off + 3, none⟩ = some (.int .u8 x3))
          ((refine Q4.cs ?_; first
            | exact (((Z3.out.set (p := ⟨w.heap.size, 0, none⟩) hlt _).set (p := ⟨w.heap.size, 1, none⟩) hlt _).set (p := ⟨w.heap.size, 2, none⟩) hlt _)
            | exact Z3.out
            | exact ZD.out.below (below_alloc (Below.refl _ _) _)
            | exact ZD.out))
          (first
            | (go_at_call 8
               refine (ref01_Both _ _ _ [xs.drop 8] _ (Rws.one _ _ 22 rfl (by have q := HD.out.drop_lit 8 (by omega) (by omega); rwa [if_pos hc8, show c - 8 = 0 by omega] at q)) (by simp; omega)).mono ?_
               rintro e w7 ⟨v7, rfl, o7, hB7⟩
               simp only [List.flatten_cons, List.flatten_nil, List.append_nil] at o7
               obtain ⟨A7, n7, c7, rfl, _⟩ := o7.bts
               replace o7 := Lib.hid (o7.lower (below_alloc (Below.refl _ _) _).size)
               replace hB7 := below_step2 (below_alloc (Below.refl _ _) _) hB7
               have Z3 := Lib.hid (ZD.out.below hB7)
               have R3 := Lib.hid (RD.out.below hB7)
               have B3 := Lib.hid (below_step2 BD.out hB7)
               have b7 := blk_lt RD.out.blk
               have b8 := BD.out.size
               have c0 := R3.out.c0
               have c1 := R3.out.c1
               have c2 := R3.out.c2
               have f0 := R3.out.f 0
               have f1 := R3.out.f 1
               have f2 := R3.out.f 2
               clear hB7))
        go_wp2
        have q := blk_set (blk_set (blk_set R3.out.blk 0 (.int .i64 (256 * x0 + x1))) 1 (.int .i64 (256 * x2 + x3))) 2 (.slice A7 n7 c7)
        refine ret_cell2 rfl rfl q Try.underlying24 rfl (by kernel_rfl) (ParsePost.ok' hE.out V.out.1 V.out.2 ?_ ?_)
        · exact (((o7.out.far (p := ⟨w.heap.size, 0, none⟩) b7 _).far (p := ⟨w.heap.size, 1, none⟩) b7 _).far (p := ⟨w.heap.size, 2, none⟩) b7 _).lower b8
        · exact below_set (below_set (below_set B3.out (p := ⟨w.heap.size, 0, none⟩) (Nat.le_refl _) _) (p := ⟨w.heap.size, 1, none⟩) (Nat.le_refl _) _) (p := ⟨w.heap.size, 2, none⟩) (Nat.le_refl _) _
      · go_region_held3 (fun w' => w'.cell? ad = some (.int .u8 x0) ∧ w'.cell? ⟨ad.block, ad.off + 1, none⟩ = some (.int .u8 x1) ∧ w'.cell? ⟨ad.block, ad.off + 2, none⟩ = some (.int .u8 x2) ∧ w'.cell? ⟨ad.block, ad.off + 3, none⟩ = some (.int .u8 x3))
          ((refine Q4.cs ?_; first
            | exact (((Z3.out.set (p := ⟨w.heap.size, 0, none⟩) hlt _).set (p := ⟨w.heap.size, 1, none⟩) hlt _).set (p := ⟨w.heap.size, 2, none⟩) hlt _)
            | exact Z3.out
            | exact ZD.out.below (below_alloc (Below.refl _ _) _)
            | exact ZD.out))
          (first
            | (go_at_call 8
               refine (ref01_Both _ _ _ [xs.drop 8] _ (Rws.one _ _ 22 rfl (by have q := HD.out.drop_lit 8 (by omega) (by omega); rwa [if_neg hc8] at q)) (by simp; omega)).mono ?_
               rintro e w7 ⟨v7, rfl, o7, hB7⟩
               simp only [List.flatten_cons, List.flatten_nil, List.append_nil] at o7
               obtain ⟨A7, n7, c7, rfl, _⟩ := o7.bts
               replace o7 := Lib.hid (o7.lower (below_alloc (Below.refl _ _) _).size)
               replace hB7 := below_step2 (below_alloc (Below.refl _ _) _) hB7
               have Z3 := Lib.hid (ZD.out.below hB7)
               have R3 := Lib.hid (RD.out.below hB7)
               have B3 := Lib.hid (below_step2 BD.out hB7)
               have b7 := blk_lt RD.out.blk
               have b8 := BD.out.size
               have c0 := R3.out.c0
               have c1 := R3.out.c1
               have c2 := R3.out.c2
               have f0 := R3.out.f 0
               have f1 := R3.out.f 1
               have f2 := R3.out.f 2
               clear hB7))
        go_wp2
        have q := blk_set (blk_set (blk_set R3.out.blk 0 (.int .i64 (256 * x0 + x1))) 1 (.int .i64 (256 * x2 + x3))) 2 (.slice A7 n7 c7)
        refine ret_cell2 rfl rfl q Try.underlying24 rfl (by kernel_rfl) (ParsePost.ok' hE.out V.out.1 V.out.2 ?_ ?_)
        · exact (((o7.out.far (p := ⟨w.heap.size, 0, none⟩) b7 _).far (p := ⟨w.heap.size, 1, none⟩) b7 _).far (p := ⟨w.heap.size, 2, none⟩) b7 _).lower b8
        · exact below_set (below_set (below_set B3.out (p := ⟨w.heap.size, 0, none⟩) (Nat.le_refl _) _) (p := ⟨w.heap.size, 1, none⟩) (Nat.le_refl _) _) (p := ⟨w.heap.size, 2, none⟩) (Nat.le_refl _) _
    · have hE := Lib.hid (dgErr_sum xs (bytesOf s) (bytesOf d) hp' (by omega) hLn (.inr ⟨hno, hD⟩))
      have e9 : (dgSum xs (bytesOf s) (bytesOf d) != 65535) = true := bne_iff_ne.mpr hD
      clear hno hLn hD
      go_wp2
      have q := blk_set (blk_set (blk_set R.out.blk 0 (.int .i64 0)) 1 (.int .i64 0)) 2 (.slice none 0 0)
      refine ret_cell2 rfl rfl q Try.underlying24 rfl (by kernel_rfl) (ParsePost.err hE.out (by decide) ?_)
      exact below_set (below_set (below_set HB.out (p := ⟨w.heap.size, 0, none⟩) (Nat.le_refl _) _) (p := ⟨w.heap.size, 1, none⟩) (Nat.le_refl _) _) (p := ⟨w.heap.size, 2, none⟩) (Nat.le_refl _) _
end Go.Proofs.Ytbmlbomildfmcaa

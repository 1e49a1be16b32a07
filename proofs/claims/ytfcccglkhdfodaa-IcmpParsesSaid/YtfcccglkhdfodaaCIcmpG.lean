/- The reference's Parse of a message. Conditions: those that each lemma states. -/
import Derived.Test.YtfcccglkhdfodaaCIcmpE
import Derived.Test.YtfcccglkhdfodaaCIcmpF
namespace Go.Proofs.Ytfcccglkhdfodaa
open Go.RowKit Go.Proofs.YtfcccglkhdfodaaW.PrintWords




set_option maxHeartbeats 4000000 in
theorem ref07_Parse (A : Option Addr) (n k : Nat) (xs : List Int) (s d : ByteArray) (w : World) (hs : s.size ≤ 140737488351232) (hd : d.size ≤ 140737488351232) (h0 : Bts w A n k xs) :
    Calls Try.prog 16 #[.slice A n k, .string s, .string d] w (IcPost xs (bytesOf s) (bytesOf d) w) := by
  have hl := h0.len
  have ls := bytesOf_length s
  have ld := bytesOf_length d
  have hlt' : Hid (∀ ad : Addr, A = some ad → 0 < n → ad.block < w.heap.size) := Lib.hid (by
    intro ad e hn
    obtain ⟨ad', e', q⟩ := h0.some_ hn
    rw [e] at e'
    injection e' with e'
    subst e'
    have q0 := q 0 hn
    rw [Addr.add_zero'] at q0
    exact World.block_lt_of_cell? w _ q0)
  have R := Lib.hid (Mg.at w w.heap.size 0 0 0 none 0 0 rfl)
  have HB := Lib.hid (below_alloc (Below.refl w.heap.size w) (.cells #[.int .i64 0, .int .i64 0, .int .i64 0, .slice none 0 0] 24))
  replace h0 := h0.below HB.out
  go_enter Try.func16, Try.ntmps16
  go_wp2_with fail
  generalize w.alloc (.cells #[.int .i64 0, .int .i64 0, .int .i64 0, .slice none 0 0] 24) = w1 at h0 R HB ⊢
  refine (ref05_Pair _ _ _).mono ?_
  rintro e w' ⟨rfl, rfl⟩
  have c0 := R.out.c0
  have c1 := R.out.c1
  have c2 := R.out.c2
  have c3 := R.out.c3
  have f0 := R.out.f 0
  have f1 := R.out.f 1
  have f2 := R.out.f 2
  have f3 := R.out.f 3
  by_cases hp : pairOk s.size d.size
  case neg =>
    have hE := Lib.hid (icErr_pair xs (bytesOf s) (bytesOf d) (by rw [ls, ld]; exact hp))
    rw [decide_eq_false hp]
    go_wp2
    have q := blk_set (blk_set (blk_set (blk_set R.out.blk 0 (.int .i64 0)) 1 (.int .i64 0)) 2 (.int .i64 0)) 3 (.slice none 0 0)
    refine ret_cell2 rfl rfl q Try.underlying24 rfl (by kernel_rfl) (IcPost.err hE.out (by decide) ?_)
    exact below_set (below_set (below_set (below_set HB.out (p := ⟨w.heap.size, 0, none⟩) (Nat.le_refl _) _) (p := ⟨w.heap.size, 1, none⟩) (Nat.le_refl _) _) (p := ⟨w.heap.size, 2, none⟩) (Nat.le_refl _) _) (p := ⟨w.heap.size, 3, none⟩) (Nat.le_refl _) _
  case pos =>
  have hp' : pairOk (bytesOf s).length (bytesOf d).length := by rw [ls, ld]; exact hp
  rw [decide_eq_true hp]
  by_cases h8 : n < 8
  · have d8 : decide ((n : Int) < 8) = true := decide_eq_true (by omega)
    have hE := Lib.hid (icErr_short xs (bytesOf s) (bytesOf d) hp' (by omega))
    go_wp2
    have q := blk_set (blk_set (blk_set (blk_set R.out.blk 0 (.int .i64 0)) 1 (.int .i64 0)) 2 (.int .i64 0)) 3 (.slice none 0 0)
    refine ret_cell2 rfl rfl q Try.underlying24 rfl (by kernel_rfl) (IcPost.err hE.out (by decide) ?_)
    exact below_set (below_set (below_set (below_set HB.out (p := ⟨w.heap.size, 0, none⟩) (Nat.le_refl _) _) (p := ⟨w.heap.size, 1, none⟩) (Nat.le_refl _) _) (p := ⟨w.heap.size, 2, none⟩) (Nat.le_refl _) _) (p := ⟨w.heap.size, 3, none⟩) (Nat.le_refl _) _
  have d8 : decide ((n : Int) < 8) = false := decide_eq_false (by omega)
  by_cases h9 : 65535 < n
  · have d9 : decide ((65535 : Int) < (n : Int)) = true := decide_eq_true (by omega)
    have hE := Lib.hid (icErr_long xs (bytesOf s) (bytesOf d) hp' (by omega) (by omega))
    go_wp2
    have q := blk_set (blk_set (blk_set (blk_set R.out.blk 0 (.int .i64 0)) 1 (.int .i64 0)) 2 (.int .i64 0)) 3 (.slice none 0 0)
    refine ret_cell2 rfl rfl q Try.underlying24 rfl (by kernel_rfl) (IcPost.err hE.out (by decide) ?_)
    exact below_set (below_set (below_set (below_set HB.out (p := ⟨w.heap.size, 0, none⟩) (Nat.le_refl _) _) (p := ⟨w.heap.size, 1, none⟩) (Nat.le_refl _) _) (p := ⟨w.heap.size, 2, none⟩) (Nat.le_refl _) _) (p := ⟨w.heap.size, 3, none⟩) (Nat.le_refl _) _
  have d9 : decide ((65535 : Int) < (n : Int)) = false := decide_eq_false (by omega)
  clear c0 c1 c2 c3 f0 f1 f2 f3
  go_wp2_with fail
  refine (ref07_sum _ _ _ _ s d _ hs hd h0 hp (by omega)).mono ?_
  rintro e w3 ⟨rfl, hB3⟩
  replace R := Lib.hid (R.out.below hB3)
  replace h0 := h0.below hB3
  replace HB := Lib.hid (below_step2 HB.out hB3)
  clear hB3
  have c0 := R.out.c0
  have c1 := R.out.c1
  have c2 := R.out.c2
  have c3 := R.out.c3
  have f0 := R.out.f 0
  have f1 := R.out.f 1
  have f2 := R.out.f 2
  have f3 := R.out.f 3
  by_cases h10 : icSum xs (bytesOf s) (bytesOf d) = 65535
  case neg =>
    have d10 : (icSum xs (bytesOf s) (bytesOf d) != 65535) = true := bne_iff_ne.mpr h10
    have hE := Lib.hid (icErr_sum xs (bytesOf s) (bytesOf d) hp' (by omega) (by omega) h10)
    generalize icSum xs (bytesOf s) (bytesOf d) = Q at d10 ⊢
    clear h10
    go_wp2
    have q := blk_set (blk_set (blk_set (blk_set R.out.blk 0 (.int .i64 0)) 1 (.int .i64 0)) 2 (.int .i64 0)) 3 (.slice none 0 0)
    refine ret_cell2 rfl rfl q Try.underlying24 rfl (by kernel_rfl) (IcPost.err hE.out (by decide) ?_)
    exact below_set (below_set (below_set (below_set HB.out (p := ⟨w.heap.size, 0, none⟩) (Nat.le_refl _) _) (p := ⟨w.heap.size, 1, none⟩) (Nat.le_refl _) _) (p := ⟨w.heap.size, 2, none⟩) (Nat.le_refl _) _) (p := ⟨w.heap.size, 3, none⟩) (Nat.le_refl _) _
  case pos =>
  have hE := Lib.hid (icErr_ok xs (bytesOf s) (bytesOf d) hp' (by omega) (by omega) h10)
  rw [h10]
  clear h10 c0 c1 c2 c3 f0 f1 f2 f3
  have A1 : A.isSome = true := by obtain ⟨_, e, _⟩ := h0.some_ (by omega); rw [e]; rfl
  obtain ⟨ad, rfl⟩ := Option.isSome_iff_exists.1 A1
  clear A1
  have hlt : ad.block < w.heap.size := hlt'.out ad rfl (by omega)
  have i8 : (8 : Int) ≤ (n : Int) := by omega
  have i7 := h0.le
  have i9 : (8 : Int) ≤ (k : Int) := by omega
  have j0 : (0 : Int) < (n : Int) := by omega
  have jn : 0 < n := by omega
  have j1 : (1 : Int) < (n : Int) := by omega
  have j4 : (4 : Int) < (n : Int) := by omega
  have j5 : (5 : Int) < (n : Int) := by omega
  have j6 : (6 : Int) < (n : Int) := by omega
  have j7 : (7 : Int) < (n : Int) := by omega
  obtain ⟨ad', e', a0, aa⟩ := h0.lit (by omega)
  injection e' with e'
  subst e'
  have a1 := aa 1 (by omega) (by omega)
  have a4 := aa 4 (by omega) (by omega)
  have a5 := aa 5 (by omega) (by omega)
  have a6 := aa 6 (by omega) (by omega)
  have a7 := aa 7 (by omega) (by omega)
  have b0 := byt_get h0.byt 0
  have b1 := byt_get h0.byt 1
  have b4 := byt_get h0.byt 4
  have b5 := byt_get h0.byt 5
  have b6 := byt_get h0.byt 6
  have b7 := byt_get h0.byt 7
  have hR : Hid (icRest xs = 16777216 * xs.getD 4 0 + 65536 * xs.getD 5 0 + 256 * xs.getD 6 0 + xs.getD 7 0) := rfl
  generalize hx0 : xs.getD 0 0 = x0 at a0 b0
  generalize hx1 : xs.getD 1 0 = x1 at a1 b1
  generalize xs.getD 4 0 = x4 at a4 b4 hR
  generalize xs.getD 5 0 = x5 at a5 b5 hR
  generalize xs.getD 6 0 = x6 at a6 b6 hR
  generalize xs.getD 7 0 = x7 at a7 b7 hR
  replace hx0 := Lib.hid hx0
  replace hx1 := Lib.hid hx1
  have u4 : IntKind.i64.wrap x4 = x4 := IntWalk.i64_in _ (by omega)
  have u5 : IntKind.i64.wrap x5 = x5 := IntWalk.i64_in _ (by omega)
  have u6 : IntKind.i64.wrap x6 = x6 := IntWalk.i64_in _ (by omega)
  have u7 : IntKind.i64.wrap x7 = x7 := IntWalk.i64_in _ (by omega)
  have v4 : IntKind.i64.wrap (16777216 * x4) = 16777216 * x4 := IntWalk.i64_in _ (by omega)
  have v5 : IntKind.i64.wrap (65536 * x5) = 65536 * x5 := IntWalk.i64_in _ (by omega)
  have v6 : IntKind.i64.wrap (256 * x6) = 256 * x6 := IntWalk.i64_in _ (by omega)
  have t5 : IntKind.i64.wrap (16777216 * x4 + 65536 * x5) = 16777216 * x4 + 65536 * x5 := IntWalk.i64_in _ (by omega)
  have t6 : IntKind.i64.wrap (16777216 * x4 + 65536 * x5 + 256 * x6) = 16777216 * x4 + 65536 * x5 + 256 * x6 := IntWalk.i64_in _ (by omega)
  have t7 : IntKind.i64.wrap (16777216 * x4 + 65536 * x5 + 256 * x6 + x7) = icRest xs := by rw [hR.out]; exact IntWalk.i64_in _ (by omega)
  clear aa hR
  generalize hrr : icRest xs = rr at t7
  replace hrr := Lib.hid hrr
  go_wp2
  go_quiet (fail)
  clear u4 u5 u6 u7 v4 v5 v6 t5 t6 t7 b4 b5 b6 b7 a4 a5 a6 a7 j4 j5 j6 j7
  have ZD := Lib.hid (((⟨a0, a1⟩ : Q2 w3 ad x0 x1).below (pw_below_drewN (Below.refl _ _) nq)).below (below_drew (Below.refl _ _)))
  have HD := Lib.hid ((h0.drewN nq).below (below_drew (Below.refl _ _)))
  have RD := Lib.hid ((R.out.drewN nq).below (below_drew (Below.refl _ _)))
  have BD := Lib.hid (below_drew (pw_below_drewN HB.out nq))
  clear h0 R HB a0 a1
  generalize w3.drewN nq = w4 at ZD HD RD BD ⊢
  have e0 : IntKind.i64.wrap x0 = x0 := IntWalk.i64_in _ (by omega)
  have e1 : IntKind.i64.wrap x1 = x1 := IntWalk.i64_in _ (by omega)
  go_wp2
  by_cases hk8 : k = 8
  · go_region_held3 (fun w' => w'.cell? ad = some (.int .u8 x0) ∧ w'.cell? ⟨ad.block, ad.off + 1, none⟩ = some (.int .u8 x1))
      ((refine Q2.cs ?_; first
        | exact ((((Z3.out.set (p := ⟨w.heap.size, 0, none⟩) hlt _).set (p := ⟨w.heap.size, 1, none⟩) hlt _).set (p := ⟨w.heap.size, 2, none⟩) hlt _).set (p := ⟨w.heap.size, 3, none⟩) hlt _)
        | exact Z3.out
        | exact ZD.out.below (below_alloc (Below.refl _ _) _)
        | exact ZD.out))
      (first
        | (go_at_call 9
           refine (ref01_Both _ _ _ [xs.drop 8] _ (Rws.one _ _ 22 rfl (by have q := HD.out.drop_lit 8 (by omega) (by omega); rwa [if_pos hk8, show k - 8 = 0 by omega] at q)) (by simp; omega)).mono ?_
           rintro e w7 ⟨v7, rfl, o7, hB7⟩
           simp only [List.flatten_cons, List.flatten_nil, List.append_nil] at o7
           obtain ⟨A7, n7, c7, rfl, _⟩ := o7.bts
           replace o7 := Lib.hid (o7.lower (below_alloc (Below.refl _ _) _).size)
           replace hB7 := below_step2 (below_alloc (Below.refl _ _) _) hB7
           have Z3 := Lib.hid (ZD.out.below hB7)
           have R3 := Lib.hid (RD.out.below hB7)
           have b7 := blk_lt RD.out.blk
           have b8 := BD.out.size
           have c0 := R3.out.c0
           have c1 := R3.out.c1
           have c2 := R3.out.c2
           have c3 := R3.out.c3
           have f0 := R3.out.f 0
           have f1 := R3.out.f 1
           have f2 := R3.out.f 2
           have f3 := R3.out.f 3
           have B3 := Lib.hid (below_step2 BD.out hB7)
           clear hB7))
    go_wp2
    have q := blk_set (blk_set (blk_set (blk_set R3.out.blk 0 (.int .i64 x0)) 1 (.int .i64 x1)) 2 (.int .i64 rr)) 3 (.slice A7 n7 c7)
    refine ret_cell2 rfl rfl q Try.underlying24 rfl (by kernel_rfl) (IcPost.ok hE.out hx0.out hx1.out hrr.out ?_ ?_)
    · exact ((((o7.out.far (p := ⟨w.heap.size, 0, none⟩) b7 _).far (p := ⟨w.heap.size, 1, none⟩) b7 _).far (p := ⟨w.heap.size, 2, none⟩) b7 _).far (p := ⟨w.heap.size, 3, none⟩) b7 _).lower b8
    · exact below_set (below_set (below_set (below_set B3.out (p := ⟨w.heap.size, 0, none⟩) (Nat.le_refl _) _) (p := ⟨w.heap.size, 1, none⟩) (Nat.le_refl _) _) (p := ⟨w.heap.size, 2, none⟩) (Nat.le_refl _) _) (p := ⟨w.heap.size, 3, none⟩) (Nat.le_refl _) _
  · go_region_held3 (fun w' => w'.cell? ad = some (.int .u8 x0) ∧ w'.cell? ⟨ad.block, ad.off + 1, none⟩ = some (.int .u8 x1))
      ((refine Q2.cs ?_; first
        | exact ((((Z3.out.set (p := ⟨w.heap.size, 0, none⟩) hlt _).set (p := ⟨w.heap.size, 1, none⟩) hlt _).set (p := ⟨w.heap.size, 2, none⟩) hlt _).set (p := ⟨w.heap.size, 3, none⟩) hlt _)
        | exact Z3.out
        | exact ZD.out.below (below_alloc (Below.refl _ _) _)
        | exact ZD.out))
      (first
        | (go_at_call 9
           refine (ref01_Both _ _ _ [xs.drop 8] _ (Rws.one _ _ 22 rfl (by have q := HD.out.drop_lit 8 (by omega) (by omega); rwa [if_neg hk8] at q)) (by simp; omega)).mono ?_
           rintro e w7 ⟨v7, rfl, o7, hB7⟩
           simp only [List.flatten_cons, List.flatten_nil, List.append_nil] at o7
           obtain ⟨A7, n7, c7, rfl, _⟩ := o7.bts
           replace o7 := Lib.hid (o7.lower (below_alloc (Below.refl _ _) _).size)
           replace hB7 := below_step2 (below_alloc (Below.refl _ _) _) hB7
           have Z3 := Lib.hid (ZD.out.below hB7)
           have R3 := Lib.hid (RD.out.below hB7)
           have b7 := blk_lt RD.out.blk
           have b8 := BD.out.size
           have c0 := R3.out.c0
           have c1 := R3.out.c1
           have c2 := R3.out.c2
           have c3 := R3.out.c3
           have f0 := R3.out.f 0
           have f1 := R3.out.f 1
           have f2 := R3.out.f 2
           have f3 := R3.out.f 3
           have B3 := Lib.hid (below_step2 BD.out hB7)
           clear hB7))
    go_wp2
    have q := blk_set (blk_set (blk_set (blk_set R3.out.blk 0 (.int .i64 x0)) 1 (.int .i64 x1)) 2 (.int .i64 rr)) 3 (.slice A7 n7 c7)
    refine ret_cell2 rfl rfl q Try.underlying24 rfl (by kernel_rfl) (IcPost.ok hE.out hx0.out hx1.out hrr.out ?_ ?_)
    · exact ((((o7.out.far (p := ⟨w.heap.size, 0, none⟩) b7 _).far (p := ⟨w.heap.size, 1, none⟩) b7 _).far (p := ⟨w.heap.size, 2, none⟩) b7 _).far (p := ⟨w.heap.size, 3, none⟩) b7 _).lower b8
    · exact below_set (below_set (below_set (below_set B3.out (p := ⟨w.heap.size, 0, none⟩) (Nat.le_refl _) _) (p := ⟨w.heap.size, 1, none⟩) (Nat.le_refl _) _) (p := ⟨w.heap.size, 2, none⟩) (Nat.le_refl _) _) (p := ⟨w.heap.size, 3, none⟩) (Nat.le_refl _) _
end Go.Proofs.Ytfcccglkhdfodaa

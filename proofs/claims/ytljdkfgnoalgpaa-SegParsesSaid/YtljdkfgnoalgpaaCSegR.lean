/- The reference's Parse of a segment. Conditions: those that each lemma states. -/
import Derived.Test.YtljdkfgnoalgpaaCSegP
namespace Go.Proofs.Ytljdkfgnoalgpaa
open Go.RowKit Go.Proofs.YtljdkfgnoalgpaaW.PrintWords

set_option maxHeartbeats 1000000 in
theorem ref06_two (A : Option Addr) (n k : Nat) (xs : List Int) (a : Nat) (w : World) (h : Bts w A n k xs) (ha : a + 1 < n) (hm : a ≤ 1000) :
    Calls Try.prog 35 #[.slice A n k, .int .i64 a] w fun e w' => e = .returned (.int .i64 (two8 (xs.getD a 0) (xs.getD (a + 1) 0))) ∧ Below w.heap.size w w' := by
  obtain ⟨ad, rfl, aa⟩ := h.some_ (by omega)
  have q0 := aa a (by omega)
  have q1 := aa (a + 1) (by omega)
  have b0 := byt_get h.byt a
  have b1 := byt_get h.byt (a + 1)
  have hB := Lib.hid (Below.refl w.heap.size w)
  unfold two8
  generalize xs.getD a 0 = x at q0 b0 ⊢
  generalize xs.getD (a + 1) 0 = y at q1 b1 ⊢
  have u0 : IntKind.i64.wrap x = x := IntWalk.i64_in _ (by omega)
  have u1 : IntKind.i64.wrap y = y := IntWalk.i64_in _ (by omega)
  have u2 : IntKind.i64.wrap (256 * x) = 256 * x := IntWalk.i64_in _ (by omega)
  have u3 : IntKind.i64.wrap (256 * x + y) = 256 * x + y := IntWalk.i64_in _ (by omega)
  have u4 : IntKind.i64.wrap ((a : Int) + 1) = ((a + 1 : Nat) : Int) := IntWalk.i64_in _ (by omega)
  have i0 : (a : Int) < (n : Int) := by omega
  have i1 : ((a + 1 : Nat) : Int) < (n : Int) := by omega
  clear aa h b0 b1
  obtain ⟨p, hp⟩ : ∃ p, a + 1 = p := ⟨_, rfl⟩
  rw [hp] at u4 i1 q1
  clear hp
  go_enter Try.func35, Try.ntmps35
  go_wp2
  go_quiet (fail)
  go_wp2
  go_ret
  exact ⟨rfl, pw_below_drewN hB.out nq⟩
theorem ref06_four (A : Option Addr) (n k : Nat) (xs : List Int) (a : Nat) (w : World) (h : Bts w A n k xs) (ha : a + 3 < n) (hm : a ≤ 900) :
    Calls Try.prog 36 #[.slice A n k, .int .i64 a] w fun e w' => e = .returned (.int .i64 (four8 (xs.getD a 0) (xs.getD (a + 1) 0) (xs.getD (a + 2) 0) (xs.getD (a + 3) 0))) ∧ Below w.heap.size w w' := by
  have hB := Below.refl w.heap.size w
  have b0 := byt_get h.byt a
  have b1 := byt_get h.byt (a + 1)
  have b2 := byt_get h.byt (a + 2)
  have b3 := byt_get h.byt (a + 3)
  have u4 : IntKind.i64.wrap ((a : Int) + 2) = ((a + 2 : Nat) : Int) := IntWalk.i64_in _ (by omega)
  have hy : ∃ y, two8 (xs.getD a 0) (xs.getD (a + 1) 0) = y ∧ 0 ≤ y ∧ y ≤ 65535 := ⟨_, rfl, by unfold two8; omega, by unfold two8; omega⟩
  have hz : ∃ y, two8 (xs.getD (a + 2) 0) (xs.getD (a + 3) 0) = y ∧ 0 ≤ y ∧ y ≤ 65535 := ⟨_, rfl, by unfold two8; omega, by unfold two8; omega⟩
  have N0 := fun W hW => ref06_two A n k xs a W hW (by omega) (by omega)
  have N1 := fun W hW => ref06_two A n k xs (a + 2) W hW (by omega) (by omega)
  unfold four8
  obtain ⟨y, hy, y0, y1⟩ := hy
  obtain ⟨z, hz, z0, z1⟩ := hz
  simp only [hy] at N0
  rw [show a + 2 + 1 = a + 3 by omega] at N1
  simp only [hz] at N1
  rw [hy, hz]
  clear hy hz b0 b1 b2 b3
  obtain ⟨p, hp⟩ : ∃ p, a + 2 = p := ⟨_, rfl⟩
  rw [hp] at u4 N1
  clear hp
  have u1 : IntKind.i64.wrap (65536 * y) = 65536 * y := IntWalk.i64_in _ (by omega)
  have u2 : IntKind.i64.wrap (65536 * y + z) = 65536 * y + z := IntWalk.i64_in _ (by omega)
  go_enter Try.func36, Try.ntmps36
  go_wp2_with fail
  refine (N0 _ h).mono ?_
  rintro e w1 ⟨rfl, hB1⟩
  replace h := h.below hB1
  replace hB := below_step2 hB hB1
  clear hB1
  go_wp2_with fail
  refine (N1 _ h).mono ?_
  rintro e w2 ⟨rfl, hB2⟩
  replace hB := below_step2 hB hB2
  clear hB2
  go_wp2
  go_ret
  exact ⟨rfl, hB⟩

/-- What is kept while fields are read. -/
structure PP (w0 W : World) (ad : Addr) (n k : Nat) (xs : List Int) : Prop where
  R : Sb W w0.heap.size sgZ (strOfNums []) none 0 0
  Z : Bts W (some ad) n k xs
  B : Below w0.heap.size w0 W
theorem PP.step {w0 W V : World} {ad : Addr} {n k : Nat} {xs : List Int} (h : PP w0 W ad n k xs) (hb : Below W.heap.size W V) : PP w0 V ad n k xs := ⟨h.R.below hb, h.Z.below hb, below_step2 h.B hb⟩
theorem yz_cs {w : World} {ad : Addr} {n k : Nat} {xs : List Int} (h : Bts w (some ad) n k xs) (hn : 13 < n) {OV : Value} {so : ByteArray} {x13 : Int} (hx : xs.getD 13 0 = x13) (hO : ∀ W, Bts W (some ad) n k xs → (convert 22 9 OV).run Try.prog W = .ok (.string so) W) :
    w.cell? { block := ad.block, off := ad.off + 13 } = some (.int .u8 x13) ∧ (convert 22 9 OV).run Try.prog w = .ok (.string so) w := by
  obtain ⟨a, e, hc⟩ := h.some_ (by omega)
  injection e with e
  subst e
  exact ⟨by rw [← hx]; exact cell_add (hc 13 hn) (by omega), hO w h⟩

set_option maxHeartbeats 40000000 in
theorem ref06_Parse (A : Option Addr) (n k : Nat) (xs : List Int) (s d : ByteArray) (w : World) (hs : s.size ≤ 140737488351232) (hd : d.size ≤ 140737488351232) (h0 : Bts w A n k xs) :
    Calls Try.prog 19 #[.slice A n k, .string s, .string d] w (SgPost xs (bytesOf s) (bytesOf d) w) := by
  have hl := Lib.hid h0.len
  have ls := Lib.hid (bytesOf_length s)
  have ld := Lib.hid (bytesOf_length d)
  obtain ⟨W1, hW1⟩ : ∃ W1, w.alloc (.cells #[.int .i64 0, .int .i64 0, .int .i64 0, .int .i64 0, .int .i64 0, .int .i64 0, .int .i64 0, .string { data := #[] }, .slice none 0 0] 24) = W1 := ⟨_, rfl⟩
  have R : Hid (Sb W1 w.heap.size sgZ (strOfNums []) none 0 0) := Lib.hid (by rw [← hW1]; exact Sb.new w sgZ (strOfNums []) none 0 0)
  have HB : Hid (Below w.heap.size w W1) := Lib.hid (by rw [← hW1]; exact below_alloc (Below.refl w.heap.size w) _)
  have H0 := Lib.hid (h0.below HB.out)
  replace hW1 := Lib.hid hW1
  have hlt : Hid (∀ ad : Addr, A = some ad → 0 < n → ad.block < w.heap.size) := Lib.hid (fun ad e hn => by
    obtain ⟨ad', e', q⟩ := h0.some_ hn
    rw [e] at e'
    injection e' with e'
    subst e'
    have q0 := q 0 hn
    rw [Addr.add_zero'] at q0
    exact World.block_lt_of_cell? w _ q0)
  have hmx := h0.max
  go_enter Try.func19, Try.ntmps19
  go_wp2_with fail
  rw [hW1.out]
  refine (ref05_Pair _ _ _).mono ?_
  rintro e w' ⟨rfl, rfl⟩
  clear h0 hW1
  have f0 := R.out.f 0
  have f1 := R.out.f 1
  have f2 := R.out.f 2
  have f3 := R.out.f 3
  have f4 := R.out.f 4
  have f5 := R.out.f 5
  have f6 := R.out.f 6
  have f7 := R.out.f 7
  have f8 := R.out.f 8
  have c0 := R.out.c0
  have c1 := R.out.c1
  have c2 := R.out.c2
  have c3 := R.out.c3
  have c4 := R.out.c4
  have c5 := R.out.c5
  have c6 := R.out.c6
  have c7 := R.out.c7
  have c8 := R.out.c8
  by_cases hp : pairOk s.size d.size
  case neg =>
    have hE : Hid (sgPErr xs (bytesOf s) (bytesOf d) = 1) := Lib.hid (if_pos (by rw [ls.out, ld.out]; exact hp))
    rw [decide_eq_false hp]
    go_wp2
    have q := (R.out.set9 sgZ (strOfNums []) none 0 0).blk
    refine ret_cell2 rfl rfl q Try.underlying24 rfl (by kernel_rfl) (SgPost.err hE.out (by decide) ?_)
    exact below_set9 HB.out (Nat.le_refl _) sgZ (strOfNums []) (.slice none 0 0)
  case pos =>
  have hp' : pairOk (bytesOf s).length (bytesOf d).length := by rw [ls.out, ld.out]; exact hp
  have hPE : Hid (sgPErr xs (bytesOf s) (bytesOf d) = if xs.length < 20 then 8 else if xs.length < sgSize xs then 8 else if 65535 < xs.length then 2 else if sgSize xs < 20 ∨ xs.getD 12 0 % 16 ≠ 0 then 4 else if psSum 6 xs (bytesOf s) (bytesOf d) ≠ 65535 then 5 else 0) := Lib.hid (by
    unfold sgPErr; rw [if_neg (fun q => q hp')])
  rw [decide_eq_true hp]
  by_cases h20 : n < 20
  · have d1 : decide ((n : Int) < 20) = true := decide_eq_true (by omega)
    have hE : Hid (sgPErr xs (bytesOf s) (bytesOf d) = 8) := Lib.hid (by rw [hPE.out, if_pos (by rw [hl.out]; exact h20)])
    go_wp2
    have q := (R.out.set9 sgZ (strOfNums []) none 0 0).blk
    refine ret_cell2 rfl rfl q Try.underlying24 rfl (by kernel_rfl) (SgPost.err hE.out (by decide) ?_)
    exact below_set9 HB.out (Nat.le_refl _) sgZ (strOfNums []) (.slice none 0 0)
  have d1 : decide ((n : Int) < 20) = false := decide_eq_false (by omega)
  obtain ⟨ad, e1, aa⟩ := H0.out.some_ (by omega)
  subst e1
  replace hlt := Lib.hid (hlt.out ad rfl (by omega))
  have a12 := aa 12 (by omega)
  have b12 := byt_get H0.out.byt 12
  have hsd : sgSize xs = 4 * ((xs.getD 12 0).toNat / 16) := rfl
  obtain ⟨x12, hx12⟩ : ∃ x, xs.getD 12 0 = x := ⟨_, rfl⟩
  rw [hx12] at a12 b12 hsd
  obtain ⟨z, hz⟩ : ∃ z, sgSize xs = z := ⟨_, rfl⟩
  rw [hz] at hsd
  have t12 : Int.tdiv x12 16 = x12 / 16 := tdiv_pos _ _ (by omega)
  have tm12 : Int.tmod x12 16 = x12 % 16 := Int.tmod_eq_emod_of_nonneg (by omega)
  have v12 : IntKind.i64.wrap x12 = x12 := IntWalk.i64_in _ (by omega)
  have v12' : IntKind.i64.wrap (x12 / 16) = x12 / 16 := IntWalk.i64_in _ (by omega)
  have v12'' : IntKind.u8.wrap (x12 % 16) = x12 % 16 := by unfold IntKind.wrap; simp [IntKind.bits, IntKind.signed]; omega
  have hsz : x12 / 16 * 4 = (z : Int) := by omega
  have wz : IntKind.i64.wrap (x12 / 16 * 4) = (z : Int) := by rw [hsz]; exact IntWalk.i64_in _ (by omega)
  have ai12 : W1.cell? { block := ad.block, off := ad.off + 12 } = some (.int .u8 x12) := cell_add a12 (by omega)
  replace hx12 := Lib.hid hx12
  replace hz := Lib.hid hz
  replace aa := Lib.hid aa
  have i12 : (12 : Int) < (n : Int) := by omega
  clear hsd a12
  by_cases h3 : n < z
  · have d3 : decide ((n : Int) < (z : Int)) = true := decide_eq_true (by omega)
    have d3' : decide (n < z) = true := decide_eq_true h3
    have hE : Hid (sgPErr xs (bytesOf s) (bytesOf d) = 8) := Lib.hid (by rw [hPE.out, if_neg (by rw [hl.out]; exact h20), if_pos (by rw [hl.out, hz.out]; exact h3)])
    go_wp2
    have q := (R.out.set9 sgZ (strOfNums []) none 0 0).blk
    refine ret_cell2 rfl rfl q Try.underlying24 rfl (by kernel_rfl) (SgPost.err hE.out (by decide) ?_)
    exact below_set9 HB.out (Nat.le_refl _) sgZ (strOfNums []) (.slice none 0 0)
  have d3 : decide ((n : Int) < (z : Int)) = false := decide_eq_false (by omega)
  have d3' : decide (n < z) = false := decide_eq_false h3
  by_cases h4 : 65535 < n
  · have d4 : decide ((65535 : Int) < (n : Int)) = true := decide_eq_true (by omega)
    have d4' : decide (65535 < n) = true := decide_eq_true h4
    have hE : Hid (sgPErr xs (bytesOf s) (bytesOf d) = 2) := Lib.hid (by rw [hPE.out, if_neg (by rw [hl.out]; exact h20), if_neg (by rw [hl.out, hz.out]; exact h3), if_pos (by rw [hl.out]; exact h4)])
    go_wp2
    have q := (R.out.set9 sgZ (strOfNums []) none 0 0).blk
    refine ret_cell2 rfl rfl q Try.underlying24 rfl (by kernel_rfl) (SgPost.err hE.out (by decide) ?_)
    exact below_set9 HB.out (Nat.le_refl _) sgZ (strOfNums []) (.slice none 0 0)
  have d4 : decide ((65535 : Int) < (n : Int)) = false := decide_eq_false (by omega)
  have d4' : decide (65535 < n) = false := decide_eq_false h4
  by_cases h5 : z < 20
  · have d5 : decide ((z : Int) < 20) = true := decide_eq_true (by omega)
    have d5' : decide (z < 20) = true := decide_eq_true h5
    have hE : Hid (sgPErr xs (bytesOf s) (bytesOf d) = 4) := Lib.hid (by rw [hPE.out, if_neg (by rw [hl.out]; exact h20), if_neg (by rw [hl.out, hz.out]; exact h3), if_neg (by rw [hl.out]; exact h4), if_pos (.inl (by rw [hz.out]; exact h5))])
    go_wp2
    have q := (R.out.set9 sgZ (strOfNums []) none 0 0).blk
    refine ret_cell2 rfl rfl q Try.underlying24 rfl (by kernel_rfl) (SgPost.err hE.out (by decide) ?_)
    exact below_set9 HB.out (Nat.le_refl _) sgZ (strOfNums []) (.slice none 0 0)
  have d5 : decide ((z : Int) < 20) = false := decide_eq_false (by omega)
  have d5' : decide (z < 20) = false := decide_eq_false h5
  by_cases h6 : x12 % 16 = 0
  case neg =>
    have d6 : (x12 % 16 != 0) = true := bne_iff_ne.mpr h6
    have hE : Hid (sgPErr xs (bytesOf s) (bytesOf d) = 4) := Lib.hid (by rw [hPE.out, if_neg (by rw [hl.out]; exact h20), if_neg (by rw [hl.out, hz.out]; exact h3), if_neg (by rw [hl.out]; exact h4), if_pos (.inr (by rw [hx12.out]; exact h6))])
    go_wp2
    have q := (R.out.set9 sgZ (strOfNums []) none 0 0).blk
    refine ret_cell2 rfl rfl q Try.underlying24 rfl (by kernel_rfl) (SgPost.err hE.out (by decide) ?_)
    exact below_set9 HB.out (Nat.le_refl _) sgZ (strOfNums []) (.slice none 0 0)
  have d6 : (x12 % 16 != 0) = false := bne_eq_false_iff_eq.mpr h6
  go_wp2_with fail
  refine (ref05_Sum 6 s d _ _ _ _ W1 hs hd H0.out hp (by omega) (by decide) (by decide)).mono ?_
  rintro e w3 ⟨rfl, hB2⟩
  replace R := Lib.hid (R.out.below hB2)
  replace H0 := Lib.hid (H0.out.below hB2)
  replace HB := Lib.hid (below_step2 HB.out hB2)
  clear hB2
  clear f0 f1 f2 f3 f4 f5 f6 f7 f8 c0 c1 c2 c3 c4 c5 c6 c7 c8
  clear ai12 i12
  have f0 := R.out.f 0
  have f1 := R.out.f 1
  have f2 := R.out.f 2
  have f3 := R.out.f 3
  have f4 := R.out.f 4
  have f5 := R.out.f 5
  have f6 := R.out.f 6
  have f7 := R.out.f 7
  have f8 := R.out.f 8
  have c0 := R.out.c0
  have c1 := R.out.c1
  have c2 := R.out.c2
  have c3 := R.out.c3
  have c4 := R.out.c4
  have c5 := R.out.c5
  have c6 := R.out.c6
  have c7 := R.out.c7
  have c8 := R.out.c8
  have hPF : Hid (sgPErr xs (bytesOf s) (bytesOf d) = if psSum 6 xs (bytesOf s) (bytesOf d) ≠ 65535 then 5 else 0) := Lib.hid (by
    rw [hPE.out, if_neg (by rw [hl.out]; exact h20), if_neg (by rw [hl.out, hz.out]; exact h3), if_neg (by rw [hl.out]; exact h4), if_neg (fun q => by rw [hz.out, hx12.out] at q; rcases q with q | q; exact h5 q; exact q h6)])
  by_cases h10 : psSum 6 xs (bytesOf s) (bytesOf d) = 65535
  case neg =>
    have d10 : (psSum 6 xs (bytesOf s) (bytesOf d) != 65535) = true := bne_iff_ne.mpr h10
    have hE : Hid (sgPErr xs (bytesOf s) (bytesOf d) = 5) := Lib.hid (by rw [hPF.out, if_pos h10])
    generalize psSum 6 xs (bytesOf s) (bytesOf d) = Q at d10
    clear h10 hPF
    go_wp2
    have q := (R.out.set9 sgZ (strOfNums []) none 0 0).blk
    refine ret_cell2 rfl rfl q Try.underlying24 rfl (by kernel_rfl) (SgPost.err hE.out (by decide) ?_)
    exact below_set9 HB.out (Nat.le_refl _) sgZ (strOfNums []) (.slice none 0 0)
  case pos =>
  have hE : Hid (sgPErr xs (bytesOf s) (bytesOf d) = 0) := Lib.hid (by rw [hPF.out, if_neg (fun q => q h10)])
  rw [h10]
  clear h10 hPF hPE d1 d3 d3' d4 d4' d5 d5' d6 wz hsz t12 tm12 v12 v12' v12''
  obtain ⟨x13, hx13⟩ : ∃ x, xs.getD 13 0 = x := ⟨_, rfl⟩
  have b13 := byt_get H0.out.byt 13
  rw [hx13] at b13
  have w13 : IntKind.i64.wrap x13 = x13 := IntWalk.i64_in _ (by omega)
  replace hx13 := Lib.hid hx13
  obtain ⟨so, hso⟩ : ∃ so, strOfNums (sgOpt xs) = so := ⟨_, rfl⟩
  replace hso := Lib.hid hso
  have hsn : Hid (sgOpt xs = (xs.drop 20).take (z - 20)) := Lib.hid (by unfold sgOpt; rw [hz.out])
  have hsd : Hid (sgData xs = xs.drop z) := Lib.hid (by unfold sgData; rw [hz.out])
  have hsl : Hid ((List.flatten [sgData xs]).length ≤ 140737488355328 ↔ True) := Lib.hid ⟨fun _ => trivial, fun _ => by simp only [List.flatten_cons, List.flatten_nil, List.append_nil, sgData, List.length_drop, hl.out]; omega⟩
  have hn13 : 13 < n := by omega
  have i13 : (13 : Int) < (n : Int) := by omega
  have hne : Hid (∀ ad' : Addr, some ad = some ad' → ad'.block ≠ w.heap.size) := Lib.hid (fun ad' e => by injection e with e; subst e; have := hlt.out; omega)
  have hle := H0.out.le
  have P00 : Hid (PP w w3 ad n k xs) := Lib.hid ⟨R.out, H0.out, HB.out⟩
  have PD : Hid (PP w w3.drew ad n k xs) := Lib.hid ((⟨R.out, H0.out, HB.out⟩ : PP w w3 ad n k xs).step (below_drew (Below.refl _ _)))
  have hnum : ∀ a : Nat, a + 1 < 20 → ∃ y, Hid (two8 (xs.getD a 0) (xs.getD (a + 1) 0) = y) ∧ Hid (∀ W, Bts W (some ad) n k xs → Calls Try.prog 35 #[.slice (some ad) n k, .int .i64 a] W fun e w' => e = .returned (.int .i64 y) ∧ Below W.heap.size W w') :=
    fun a h1 => ⟨_, Lib.hid rfl, Lib.hid fun W hW => ref06_two (some ad) n k xs a W hW (by omega) (by omega)⟩
  have hnum4 : ∀ a : Nat, a + 3 < 20 → ∃ y, Hid (four8 (xs.getD a 0) (xs.getD (a + 1) 0) (xs.getD (a + 2) 0) (xs.getD (a + 3) 0) = y) ∧ Hid (∀ W, Bts W (some ad) n k xs → Calls Try.prog 36 #[.slice (some ad) n k, .int .i64 a] W fun e w' => e = .returned (.int .i64 y) ∧ Below W.heap.size W w') :=
    fun a h1 => ⟨_, Lib.hid rfl, Lib.hid fun W hW => ref06_four (some ad) n k xs a W hW (by omega) (by omega)⟩
  obtain ⟨y0, Y0, N0⟩ := hnum 0 (by decide)
  obtain ⟨y1, Y1, N1⟩ := hnum 2 (by decide)
  obtain ⟨y2, Y2, N2⟩ := hnum4 4 (by decide)
  obtain ⟨y3, Y3, N3⟩ := hnum4 8 (by decide)
  obtain ⟨y4, Y4, N4⟩ := hnum 14 (by decide)
  obtain ⟨y5, Y5, N5⟩ := hnum 18 (by decide)
  replace N0 : Hid (∀ W, Bts W (some ad) n k xs → Calls Try.prog 35 #[.slice (some ad) n k, .int .i64 0] W fun e w' => e = .returned (.int .i64 y0) ∧ Below W.heap.size W w') := N0
  replace N1 : Hid (∀ W, Bts W (some ad) n k xs → Calls Try.prog 35 #[.slice (some ad) n k, .int .i64 2] W fun e w' => e = .returned (.int .i64 y1) ∧ Below W.heap.size W w') := N1
  replace N2 : Hid (∀ W, Bts W (some ad) n k xs → Calls Try.prog 36 #[.slice (some ad) n k, .int .i64 4] W fun e w' => e = .returned (.int .i64 y2) ∧ Below W.heap.size W w') := N2
  replace N3 : Hid (∀ W, Bts W (some ad) n k xs → Calls Try.prog 36 #[.slice (some ad) n k, .int .i64 8] W fun e w' => e = .returned (.int .i64 y3) ∧ Below W.heap.size W w') := N3
  replace N4 : Hid (∀ W, Bts W (some ad) n k xs → Calls Try.prog 35 #[.slice (some ad) n k, .int .i64 14] W fun e w' => e = .returned (.int .i64 y4) ∧ Below W.heap.size W w') := N4
  replace N5 : Hid (∀ W, Bts W (some ad) n k xs → Calls Try.prog 35 #[.slice (some ad) n k, .int .i64 18] W fun e w' => e = .returned (.int .i64 y5) ∧ Below W.heap.size W w') := N5
  clear hnum hnum4
  have HS : Hid (sgOf xs = Sg.mk y0 y1 y2 y3 x13 y4 y5) := Lib.hid (by
    rw [← Y0.out, ← Y1.out, ← Y2.out, ← Y3.out, ← Y4.out, ← Y5.out, ← hx13.out]
    rfl)
  clear Y0 Y1 Y2 Y3 Y4 Y5
  have j20 : (20 : Int) ≤ (z : Int) := by omega
  have jzk : (z : Int) ≤ (k : Int) := by omega
  have jzn : (z : Int) ≤ (n : Int) := by omega
  have jz0 : (0 : Int) ≤ (z : Int) := by omega
  clear f0 f1 f2 f3 f4 f5 f6 f7 f8 c0 c1 c2 c3 c4 c5 c6 c7 c8
  clear R HB H0 hlt b12
  go_wp2
  by_cases hk : k = z
  case neg =>
    have hk20 : ¬ (k = 20) := by omega
    have hO : ∀ W, Bts W (some ad) n k xs → (convert 22 9 (.slice (some { block := ad.block, off := ad.off + 20 }) (z - 20) (k - 20))).run Try.prog W = .ok (.string so) W := fun W hW => by
      rw [← hso.out, hsn.out]
      exact Bts.run_string (P := Try.prog) (((hW.drop_some 20 (by omega) hk20).take (z - 20) (by omega))) 22 9 Try.underlying22 Try.underlying5 Try.underlying9
    replace hO := Lib.hid hO
    go_region_held3 (fun w' => w'.cell? { block := ad.block, off := ad.off + 13 } = some (.int .u8 x13) ∧ (convert 22 9 (.slice (some { block := ad.block, off := ad.off + 20 }) (z - 20) (k - 20))).run Try.prog w' = .ok (.string so) w')
      ((refine yz_cs (xs := xs) ?_ hn13 hx13.out hO.out; first | (with_reducible exact P7.out.Z) | exact P7.out.Z.set9 hne.out (Sg.mk y0 y1 y2 y3 x13 y4 y5) so (.slice A7 n7 k7) | (with_reducible exact P6.out.Z) | (with_reducible exact P6.out.Z.below (below_alloc (Below.refl _ _) _)) | (with_reducible exact P5.out.Z) | (with_reducible exact P5.out.Z.below (below_alloc (Below.refl _ _) _)) | (with_reducible exact P4.out.Z) | (with_reducible exact P4.out.Z.below (below_alloc (Below.refl _ _) _)) | (with_reducible exact P3.out.Z) | (with_reducible exact P3.out.Z.below (below_alloc (Below.refl _ _) _)) | (with_reducible exact P2.out.Z) | (with_reducible exact P2.out.Z.below (below_alloc (Below.refl _ _) _)) | (with_reducible exact P1.out.Z) | (with_reducible exact P1.out.Z.below (below_alloc (Below.refl _ _) _)) | (with_reducible exact PD.out.Z) | (with_reducible exact PD.out.Z.below (below_alloc (Below.refl _ _) _)) | exact (P00.out.step (below_drew (below_alloc (Below.refl _ _) _))).Z | exact P7.out.Z.set9 hne.out (Sg.mk y0 y1 y2 y3 x13 y4 y5) so (.slice A7 n7 k7)))
      (first
        | (go_at_call 9
           refine (ref01_Both _ _ _ [sgData xs] _ W6.out (hsl.out.2 trivial)).mono ?_
           rintro e w7 ⟨v7, rfl, o7, hB7⟩
           simp only [List.flatten_cons, List.flatten_nil, List.append_nil] at o7
           obtain ⟨A7, n7, k7, rfl, _⟩ := o7.bts
           have b7 := blk_lt P6.out.R.blk
           have b8 := P6.out.B.size
           replace o7 := Lib.hid o7
           have P7 := Lib.hid (P6.out.step hB7)
           have f0 := P7.out.R.f 0
           have f1 := P7.out.R.f 1
           have f2 := P7.out.R.f 2
           have f3 := P7.out.R.f 3
           have f4 := P7.out.R.f 4
           have f5 := P7.out.R.f 5
           have f6 := P7.out.R.f 6
           have f7 := P7.out.R.f 7
           have f8 := P7.out.R.f 8
           have c0 := P7.out.R.c0
           have c1 := P7.out.R.c1
           have c2 := P7.out.R.c2
           have c3 := P7.out.R.c3
           have c4 := P7.out.R.c4
           have c5 := P7.out.R.c5
           have c6 := P7.out.R.c6
           have c7 := P7.out.R.c7
           have c8 := P7.out.R.c8
           clear hB7)
        | (go_at_call 9
           refine (ref01_Both _ _ _ [sgData xs] _ (Rws.one _ _ 22 rfl (by rw [hsd.out]; exact P6.out.Z.drop_some z (by omega) hk)) (hsl.out.2 trivial)).mono ?_
           rintro e w7 ⟨v7, rfl, o7, hB7⟩
           simp only [List.flatten_cons, List.flatten_nil, List.append_nil] at o7
           obtain ⟨A7, n7, k7, rfl, _⟩ := o7.bts
           have b7 := blk_lt P6.out.R.blk
           have b8 := P6.out.B.size
           replace o7 := Lib.hid (o7.lower (below_alloc (Below.refl _ _) _).size)
           replace hB7 := below_step2 (below_alloc (Below.refl _ _) _) hB7
           have P7 := Lib.hid (P6.out.step hB7)
           have f0 := P7.out.R.f 0
           have f1 := P7.out.R.f 1
           have f2 := P7.out.R.f 2
           have f3 := P7.out.R.f 3
           have f4 := P7.out.R.f 4
           have f5 := P7.out.R.f 5
           have f6 := P7.out.R.f 6
           have f7 := P7.out.R.f 7
           have f8 := P7.out.R.f 8
           have c0 := P7.out.R.c0
           have c1 := P7.out.R.c1
           have c2 := P7.out.R.c2
           have c3 := P7.out.R.c3
           have c4 := P7.out.R.c4
           have c5 := P7.out.R.c5
           have c6 := P7.out.R.c6
           have c7 := P7.out.R.c7
           have c8 := P7.out.R.c8
           clear hB7)
        | (go_at_call 35
           with_reducible refine (N5.out _ P5.out.Z).mono ?_
           rintro e w6 ⟨rfl, hB6⟩
           have P6 := Lib.hid (P5.out.step hB6)
           (first | have W6 := Lib.hid (W5.out.below hB6) | skip)
           clear hB6)
        | (go_at_call 35
           refine (N5.out _ (P5.out.step (below_alloc (Below.refl _ _) _)).Z).mono ?_
           rintro e w6 ⟨rfl, hB6⟩
           have P6 := Lib.hid ((P5.out.step (below_alloc (Below.refl _ _) _)).step hB6)
           have W6 := Lib.hid ((Rws.one (xs := sgData xs) _ _ 22 rfl (by rw [hsd.out]; exact P5.out.Z.drop_some z (by omega) hk)).below hB6)
           clear hB6)
        | (go_at_call 35
           with_reducible refine (N4.out _ P4.out.Z).mono ?_
           rintro e w5 ⟨rfl, hB5⟩
           have P5 := Lib.hid (P4.out.step hB5)
           (first | have W5 := Lib.hid (W4.out.below hB5) | skip)
           clear hB5)
        | (go_at_call 35
           refine (N4.out _ (P4.out.step (below_alloc (Below.refl _ _) _)).Z).mono ?_
           rintro e w5 ⟨rfl, hB5⟩
           have P5 := Lib.hid ((P4.out.step (below_alloc (Below.refl _ _) _)).step hB5)
           have W5 := Lib.hid ((Rws.one (xs := sgData xs) _ _ 22 rfl (by rw [hsd.out]; exact P4.out.Z.drop_some z (by omega) hk)).below hB5)
           clear hB5)
        | (go_at_call 36
           with_reducible refine (N3.out _ P3.out.Z).mono ?_
           rintro e w4 ⟨rfl, hB4⟩
           have P4 := Lib.hid (P3.out.step hB4)
           (first | have W4 := Lib.hid (W3.out.below hB4) | skip)
           clear hB4)
        | (go_at_call 36
           refine (N3.out _ (P3.out.step (below_alloc (Below.refl _ _) _)).Z).mono ?_
           rintro e w4 ⟨rfl, hB4⟩
           have P4 := Lib.hid ((P3.out.step (below_alloc (Below.refl _ _) _)).step hB4)
           have W4 := Lib.hid ((Rws.one (xs := sgData xs) _ _ 22 rfl (by rw [hsd.out]; exact P3.out.Z.drop_some z (by omega) hk)).below hB4)
           clear hB4)
        | (go_at_call 36
           with_reducible refine (N2.out _ P2.out.Z).mono ?_
           rintro e w3 ⟨rfl, hB3⟩
           have P3 := Lib.hid (P2.out.step hB3)
           (first | have W3 := Lib.hid (W2.out.below hB3) | skip)
           clear hB3)
        | (go_at_call 36
           refine (N2.out _ (P2.out.step (below_alloc (Below.refl _ _) _)).Z).mono ?_
           rintro e w3 ⟨rfl, hB3⟩
           have P3 := Lib.hid ((P2.out.step (below_alloc (Below.refl _ _) _)).step hB3)
           have W3 := Lib.hid ((Rws.one (xs := sgData xs) _ _ 22 rfl (by rw [hsd.out]; exact P2.out.Z.drop_some z (by omega) hk)).below hB3)
           clear hB3)
        | (go_at_call 35
           with_reducible refine (N1.out _ P1.out.Z).mono ?_
           rintro e w2 ⟨rfl, hB2⟩
           have P2 := Lib.hid (P1.out.step hB2)
           (first | have W2 := Lib.hid (W1.out.below hB2) | skip)
           clear hB2)
        | (go_at_call 35
           refine (N1.out _ (P1.out.step (below_alloc (Below.refl _ _) _)).Z).mono ?_
           rintro e w2 ⟨rfl, hB2⟩
           have P2 := Lib.hid ((P1.out.step (below_alloc (Below.refl _ _) _)).step hB2)
           have W2 := Lib.hid ((Rws.one (xs := sgData xs) _ _ 22 rfl (by rw [hsd.out]; exact P1.out.Z.drop_some z (by omega) hk)).below hB2)
           clear hB2)
        | (go_at_call 35
           with_reducible refine (N0.out _ PD.out.Z).mono ?_
           rintro e w1 ⟨rfl, hB1⟩
           have P1 := Lib.hid (PD.out.step hB1)
           skip
           clear hB1)
        | (go_at_call 35
           refine (N0.out _ (PD.out.step (below_alloc (Below.refl _ _) _)).Z).mono ?_
           rintro e w1 ⟨rfl, hB1⟩
           have P1 := Lib.hid ((PD.out.step (below_alloc (Below.refl _ _) _)).step hB1)
           have W1 := Lib.hid ((Rws.one (xs := sgData xs) _ _ 22 rfl (by rw [hsd.out]; exact PD.out.Z.drop_some z (by omega) hk)).below hB1)
           clear hB1)
        | (go_at_call 35
           refine (N0.out _ (P00.out.step (below_drew (below_alloc (Below.refl _ _) _))).Z).mono ?_
           rintro e w1 ⟨rfl, hB1⟩
           have P1 := Lib.hid ((P00.out.step (below_drew (below_alloc (Below.refl _ _) _))).step hB1)
           have W1 := Lib.hid (((Rws.one (xs := sgData xs) _ _ 22 rfl (by rw [hsd.out]; exact P00.out.Z.drop_some z (by omega) hk)).below (below_drew (Below.refl _ _))).below hB1)
           clear hB1))
    all_goals
      go_wp2
      have q := (P7.out.R.set9 (Sg.mk y0 y1 y2 y3 x13 y4 y5) so A7 n7 k7).blk
      refine ret_cell2 rfl rfl q Try.underlying24 rfl (by kernel_rfl) (SgPost.ok hE.out HS.out hso.out ?_ ?_)
      · exact (o7.out.set9 b7 (Sg.mk y0 y1 y2 y3 x13 y4 y5) so (.slice A7 n7 k7)).lower b8
      · exact below_set9 P7.out.B (Nat.le_refl _) (Sg.mk y0 y1 y2 y3 x13 y4 y5) so (.slice A7 n7 k7)
  case pos =>
    subst hk
    obtain rfl : n = k := by omega
    have hd0 : Hid (sgData xs = []) := Lib.hid (by rw [hsd.out, List.drop_of_length_le (by rw [hl.out]; exact Nat.le_refl _)])
    by_cases hk20 : n = 20
    case neg =>
      have hO : ∀ W, Bts W (some ad) n n xs → (convert 22 9 (.slice (some { block := ad.block, off := ad.off + 20 }) (n - 20) (n - 20))).run Try.prog W = .ok (.string so) W := fun W hW => by
        rw [← hso.out, hsn.out]
        exact Bts.run_string (P := Try.prog) (((hW.drop_some 20 (by omega) hk20).take (n - 20) (by omega))) 22 9 Try.underlying22 Try.underlying5 Try.underlying9
      replace hO := Lib.hid hO
      go_region_held3 (fun w' => w'.cell? { block := ad.block, off := ad.off + 13 } = some (.int .u8 x13) ∧ (convert 22 9 (.slice (some { block := ad.block, off := ad.off + 20 }) (n - 20) (n - 20))).run Try.prog w' = .ok (.string so) w')
        ((refine yz_cs (xs := xs) ?_ hn13 hx13.out hO.out; first | (with_reducible exact P7.out.Z) | exact P7.out.Z.set9 hne.out (Sg.mk y0 y1 y2 y3 x13 y4 y5) so (.slice A7 n7 k7) | (with_reducible exact P6.out.Z) | (with_reducible exact P6.out.Z.below (below_alloc (Below.refl _ _) _)) | (with_reducible exact P5.out.Z) | (with_reducible exact P5.out.Z.below (below_alloc (Below.refl _ _) _)) | (with_reducible exact P4.out.Z) | (with_reducible exact P4.out.Z.below (below_alloc (Below.refl _ _) _)) | (with_reducible exact P3.out.Z) | (with_reducible exact P3.out.Z.below (below_alloc (Below.refl _ _) _)) | (with_reducible exact P2.out.Z) | (with_reducible exact P2.out.Z.below (below_alloc (Below.refl _ _) _)) | (with_reducible exact P1.out.Z) | (with_reducible exact P1.out.Z.below (below_alloc (Below.refl _ _) _)) | (with_reducible exact PD.out.Z) | (with_reducible exact PD.out.Z.below (below_alloc (Below.refl _ _) _)) | exact (P00.out.step (below_drew (below_alloc (Below.refl _ _) _))).Z | exact P7.out.Z.set9 hne.out (Sg.mk y0 y1 y2 y3 x13 y4 y5) so (.slice A7 n7 k7)))
        (first
          | (go_at_call 9
             refine (ref01_Both _ _ _ [sgData xs] _ W6.out (hsl.out.2 trivial)).mono ?_
             rintro e w7 ⟨v7, rfl, o7, hB7⟩
             simp only [List.flatten_cons, List.flatten_nil, List.append_nil] at o7
             obtain ⟨A7, n7, k7, rfl, _⟩ := o7.bts
             have b7 := blk_lt P6.out.R.blk
             have b8 := P6.out.B.size
             replace o7 := Lib.hid o7
             have P7 := Lib.hid (P6.out.step hB7)
             have f0 := P7.out.R.f 0
             have f1 := P7.out.R.f 1
             have f2 := P7.out.R.f 2
             have f3 := P7.out.R.f 3
             have f4 := P7.out.R.f 4
             have f5 := P7.out.R.f 5
             have f6 := P7.out.R.f 6
             have f7 := P7.out.R.f 7
             have f8 := P7.out.R.f 8
             have c0 := P7.out.R.c0
             have c1 := P7.out.R.c1
             have c2 := P7.out.R.c2
             have c3 := P7.out.R.c3
             have c4 := P7.out.R.c4
             have c5 := P7.out.R.c5
             have c6 := P7.out.R.c6
             have c7 := P7.out.R.c7
             have c8 := P7.out.R.c8
             clear hB7)
          | (go_at_call 9
             refine (ref01_Both _ _ _ [sgData xs] _ (Rws.one _ _ 22 rfl (by rw [hd0.out]; exact Bts.nil_ _ _ _ (by omega))) (hsl.out.2 trivial)).mono ?_
             rintro e w7 ⟨v7, rfl, o7, hB7⟩
             simp only [List.flatten_cons, List.flatten_nil, List.append_nil] at o7
             obtain ⟨A7, n7, k7, rfl, _⟩ := o7.bts
             have b7 := blk_lt P6.out.R.blk
             have b8 := P6.out.B.size
             replace o7 := Lib.hid (o7.lower (below_alloc (Below.refl _ _) _).size)
             replace hB7 := below_step2 (below_alloc (Below.refl _ _) _) hB7
             have P7 := Lib.hid (P6.out.step hB7)
             have f0 := P7.out.R.f 0
             have f1 := P7.out.R.f 1
             have f2 := P7.out.R.f 2
             have f3 := P7.out.R.f 3
             have f4 := P7.out.R.f 4
             have f5 := P7.out.R.f 5
             have f6 := P7.out.R.f 6
             have f7 := P7.out.R.f 7
             have f8 := P7.out.R.f 8
             have c0 := P7.out.R.c0
             have c1 := P7.out.R.c1
             have c2 := P7.out.R.c2
             have c3 := P7.out.R.c3
             have c4 := P7.out.R.c4
             have c5 := P7.out.R.c5
             have c6 := P7.out.R.c6
             have c7 := P7.out.R.c7
             have c8 := P7.out.R.c8
             clear hB7)
          | (go_at_call 35
             with_reducible refine (N5.out _ P5.out.Z).mono ?_
             rintro e w6 ⟨rfl, hB6⟩
             have P6 := Lib.hid (P5.out.step hB6)
             (first | have W6 := Lib.hid (W5.out.below hB6) | skip)
             clear hB6)
          | (go_at_call 35
             refine (N5.out _ (P5.out.step (below_alloc (Below.refl _ _) _)).Z).mono ?_
             rintro e w6 ⟨rfl, hB6⟩
             have P6 := Lib.hid ((P5.out.step (below_alloc (Below.refl _ _) _)).step hB6)
             have W6 := Lib.hid ((Rws.one (xs := sgData xs) _ _ 22 rfl (by rw [hd0.out]; exact Bts.nil_ _ _ _ (by omega))).below hB6)
             clear hB6)
          | (go_at_call 35
             with_reducible refine (N4.out _ P4.out.Z).mono ?_
             rintro e w5 ⟨rfl, hB5⟩
             have P5 := Lib.hid (P4.out.step hB5)
             (first | have W5 := Lib.hid (W4.out.below hB5) | skip)
             clear hB5)
          | (go_at_call 35
             refine (N4.out _ (P4.out.step (below_alloc (Below.refl _ _) _)).Z).mono ?_
             rintro e w5 ⟨rfl, hB5⟩
             have P5 := Lib.hid ((P4.out.step (below_alloc (Below.refl _ _) _)).step hB5)
             have W5 := Lib.hid ((Rws.one (xs := sgData xs) _ _ 22 rfl (by rw [hd0.out]; exact Bts.nil_ _ _ _ (by omega))).below hB5)
             clear hB5)
          | (go_at_call 36
             with_reducible refine (N3.out _ P3.out.Z).mono ?_
             rintro e w4 ⟨rfl, hB4⟩
             have P4 := Lib.hid (P3.out.step hB4)
             (first | have W4 := Lib.hid (W3.out.below hB4) | skip)
             clear hB4)
          | (go_at_call 36
             refine (N3.out _ (P3.out.step (below_alloc (Below.refl _ _) _)).Z).mono ?_
             rintro e w4 ⟨rfl, hB4⟩
             have P4 := Lib.hid ((P3.out.step (below_alloc (Below.refl _ _) _)).step hB4)
             have W4 := Lib.hid ((Rws.one (xs := sgData xs) _ _ 22 rfl (by rw [hd0.out]; exact Bts.nil_ _ _ _ (by omega))).below hB4)
             clear hB4)
          | (go_at_call 36
             with_reducible refine (N2.out _ P2.out.Z).mono ?_
             rintro e w3 ⟨rfl, hB3⟩
             have P3 := Lib.hid (P2.out.step hB3)
             (first | have W3 := Lib.hid (W2.out.below hB3) | skip)
             clear hB3)
          | (go_at_call 36
             refine (N2.out _ (P2.out.step (below_alloc (Below.refl _ _) _)).Z).mono ?_
             rintro e w3 ⟨rfl, hB3⟩
             have P3 := Lib.hid ((P2.out.step (below_alloc (Below.refl _ _) _)).step hB3)
             have W3 := Lib.hid ((Rws.one (xs := sgData xs) _ _ 22 rfl (by rw [hd0.out]; exact Bts.nil_ _ _ _ (by omega))).below hB3)
             clear hB3)
          | (go_at_call 35
             with_reducible refine (N1.out _ P1.out.Z).mono ?_
             rintro e w2 ⟨rfl, hB2⟩
             have P2 := Lib.hid (P1.out.step hB2)
             (first | have W2 := Lib.hid (W1.out.below hB2) | skip)
             clear hB2)
          | (go_at_call 35
             refine (N1.out _ (P1.out.step (below_alloc (Below.refl _ _) _)).Z).mono ?_
             rintro e w2 ⟨rfl, hB2⟩
             have P2 := Lib.hid ((P1.out.step (below_alloc (Below.refl _ _) _)).step hB2)
             have W2 := Lib.hid ((Rws.one (xs := sgData xs) _ _ 22 rfl (by rw [hd0.out]; exact Bts.nil_ _ _ _ (by omega))).below hB2)
             clear hB2)
          | (go_at_call 35
             with_reducible refine (N0.out _ PD.out.Z).mono ?_
             rintro e w1 ⟨rfl, hB1⟩
             have P1 := Lib.hid (PD.out.step hB1)
             skip
             clear hB1)
          | (go_at_call 35
             refine (N0.out _ (PD.out.step (below_alloc (Below.refl _ _) _)).Z).mono ?_
             rintro e w1 ⟨rfl, hB1⟩
             have P1 := Lib.hid ((PD.out.step (below_alloc (Below.refl _ _) _)).step hB1)
             have W1 := Lib.hid ((Rws.one (xs := sgData xs) _ _ 22 rfl (by rw [hd0.out]; exact Bts.nil_ _ _ _ (by omega))).below hB1)
             clear hB1)
          | (go_at_call 35
             refine (N0.out _ (P00.out.step (below_drew (below_alloc (Below.refl _ _) _))).Z).mono ?_
             rintro e w1 ⟨rfl, hB1⟩
             have P1 := Lib.hid ((P00.out.step (below_drew (below_alloc (Below.refl _ _) _))).step hB1)
             have W1 := Lib.hid (((Rws.one (xs := sgData xs) _ _ 22 rfl (by rw [hd0.out]; exact Bts.nil_ _ _ _ (by omega))).below (below_drew (Below.refl _ _))).below hB1)
             clear hB1))
      all_goals
        go_wp2
        have q := (P7.out.R.set9 (Sg.mk y0 y1 y2 y3 x13 y4 y5) so A7 n7 k7).blk
        refine ret_cell2 rfl rfl q Try.underlying24 rfl (by kernel_rfl) (SgPost.ok hE.out HS.out hso.out ?_ ?_)
        · exact (o7.out.set9 b7 (Sg.mk y0 y1 y2 y3 x13 y4 y5) so (.slice A7 n7 k7)).lower b8
        · exact below_set9 P7.out.B (Nat.le_refl _) (Sg.mk y0 y1 y2 y3 x13 y4 y5) so (.slice A7 n7 k7)
    case pos =>
      subst hk20
      have hO : ∀ W, Bts W (some ad) 20 20 xs → (convert 22 9 (.slice (some ad) 0 0)).run Try.prog W = .ok (.string so) W := fun W hW => by
        rw [← hso.out, hsn.out]
        exact Bts.run_string (P := Try.prog) ((show Bts W (some ad) 0 0 ((xs.drop 20).take (20 - 20)) from Bts.nil_ _ _ _ (by omega))) 22 9 Try.underlying22 Try.underlying5 Try.underlying9
      replace hO := Lib.hid hO
      go_region_held3 (fun w' => w'.cell? { block := ad.block, off := ad.off + 13 } = some (.int .u8 x13) ∧ (convert 22 9 (.slice (some ad) 0 0)).run Try.prog w' = .ok (.string so) w')
        ((refine yz_cs (xs := xs) ?_ hn13 hx13.out hO.out; first | (with_reducible exact P7.out.Z) | exact P7.out.Z.set9 hne.out (Sg.mk y0 y1 y2 y3 x13 y4 y5) so (.slice A7 n7 k7) | (with_reducible exact P6.out.Z) | (with_reducible exact P6.out.Z.below (below_alloc (Below.refl _ _) _)) | (with_reducible exact P5.out.Z) | (with_reducible exact P5.out.Z.below (below_alloc (Below.refl _ _) _)) | (with_reducible exact P4.out.Z) | (with_reducible exact P4.out.Z.below (below_alloc (Below.refl _ _) _)) | (with_reducible exact P3.out.Z) | (with_reducible exact P3.out.Z.below (below_alloc (Below.refl _ _) _)) | (with_reducible exact P2.out.Z) | (with_reducible exact P2.out.Z.below (below_alloc (Below.refl _ _) _)) | (with_reducible exact P1.out.Z) | (with_reducible exact P1.out.Z.below (below_alloc (Below.refl _ _) _)) | (with_reducible exact PD.out.Z) | (with_reducible exact PD.out.Z.below (below_alloc (Below.refl _ _) _)) | exact (P00.out.step (below_drew (below_alloc (Below.refl _ _) _))).Z | exact P7.out.Z.set9 hne.out (Sg.mk y0 y1 y2 y3 x13 y4 y5) so (.slice A7 n7 k7)))
        (first
          | (go_at_call 9
             refine (ref01_Both _ _ _ [sgData xs] _ W6.out (hsl.out.2 trivial)).mono ?_
             rintro e w7 ⟨v7, rfl, o7, hB7⟩
             simp only [List.flatten_cons, List.flatten_nil, List.append_nil] at o7
             obtain ⟨A7, n7, k7, rfl, _⟩ := o7.bts
             have b7 := blk_lt P6.out.R.blk
             have b8 := P6.out.B.size
             replace o7 := Lib.hid o7
             have P7 := Lib.hid (P6.out.step hB7)
             have f0 := P7.out.R.f 0
             have f1 := P7.out.R.f 1
             have f2 := P7.out.R.f 2
             have f3 := P7.out.R.f 3
             have f4 := P7.out.R.f 4
             have f5 := P7.out.R.f 5
             have f6 := P7.out.R.f 6
             have f7 := P7.out.R.f 7
             have f8 := P7.out.R.f 8
             have c0 := P7.out.R.c0
             have c1 := P7.out.R.c1
             have c2 := P7.out.R.c2
             have c3 := P7.out.R.c3
             have c4 := P7.out.R.c4
             have c5 := P7.out.R.c5
             have c6 := P7.out.R.c6
             have c7 := P7.out.R.c7
             have c8 := P7.out.R.c8
             clear hB7)
          | (go_at_call 9
             refine (ref01_Both _ _ _ [sgData xs] _ (Rws.one _ _ 22 rfl (by rw [hd0.out]; exact Bts.nil_ _ _ _ (by omega))) (hsl.out.2 trivial)).mono ?_
             rintro e w7 ⟨v7, rfl, o7, hB7⟩
             simp only [List.flatten_cons, List.flatten_nil, List.append_nil] at o7
             obtain ⟨A7, n7, k7, rfl, _⟩ := o7.bts
             have b7 := blk_lt P6.out.R.blk
             have b8 := P6.out.B.size
             replace o7 := Lib.hid (o7.lower (below_alloc (Below.refl _ _) _).size)
             replace hB7 := below_step2 (below_alloc (Below.refl _ _) _) hB7
             have P7 := Lib.hid (P6.out.step hB7)
             have f0 := P7.out.R.f 0
             have f1 := P7.out.R.f 1
             have f2 := P7.out.R.f 2
             have f3 := P7.out.R.f 3
             have f4 := P7.out.R.f 4
             have f5 := P7.out.R.f 5
             have f6 := P7.out.R.f 6
             have f7 := P7.out.R.f 7
             have f8 := P7.out.R.f 8
             have c0 := P7.out.R.c0
             have c1 := P7.out.R.c1
             have c2 := P7.out.R.c2
             have c3 := P7.out.R.c3
             have c4 := P7.out.R.c4
             have c5 := P7.out.R.c5
             have c6 := P7.out.R.c6
             have c7 := P7.out.R.c7
             have c8 := P7.out.R.c8
             clear hB7)
          | (go_at_call 35
             with_reducible refine (N5.out _ P5.out.Z).mono ?_
             rintro e w6 ⟨rfl, hB6⟩
             have P6 := Lib.hid (P5.out.step hB6)
             (first | have W6 := Lib.hid (W5.out.below hB6) | skip)
             clear hB6)
          | (go_at_call 35
             refine (N5.out _ (P5.out.step (below_alloc (Below.refl _ _) _)).Z).mono ?_
             rintro e w6 ⟨rfl, hB6⟩
             have P6 := Lib.hid ((P5.out.step (below_alloc (Below.refl _ _) _)).step hB6)
             have W6 := Lib.hid ((Rws.one (xs := sgData xs) _ _ 22 rfl (by rw [hd0.out]; exact Bts.nil_ _ _ _ (by omega))).below hB6)
             clear hB6)
          | (go_at_call 35
             with_reducible refine (N4.out _ P4.out.Z).mono ?_
             rintro e w5 ⟨rfl, hB5⟩
             have P5 := Lib.hid (P4.out.step hB5)
             (first | have W5 := Lib.hid (W4.out.below hB5) | skip)
             clear hB5)
          | (go_at_call 35
             refine (N4.out _ (P4.out.step (below_alloc (Below.refl _ _) _)).Z).mono ?_
             rintro e w5 ⟨rfl, hB5⟩
             have P5 := Lib.hid ((P4.out.step (below_alloc (Below.refl _ _) _)).step hB5)
             have W5 := Lib.hid ((Rws.one (xs := sgData xs) _ _ 22 rfl (by rw [hd0.out]; exact Bts.nil_ _ _ _ (by omega))).below hB5)
             clear hB5)
          | (go_at_call 36
             with_reducible refine (N3.out _ P3.out.Z).mono ?_
             rintro e w4 ⟨rfl, hB4⟩
             have P4 := Lib.hid (P3.out.step hB4)
             (first | have W4 := Lib.hid (W3.out.below hB4) | skip)
             clear hB4)
          | (go_at_call 36
             refine (N3.out _ (P3.out.step (below_alloc (Below.refl _ _) _)).Z).mono ?_
             rintro e w4 ⟨rfl, hB4⟩
             have P4 := Lib.hid ((P3.out.step (below_alloc (Below.refl _ _) _)).step hB4)
             have W4 := Lib.hid ((Rws.one (xs := sgData xs) _ _ 22 rfl (by rw [hd0.out]; exact Bts.nil_ _ _ _ (by omega))).below hB4)
             clear hB4)
          | (go_at_call 36
             with_reducible refine (N2.out _ P2.out.Z).mono ?_
             rintro e w3 ⟨rfl, hB3⟩
             have P3 := Lib.hid (P2.out.step hB3)
             (first | have W3 := Lib.hid (W2.out.below hB3) | skip)
             clear hB3)
          | (go_at_call 36
             refine (N2.out _ (P2.out.step (below_alloc (Below.refl _ _) _)).Z).mono ?_
             rintro e w3 ⟨rfl, hB3⟩
             have P3 := Lib.hid ((P2.out.step (below_alloc (Below.refl _ _) _)).step hB3)
             have W3 := Lib.hid ((Rws.one (xs := sgData xs) _ _ 22 rfl (by rw [hd0.out]; exact Bts.nil_ _ _ _ (by omega))).below hB3)
             clear hB3)
          | (go_at_call 35
             with_reducible refine (N1.out _ P1.out.Z).mono ?_
             rintro e w2 ⟨rfl, hB2⟩
             have P2 := Lib.hid (P1.out.step hB2)
             (first | have W2 := Lib.hid (W1.out.below hB2) | skip)
             clear hB2)
          | (go_at_call 35
             refine (N1.out _ (P1.out.step (below_alloc (Below.refl _ _) _)).Z).mono ?_
             rintro e w2 ⟨rfl, hB2⟩
             have P2 := Lib.hid ((P1.out.step (below_alloc (Below.refl _ _) _)).step hB2)
             have W2 := Lib.hid ((Rws.one (xs := sgData xs) _ _ 22 rfl (by rw [hd0.out]; exact Bts.nil_ _ _ _ (by omega))).below hB2)
             clear hB2)
          | (go_at_call 35
             with_reducible refine (N0.out _ PD.out.Z).mono ?_
             rintro e w1 ⟨rfl, hB1⟩
             have P1 := Lib.hid (PD.out.step hB1)
             skip
             clear hB1)
          | (go_at_call 35
             refine (N0.out _ (PD.out.step (below_alloc (Below.refl _ _) _)).Z).mono ?_
             rintro e w1 ⟨rfl, hB1⟩
             have P1 := Lib.hid ((PD.out.step (below_alloc (Below.refl _ _) _)).step hB1)
             have W1 := Lib.hid ((Rws.one (xs := sgData xs) _ _ 22 rfl (by rw [hd0.out]; exact Bts.nil_ _ _ _ (by omega))).below hB1)
             clear hB1)
          | (go_at_call 35
             refine (N0.out _ (P00.out.step (below_drew (below_alloc (Below.refl _ _) _))).Z).mono ?_
             rintro e w1 ⟨rfl, hB1⟩
             have P1 := Lib.hid ((P00.out.step (below_drew (below_alloc (Below.refl _ _) _))).step hB1)
             have W1 := Lib.hid (((Rws.one (xs := sgData xs) _ _ 22 rfl (by rw [hd0.out]; exact Bts.nil_ _ _ _ (by omega))).below (below_drew (Below.refl _ _))).below hB1)
             clear hB1))
      all_goals
        go_wp2
        have q := (P7.out.R.set9 (Sg.mk y0 y1 y2 y3 x13 y4 y5) so A7 n7 k7).blk
        refine ret_cell2 rfl rfl q Try.underlying24 rfl (by kernel_rfl) (SgPost.ok hE.out HS.out hso.out ?_ ?_)
        · exact (o7.out.set9 b7 (Sg.mk y0 y1 y2 y3 x13 y4 y5) so (.slice A7 n7 k7)).lower b8
        · exact below_set9 P7.out.B (Nat.le_refl _) (Sg.mk y0 y1 y2 y3 x13 y4 y5) so (.slice A7 n7 k7)
end Go.Proofs.Ytljdkfgnoalgpaa

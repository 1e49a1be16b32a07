/- Products of bytes are a ring's; unlike blocks have unlike answers; a key's keys begin with itself. Conditions: those that each lemma states. -/
import Derived.Test.YtgkphopdmkfcgaaAesE
namespace Go.Proofs.Ytgkphopdmkfcgaa

instance : Std.Commutative bx := ⟨bx_comm⟩
instance : Std.Associative bx := ⟨bx_assoc⟩
/-- Bytes. -/
def By (x : Int) : Prop := 0 ≤ x ∧ x ≤ 255
theorem by_bx {a b : Int} (ha : By a) (hb : By b) : By (bx a b) := bx_byte ha hb
/-- A map that takes bytes to bytes, part by part. -/
structure Lin (f : Int → Int) : Prop where
  byte : ∀ x, By x → By (f x)
  add : ∀ x y, By x → By y → f (bx x y) = bx (f x) (f y)
theorem part_all : ∀ n : Nat, n < 8 → ∀ x : Nat, x < 256 → 2 ^ n ≤ x → x < 2 ^ (n + 1) → bx ((x - 2 ^ n : Nat) : Int) ((2 ^ n : Nat) : Int) = (x : Int) := by decide +kernel
theorem lin_ext {f g : Int → Int} (hf : Lin f) (hg : Lin g) (h : ∀ i : Nat, i < 8 → f ((2 ^ i : Nat) : Int) = g ((2 ^ i : Nat) : Int)) : ∀ x, By x → f x = g x := by
  have zero : ∀ {f : Int → Int}, Lin f → f 0 = 0 := fun {f} hf => by
    have := hf.add 0 0 ⟨by decide, by decide⟩ ⟨by decide, by decide⟩
    rw [bx_self (f 0)] at this
    exact this
  have step : ∀ n : Nat, n ≤ 8 → ∀ x : Nat, x < 2 ^ n → f (x : Int) = g (x : Int) := by
    intro n
    induction n with
    | zero =>
      intro _ x hx
      obtain rfl : x = 0 := by omega
      show f 0 = g 0
      rw [zero hf, zero hg]
    | succ n ih =>
      intro hn x hx
      by_cases hl : x < 2 ^ n
      · exact ih (by omega) x hl
      · have hp : 2 ^ (n + 1) ≤ 2 ^ 8 := Nat.pow_le_pow_right (by decide) hn
        have h2 : 2 ^ (n + 1) = 2 ^ n + 2 ^ n := by rw [Nat.pow_succ]; omega
        have e := part_all n (by omega) x (by omega) (by omega) hx
        rw [← e, hf.add _ _ ⟨by omega, by omega⟩ ⟨by omega, by omega⟩, hg.add _ _ ⟨by omega, by omega⟩ ⟨by omega, by omega⟩, ih (by omega) _ (by omega), h n (by omega)]
  intro x hx
  obtain ⟨n, rfl⟩ := Int.eq_ofNat_of_zero_le hx.1
  exact step 8 (Nat.le_refl _) n (by have := hx.2; omega)
theorem dbl_add_all : ∀ i : Nat, i < 256 → ∀ j : Nat, j < 8 → dbl (bx (i : Int) ((2 ^ j : Nat) : Int)) = bx (dbl (i : Int)) (dbl ((2 ^ j : Nat) : Int)) := by decide +kernel
theorem bx_half (a b : Int) (ha : 0 ≤ a) (hb : 0 ≤ b) : bx a b / 2 = bx (a / 2) (b / 2) ∧ bx a b % 2 = bx (a % 2) (b % 2) := by
  obtain ⟨x, rfl⟩ := Int.eq_ofNat_of_zero_le ha
  obtain ⟨y, rfl⟩ := Int.eq_ofNat_of_zero_le hb
  have e1 : bx (x : Int) y = ((x ^^^ y : Nat) : Int) := rfl
  have e2 : bx ((x : Int) / 2) ((y : Int) / 2) = ((x / 2 ^^^ y / 2 : Nat) : Int) := rfl
  have e3 : bx ((x : Int) % 2) ((y : Int) % 2) = ((x % 2 ^^^ y % 2 : Nat) : Int) := rfl
  rw [e1, e2, e3, ← Nat.xor_div_two, ← Nat.xor_mod_two_pow (n := 1)]
  omega
theorem dbl_add2 {a : Int} (ha : By a) (j : Nat) (hj : j < 8) : dbl (bx a ((2 ^ j : Nat) : Int)) = bx (dbl a) (dbl ((2 ^ j : Nat) : Int)) := by
  obtain ⟨x, rfl⟩ := Int.eq_ofNat_of_zero_le ha.1
  exact dbl_add_all x (by have := ha.2; omega) j hj
theorem by_pow (j : Nat) (hj : j < 8) : By ((2 ^ j : Nat) : Int) := by
  have : 2 ^ j ≤ 2 ^ 7 := Nat.pow_le_pow_right (by decide) (by omega)
  generalize 2 ^ j = p at this
  exact ⟨by omega, by omega⟩
theorem dbl_add (a b : Int) (ha : By a) (hb : By b) : dbl (bx a b) = bx (dbl a) (dbl b) := by
  have step : ∀ n : Nat, n ≤ 8 → ∀ x : Nat, x < 2 ^ n → dbl (bx a (x : Int)) = bx (dbl a) (dbl (x : Int)) := by
    intro n
    induction n with
    | zero =>
      intro _ x hx
      obtain rfl : x = 0 := by omega
      show dbl (bx a 0) = bx (dbl a) (dbl 0)
      rw [bx_zero ha.1, show dbl 0 = 0 from by decide, bx_zero dbl_byte.1]
    | succ n ih =>
      intro hn x hx
      by_cases hl : x < 2 ^ n
      · exact ih (by omega) x hl
      · have hp : 2 ^ (n + 1) ≤ 2 ^ 8 := Nat.pow_le_pow_right (by decide) hn
        have h2 : 2 ^ (n + 1) = 2 ^ n + 2 ^ n := by rw [Nat.pow_succ]; omega
        have e := part_all n (by omega) x (by omega) (by omega) hx
        have hb' : By ((x - 2 ^ n : Nat) : Int) := ⟨by omega, by omega⟩
        rw [← e, ← bx_assoc, dbl_add2 (by_bx ha hb') n (by omega), ih (by omega) _ (by omega), dbl_add2 hb' n (by omega), bx_assoc]
  obtain ⟨x, rfl⟩ := Int.eq_ofNat_of_zero_le hb.1
  exact step 8 (Nat.le_refl _) x (by have := hb.2; omega)
theorem by_dbl (x : Int) : By (dbl x) := dbl_byte
/-- A product is told part by part. -/
theorem timesL_add1 : ∀ (k : Nat) (a b y n m : Int), By a → By b → By n → By m → timesL k (bx a b) y (bx n m) = bx (timesL k a y n) (timesL k b y m)
  | 0, _, _, _, _, _, _, _, _, _ => rfl
  | k + 1, a, b, y, n, m, ha, hb, hn, hm => by
    rw [timesL, timesL, timesL, dbl_add a b ha hb]
    by_cases h : y % 2 = 1
    · rw [if_pos h, if_pos h, if_pos h, show bx (bx n m) (bx a b) = bx (bx n a) (bx m b) by ac_rfl]
      exact timesL_add1 k _ _ _ _ _ (by_dbl a) (by_dbl b) (by_bx hn ha) (by_bx hm hb)
    · rw [if_neg h, if_neg h, if_neg h]
      exact timesL_add1 k _ _ _ _ _ (by_dbl a) (by_dbl b) hn hm
theorem timesL_add2 : ∀ (k : Nat) (x y z n m : Int), By x → 0 ≤ y → 0 ≤ z → timesL k x (bx y z) (bx n m) = bx (timesL k x y n) (timesL k x z m)
  | 0, _, _, _, _, _, _, _, _ => rfl
  | k + 1, x, y, z, n, m, hx, hy, hz => by
    obtain ⟨e1, e2⟩ := bx_half y z hy hz
    rw [timesL, timesL, timesL, e1, e2]
    have hy2 : y % 2 = 0 ∨ y % 2 = 1 := by omega
    have hz2 : z % 2 = 0 ∨ z % 2 = 1 := by omega
    have h0 : bx x x = 0 := bx_self x
    rcases hy2 with h | h <;> rcases hz2 with h' | h' <;> rw [h, h']
    · rw [if_neg (by decide), if_neg (by decide), if_neg (by decide)]
      exact timesL_add2 k _ _ _ _ _ (by_dbl x) (by omega) (by omega)
    · rw [if_pos (by decide), if_neg (by decide), if_pos (by decide), show bx (bx n m) x = bx n (bx m x) by ac_rfl]
      exact timesL_add2 k _ _ _ _ _ (by_dbl x) (by omega) (by omega)
    · rw [if_pos (by decide), if_pos (by decide), if_neg (by decide), show bx (bx n m) x = bx (bx n x) m by ac_rfl]
      exact timesL_add2 k _ _ _ _ _ (by_dbl x) (by omega) (by omega)
    · rw [if_neg (by decide), if_pos (by decide), if_pos (by decide)]
      have e : bx (bx n x) (bx m x) = bx (bx n m) (bx x x) := by ac_rfl
      rw [← timesL_add2 k _ _ _ _ _ (by_dbl x) (by omega) (by omega), e, h0, bx_zero (bx_nn n m)]
theorem times_add1 (a b y : Int) (ha : By a) (hb : By b) : times (bx a b) y = bx (times a y) (times b y) := by
  have := timesL_add1 8 a b y 0 0 ha hb ⟨by decide, by decide⟩ ⟨by decide, by decide⟩
  rwa [bx_self] at this
theorem times_add2 (x y z : Int) (hx : By x) (hy : By y) (hz : By z) : times x (bx y z) = bx (times x y) (times x z) := by
  have := timesL_add2 8 x y z 0 0 hx hy.1 hz.1
  rwa [bx_self] at this
theorem by_times {x : Int} (y : Int) (hx : By x) : By (times x y) := times_byte hx
theorem lin1 (y : Int) : Lin (fun x => times x y) := ⟨fun _ h => by_times y h, fun a b ha hb => times_add1 a b y ha hb⟩
theorem lin2 {x : Int} (hx : By x) : Lin (fun y => times x y) := ⟨fun y _ => by_times y hx, fun a b ha hb => times_add2 x a b hx ha hb⟩
theorem comm_all : ∀ i : Nat, i < 8 → ∀ j : Nat, j < 8 → times ((2 ^ i : Nat) : Int) ((2 ^ j : Nat) : Int) = times ((2 ^ j : Nat) : Int) ((2 ^ i : Nat) : Int) := by decide +kernel
theorem times_comm (x y : Int) (hx : By x) (hy : By y) : times x y = times y x :=
  lin_ext (f := fun x => times x y) (g := fun x => times y x) (lin1 y) (lin2 hy) (fun i hi =>
    lin_ext (f := fun y => times ((2 ^ i : Nat) : Int) y) (g := fun y => times y ((2 ^ i : Nat) : Int)) (lin2 (by_pow i hi)) (lin1 _) (fun j hj => comm_all i hi j hj) y hy) x hx
theorem Lin.comp {f g : Int → Int} (hf : Lin f) (hg : Lin g) : Lin (fun x => f (g x)) := ⟨fun x h => hf.byte _ (hg.byte x h), fun x y hx hy => by rw [hg.add x y hx hy, hf.add _ _ (hg.byte x hx) (hg.byte y hy)]⟩
theorem assoc_all : ∀ i : Nat, i < 8 → ∀ j : Nat, j < 8 → ∀ k : Nat, k < 8 → times ((2 ^ i : Nat) : Int) (times ((2 ^ j : Nat) : Int) ((2 ^ k : Nat) : Int)) = times (times ((2 ^ i : Nat) : Int) ((2 ^ j : Nat) : Int)) ((2 ^ k : Nat) : Int) := by decide +kernel
theorem times_assoc (x y z : Int) (hx : By x) (hy : By y) (hz : By z) : times x (times y z) = times (times x y) z :=
  lin_ext (f := fun x => times x (times y z)) (g := fun x => times (times x y) z) (lin1 _) ((lin1 z).comp (lin1 y)) (fun i hi =>
    lin_ext (f := fun y => times ((2 ^ i : Nat) : Int) (times y z)) (g := fun y => times (times ((2 ^ i : Nat) : Int) y) z) ((lin2 (by_pow i hi)).comp (lin1 z)) ((lin1 z).comp (lin2 (by_pow i hi))) (fun j hj =>
      lin_ext (f := fun z => times ((2 ^ i : Nat) : Int) (times ((2 ^ j : Nat) : Int) z)) (g := fun z => times (times ((2 ^ i : Nat) : Int) ((2 ^ j : Nat) : Int)) z) ((lin2 (by_pow i hi)).comp (lin2 (by_pow j hj))) (lin2 (by_times _ (by_pow i hi))) (fun k hk => assoc_all i hi j hj k hk) z hz) y hy) x hx
theorem times_one_all : ∀ n : Nat, n < 256 → times (n : Int) 1 = (n : Int) := by decide +kernel
theorem times_one (x : Int) (hx : By x) : times x 1 = x := byte_all (p := fun x => times x 1 = x) times_one_all x hx

/-- Unlike bytes have unlike Boxes. -/
theorem box_inv_all : ∀ n : Nat, n < 256 → boxTab.idxOf (boxTab.getD n 0) = n := by decide +kernel
theorem box_inj {x y : Int} (hx : By x) (hy : By y) (h : box x = box y) : x = y := by
  obtain ⟨n, rfl⟩ := Int.eq_ofNat_of_zero_le hx.1
  obtain ⟨m, rfl⟩ := Int.eq_ofNat_of_zero_le hy.1
  rw [box_eq] at h
  have h' : boxTab.getD n 0 = boxTab.getD m 0 := h
  have e1 := box_inv_all n (by have := hx.2; omega)
  have e2 := box_inv_all m (by have := hy.2; omega)
  rw [h', e2] at e1
  rw [e1]
theorem with_inj {a b ks : List Int} (ha : a.length = 16) (hb : b.length = 16) (ba : Byt a) (bb : Byt b) (h : withS a ks = withS b ks) : a = b := by
  rw [eq_map16 a (fun i => a.getD i 0) ha (fun _ _ => rfl), eq_map16 b (fun i => b.getD i 0) hb (fun _ _ => rfl)]
  refine map16_ext fun i hi => ?_
  have := congrArg (fun l => l.getD i 0) h
  simp only [withS, map16_get _ i hi] at this
  exact bx_right (byt_get ba i).1 (byt_get bb i).1 this
theorem rows_inj {a b : List Int} (ha : a.length = 16) (hb : b.length = 16) (ba : Byt a) (bb : Byt b) (h : rowsS a = rowsS b) : a = b := by
  rw [eq_map16 a (fun i => a.getD i 0) ha (fun _ _ => rfl), eq_map16 b (fun i => b.getD i 0) hb (fun _ _ => rfl)]
  refine map16_ext fun i hi => ?_
  have := congrArg (fun l => l.getD (13 * i % 16) 0) h
  simp only [rowsS, map16_get _ _ (show 13 * i % 16 < 16 by omega), show 5 * (13 * i % 16) % 16 = i by omega] at this
  exact box_inj (byt_get ba i) (byt_get bb i) this
/-- A column of a block. -/
structure Col where
  (c0 c1 c2 c3 : Int)
def Col.mix (a : Col) : Col :=
  let all := bx (bx (bx a.c0 a.c1) a.c2) a.c3
  ⟨bx (bx a.c0 all) (dbl (bx a.c0 a.c1)), bx (bx a.c1 all) (dbl (bx a.c1 a.c2)), bx (bx a.c2 all) (dbl (bx a.c2 a.c3)), bx (bx a.c3 all) (dbl (bx a.c3 a.c0))⟩
def Col.add (a b : Col) : Col := ⟨bx a.c0 b.c0, bx a.c1 b.c1, bx a.c2 b.c2, bx a.c3 b.c3⟩
structure Col.Ok (a : Col) : Prop where
  h0 : By a.c0
  h1 : By a.c1
  h2 : By a.c2
  h3 : By a.c3
theorem Col.ok_add {a b : Col} (ha : a.Ok) (hb : b.Ok) : (a.add b).Ok := ⟨by_bx ha.h0 hb.h0, by_bx ha.h1 hb.h1, by_bx ha.h2 hb.h2, by_bx ha.h3 hb.h3⟩
theorem Col.ok_mix {a : Col} (ha : a.Ok) : a.mix.Ok := by
  have hl : By (bx (bx (bx a.c0 a.c1) a.c2) a.c3) := by_bx (by_bx (by_bx ha.h0 ha.h1) ha.h2) ha.h3
  exact ⟨by_bx (by_bx ha.h0 hl) (by_dbl _), by_bx (by_bx ha.h1 hl) (by_dbl _), by_bx (by_bx ha.h2 hl) (by_dbl _), by_bx (by_bx ha.h3 hl) (by_dbl _)⟩
theorem mix_part (a b a' b' l l' : Int) (ha : By a) (hb : By b) (ha' : By a') (hb' : By b') :
    bx (bx (bx a a') (bx l l')) (dbl (bx (bx a a') (bx b b'))) = bx (bx (bx a l) (dbl (bx a b))) (bx (bx a' l') (dbl (bx a' b'))) := by
  rw [show bx (bx a a') (bx b b') = bx (bx a b) (bx a' b') by ac_rfl, dbl_add _ _ (by_bx ha hb) (by_bx ha' hb')]
  ac_rfl
theorem Col.mix_add (a b : Col) (ha : a.Ok) (hb : b.Ok) : (a.add b).mix = a.mix.add b.mix := by
  have hall : bx (bx (bx (bx a.c0 b.c0) (bx a.c1 b.c1)) (bx a.c2 b.c2)) (bx a.c3 b.c3) = bx (bx (bx (bx a.c0 a.c1) a.c2) a.c3) (bx (bx (bx b.c0 b.c1) b.c2) b.c3) := by ac_rfl
  simp only [Col.mix, Col.add, hall, Col.mk.injEq]
  exact ⟨mix_part _ _ _ _ _ _ ha.h0 ha.h1 hb.h0 hb.h1, mix_part _ _ _ _ _ _ ha.h1 ha.h2 hb.h1 hb.h2, mix_part _ _ _ _ _ _ ha.h2 ha.h3 hb.h2 hb.h3, mix_part _ _ _ _ _ _ ha.h3 ha.h0 hb.h3 hb.h0⟩
def Col.mix4 (a : Col) : Col := a.mix.mix.mix.mix
theorem Col.ok_mix4 {a : Col} (ha : a.Ok) : a.mix4.Ok := Col.ok_mix (Col.ok_mix (Col.ok_mix (Col.ok_mix ha)))
theorem Col.mix4_add (a b : Col) (ha : a.Ok) (hb : b.Ok) : (a.add b).mix4 = a.mix4.add b.mix4 := by
  unfold Col.mix4
  rw [mix_add a b ha hb, mix_add _ _ (ok_mix ha) (ok_mix hb), mix_add _ _ (ok_mix (ok_mix ha)) (ok_mix (ok_mix hb)), mix_add _ _ (ok_mix (ok_mix (ok_mix ha))) (ok_mix (ok_mix (ok_mix hb)))]
instance : DecidableEq Col := fun a b => decidable_of_iff (a.c0 = b.c0 ∧ a.c1 = b.c1 ∧ a.c2 = b.c2 ∧ a.c3 = b.c3) (by cases a; cases b; simp)
theorem mix4_c0 : ∀ n : Nat, n < 256 → (Col.mk n 0 0 0).mix4 = ⟨n, 0, 0, 0⟩ := by decide +kernel
theorem mix4_c1 : ∀ n : Nat, n < 256 → (Col.mk 0 n 0 0).mix4 = ⟨0, n, 0, 0⟩ := by decide +kernel
theorem mix4_c2 : ∀ n : Nat, n < 256 → (Col.mk 0 0 n 0).mix4 = ⟨0, 0, n, 0⟩ := by decide +kernel
theorem mix4_c3 : ∀ n : Nat, n < 256 → (Col.mk 0 0 0 n).mix4 = ⟨0, 0, 0, n⟩ := by decide +kernel
theorem Col.mix4_id (a : Col) (ha : a.Ok) : a.mix4 = a := by
  have z : By 0 := ⟨by decide, by decide⟩
  have k0 : (Col.mk a.c0 0 0 0).Ok := ⟨ha.h0, z, z, z⟩
  have k1 : (Col.mk 0 a.c1 0 0).Ok := ⟨z, ha.h1, z, z⟩
  have k2 : (Col.mk 0 0 a.c2 0).Ok := ⟨z, z, ha.h2, z⟩
  have k3 : (Col.mk 0 0 0 a.c3).Ok := ⟨z, z, z, ha.h3⟩
  have e : a = (((Col.mk a.c0 0 0 0).add ⟨0, a.c1, 0, 0⟩).add ⟨0, 0, a.c2, 0⟩).add ⟨0, 0, 0, a.c3⟩ := by
    obtain ⟨a0, a1, a2, a3⟩ := a
    have h0 : 0 ≤ a0 := ha.h0.1
    have h1 : 0 ≤ a1 := ha.h1.1
    have h2 : 0 ≤ a2 := ha.h2.1
    have h3 : 0 ≤ a3 := ha.h3.1
    simp only [Col.add, Col.mk.injEq]
    refine ⟨?_, ?_, ?_, ?_⟩
    · rw [bx_zero h0, bx_zero h0, bx_zero h0]
    · rw [zero_bx h1, bx_zero h1, bx_zero h1]
    · rw [bx_self, zero_bx h2, bx_zero h2]
    · rw [bx_self, bx_self, zero_bx h3]
  rw [e, mix4_add _ _ (ok_add (ok_add k0 k1) k2) k3, mix4_add _ _ (ok_add k0 k1) k2, mix4_add _ _ k0 k1]
  rw [byte_all (p := fun n => (Col.mk n 0 0 0).mix4 = ⟨n, 0, 0, 0⟩) mix4_c0 _ ha.h0, byte_all (p := fun n => (Col.mk 0 n 0 0).mix4 = ⟨0, n, 0, 0⟩) mix4_c1 _ ha.h1, byte_all (p := fun n => (Col.mk 0 0 n 0).mix4 = ⟨0, 0, n, 0⟩) mix4_c2 _ ha.h2, byte_all (p := fun n => (Col.mk 0 0 0 n).mix4 = ⟨0, 0, 0, n⟩) mix4_c3 _ ha.h3]
def colS (xs : List Int) (c : Nat) : Col := ⟨xs.getD c 0, xs.getD (c + 1) 0, xs.getD (c + 2) 0, xs.getD (c + 3) 0⟩
theorem colS_ok {xs : List Int} (h : Byt xs) (c : Nat) : (colS xs c).Ok := ⟨byt_get h _, byt_get h _, byt_get h _, byt_get h _⟩
theorem colS_mix (xs : List Int) (c : Nat) (hc : c = 0 ∨ c = 4 ∨ c = 8 ∨ c = 12) : colS (mixS xs) c = (colS xs c).mix := by
  have g : ∀ r, r < 4 → (mixS xs).getD (c + r) 0 = mixB xs c r := fun r hr => by
    unfold mixS
    rw [map16_get _ _ (by omega), show (c + r) / 4 * 4 = c by omega, show (c + r) % 4 = r by omega]
  have g0 := g 0 (by omega)
  rw [Nat.add_zero] at g0
  simp only [colS, Col.mix, g0, g 1 (by omega), g 2 (by omega), g 3 (by omega), mixB, allS, Nat.add_zero]
  rfl
theorem mix_inj {a b : List Int} (ha : a.length = 16) (hb : b.length = 16) (ba : Byt a) (bb : Byt b) (h : mixS a = mixS b) : a = b := by
  have hc : ∀ c, c = 0 ∨ c = 4 ∨ c = 8 ∨ c = 12 → colS a c = colS b c := fun c hc => by
    have e : (colS a c).mix = (colS b c).mix := by rw [← colS_mix a c hc, ← colS_mix b c hc, h]
    rw [← Col.mix4_id _ (colS_ok ba c), ← Col.mix4_id _ (colS_ok bb c)]
    unfold Col.mix4
    rw [e]
  rw [eq_map16 a (fun i => a.getD i 0) ha (fun _ _ => rfl), eq_map16 b (fun i => b.getD i 0) hb (fun _ _ => rfl)]
  refine map16_ext fun i hi => ?_
  have q := hc (i / 4 * 4) (by omega)
  simp only [colS, Col.mk.injEq] at q
  obtain ⟨q0, q1, q2, q3⟩ := q
  obtain r | r | r | r : i % 4 = 0 ∨ i % 4 = 1 ∨ i % 4 = 2 ∨ i % 4 = 3 := by omega
  · rwa [show i / 4 * 4 = i by omega] at q0
  · rwa [show i / 4 * 4 + 1 = i by omega] at q1
  · rwa [show i / 4 * 4 + 2 = i by omega] at q2
  · rwa [show i / 4 * 4 + 3 = i by omega] at q3
theorem blockL_inj : ∀ (k : Nat) (a b ks : List Int), a.length = 16 → b.length = 16 → Byt a → Byt b → Byt ks → blockL k a ks = blockL k b ks → a = b
  | 0, _, _, _, _, _, _, _, _, h => h
  | k + 1, a, b, ks, ha, hb, ba, bb, bk, h => by
    rw [blockL, blockL] at h
    have hr := fun x : List Int => rowsS_byt x
    by_cases hl : 16 < ks.length
    · rw [if_pos hl, if_pos hl] at h
      have q := blockL_inj k _ _ _ (withS_len _ _) (withS_len _ _) (withS_byt (mixS_byt (hr a)) bk) (withS_byt (mixS_byt (hr b)) bk) (byt_drop bk 16) h
      exact rows_inj ha hb ba bb (mix_inj (rowsS_len _) (rowsS_len _) (hr a) (hr b) (with_inj (mixS_len _) (mixS_len _) (mixS_byt (hr a)) (mixS_byt (hr b)) q))
    · rw [if_neg hl, if_neg hl] at h
      have q := blockL_inj k _ _ _ (withS_len _ _) (withS_len _ _) (withS_byt (hr a) bk) (withS_byt (hr b) bk) (byt_drop bk 16) h
      exact rows_inj ha hb ba bb (with_inj (rowsS_len _) (rowsS_len _) (hr a) (hr b) q)
theorem blockS_inj {a b ks : List Int} (ha : a.length = 16) (hb : b.length = 16) (ba : Byt a) (bb : Byt b) (bk : Byt ks) (h : blockS ks a = blockS ks b) : a = b :=
  with_inj ha hb ba bb (blockL_inj _ _ _ _ (withS_len _ _) (withS_len _ _) (withS_byt ba bk) (withS_byt bb bk) (byt_drop bk 16) h)
theorem blockL_len : ∀ (k : Nat) (b ks : List Int), b.length = 16 → (blockL k b ks).length = 16
  | 0, _, _, h => h
  | k + 1, _, _, _ => blockL_len k _ _ (withS_len _ _)
theorem blockS_len (ks ys : List Int) : (blockS ks ys).length = 16 := blockL_len _ _ _ (withS_len _ _)
theorem blockL_byt : ∀ (k : Nat) (b ks : List Int), Byt b → Byt ks → Byt (blockL k b ks)
  | 0, _, _, h, _ => h
  | k + 1, b, ks, _, hk => blockL_byt k _ _ (by
    refine withS_byt ?_ hk
    split
    · exact mixS_byt (rowsS_byt b)
    · exact rowsS_byt b) (byt_drop hk 16)
theorem blockS_byt {ks ys : List Int} (hk : Byt ks) (hy : Byt ys) : Byt (blockS ks ys) := blockL_byt _ _ _ (withS_byt hy hk) (byt_drop hk 16)
/-- A key's keys begin with it. -/
theorem keysL_pre : ∀ (k n i : Nat) (turn : Int) (out : List Int), (keysL k n i turn out).take out.length = out
  | 0, _, _, _, _ => List.take_length
  | k + 1, n, i, turn, out => by
    rw [keysL]
    have := keysL_pre k n (i + 4) (if i % n = 0 then dbl turn else turn) (out ++ nextS n i (wordS n i turn out) out)
    have e := congrArg (List.take out.length) this
    rw [List.take_take, List.length_append, nextS_len, Nat.min_eq_left (by omega), List.take_left] at e
    exact e
theorem keysS_pre (key : List Int) : (keysS key).take key.length = key := keysL_pre _ _ _ _ _
theorem keysS_inj {a b : List Int} (ha : a.length = 16 ∨ a.length = 32) (hb : b.length = 16 ∨ b.length = 32) (h : keysS a = keysS b) : a = b := by
  have l := congrArg List.length h
  rw [keysS_len ha, keysS_len hb] at l
  have e : a.length = b.length := by
    rcases ha with ha | ha <;> rcases hb with hb | hb <;> rw [ha, hb] at l ⊢ <;> simp at l
  rw [← keysS_pre a, ← keysS_pre b, h, e]
end Go.Proofs.Ytgkphopdmkfcgaa

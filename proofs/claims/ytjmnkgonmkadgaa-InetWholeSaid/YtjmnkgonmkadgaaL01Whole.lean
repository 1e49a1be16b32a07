/- InetWhole holds: bytes that have their check among them have the sum 65535; Turn tells the check of bytes in which a word was turned, if these are not all 0. Conditions: none beside the row's own reach. -/
import Derived.Test.YtjmnkgonmkadgaaAwake01
import Derived.Test.YtjmnkgonmkadgaaCBoth
import Derived.Deep.QuietTactic
import Derived.BigQuiet
namespace Go.Proofs.Ytjmnkgonmkadgaa
open Go.RowKit Go.Proofs.YtjmnkgonmkadgaaW.PrintWords

set_option maxHeartbeats 2000000 in
theorem InetWhole_out (A : Option Addr) (n c : Nat) (xs : List Int) (a m : Int) (w : World) (h : Bts w A n c xs) (_ha : I64 a) (_hm : I64 m) (hout : 1000 < n ∨ a < 0 ∨ 1000 < a ∨ (n : Int) < 2 * a + 2 ∨ m < 0 ∨ 65535 < m) :
    Calls Try.prog 6 #[.slice A n c, .int .i64 a, .int .i64 m] w fun e w' => e = .returned (.bool true) ∧ Below w.heap.size w w' := by
  have hx := h.max
  have hB := Below.refl w.heap.size w
  by_cases q1 : 1000 < n
  · go_enter Try.func6, Try.ntmps6
    go_wp2_with fail
    refine (awake01 _).mono ?_
    rintro e w1 ⟨rfl, hB2⟩
    replace hB2 := below_step2 (w := w) (by repeat (first | exact Below.refl _ _ | apply below_alloc | apply below_drew | apply pw_below_drewN)) hB2
    replace hB := below_step2 hB hB2
    clear hB2
    go_wp2
    go_ret
    exact ⟨rfl, hB⟩
  have d1 : decide ((1000 : Int) < (n : Int)) = false := decide_eq_false (by omega)
  by_cases q2 : a < 0
  · go_enter Try.func6, Try.ntmps6
    go_wp2_with fail
    refine (awake01 _).mono ?_
    rintro e w1 ⟨rfl, hB2⟩
    replace hB2 := below_step2 (w := w) (by repeat (first | exact Below.refl _ _ | apply below_alloc | apply below_drew | apply pw_below_drewN)) hB2
    replace hB := below_step2 hB hB2
    clear hB2
    go_wp2
    go_ret
    exact ⟨rfl, hB⟩
  have d2 : decide (a < 0) = false := decide_eq_false q2
  by_cases q3 : 1000 < a
  · by_cases q4 : (n : Int) < wrap64 (wrap64 (2 * a) + 2)
    · go_enter Try.func6, Try.ntmps6
      go_wp2_with fail
      refine (awake01 _).mono ?_
      rintro e w1 ⟨rfl, hB2⟩
      replace hB2 := below_step2 (w := w) (by repeat (first | exact Below.refl _ _ | apply below_alloc | apply below_drew | apply pw_below_drewN)) hB2
      replace hB := below_step2 hB hB2
      clear hB2
      go_wp2
      go_ret
      exact ⟨rfl, hB⟩
    · have d4 : decide ((n : Int) < wrap64 (wrap64 (2 * a) + 2)) = false := decide_eq_false q4
      go_enter Try.func6, Try.ntmps6
      go_wp2_with fail
      refine (awake01 _).mono ?_
      rintro e w1 ⟨rfl, hB2⟩
      replace hB2 := below_step2 (w := w) (by repeat (first | exact Below.refl _ _ | apply below_alloc | apply below_drew | apply pw_below_drewN)) hB2
      replace hB := below_step2 hB hB2
      clear hB2
      go_wp2
      go_ret
      exact ⟨rfl, hB⟩
  have d3 : decide (1000 < a) = false := decide_eq_false q3
  by_cases q4 : (n : Int) < 2 * a + 2
  · go_enter Try.func6, Try.ntmps6
    go_wp2_with fail
    refine (awake01 _).mono ?_
    rintro e w1 ⟨rfl, hB2⟩
    replace hB2 := below_step2 (w := w) (by repeat (first | exact Below.refl _ _ | apply below_alloc | apply below_drew | apply pw_below_drewN)) hB2
    replace hB := below_step2 hB hB2
    clear hB2
    go_wp2
    go_ret
    exact ⟨rfl, hB⟩
  have d4 : decide ((n : Int) < 2 * a + 2) = false := decide_eq_false q4
  by_cases q5 : m < 0
  · go_enter Try.func6, Try.ntmps6
    go_wp2_with fail
    refine (awake01 _).mono ?_
    rintro e w1 ⟨rfl, hB2⟩
    replace hB2 := below_step2 (w := w) (by repeat (first | exact Below.refl _ _ | apply below_alloc | apply below_drew | apply pw_below_drewN)) hB2
    replace hB := below_step2 hB hB2
    clear hB2
    go_wp2
    go_ret
    exact ⟨rfl, hB⟩
  have d5 : decide (m < 0) = false := decide_eq_false q5
  have q6 : 65535 < m := by omega
  go_enter Try.func6, Try.ntmps6
  go_wp2_with fail
  refine (awake01 _).mono ?_
  rintro e w1 ⟨rfl, hB2⟩
  replace hB2 := below_step2 (w := w) (by repeat (first | exact Below.refl _ _ | apply below_alloc | apply below_drew | apply pw_below_drewN)) hB2
  replace hB := below_step2 hB hB2
  clear hB2
  go_wp2
  go_ret
  exact ⟨rfl, hB⟩

theorem set2_rest (ys : List Int) (i : Nat) (hi : i % 2 = 0) (h : i + 1 < ys.length) (u v R : Int) (hR : tot (ys.take i) + tot (ys.drop (i + 2)) = R) :
    sumL ((ys.set i u).set (i + 1) v) = canon (R + (256 * u + v)) ∧ tot (((ys.set i u).set (i + 1) v).take i) + tot (((ys.set i u).set (i + 1) v).drop (i + 2)) = R := by
  constructor
  · unfold sumL; rw [tot_set2 ys i hi h, ← hR]; congr 1; omega
  · rw [List.take_set_of_le (by omega), List.take_set_of_le (by omega), List.drop_set_of_lt (by omega), List.drop_set_of_lt (by omega)]
    exact hR
theorem whole_turn (R z m : Int) (hR : 0 ≤ R) (hz : 0 ≤ z ∧ z ≤ 65535) (hm : 0 ≤ m ∧ m ≤ 65535) (h : 0 < R + m) : turnm (65535 - canon (R + z)) z m = 65535 - canon (R + m) := by
  have hb := canon_bd (R + z)
  unfold turnm
  rw [show 65535 - (65535 - canon (R + z)) % 65536 = canon (R + z) by omega, show z % 65536 = z by omega,
    canon_word _ _ (by omega) (by omega) (by omega), canon_word _ _ (by omega) hm.1 hm.2]
  rw [canon_eq (R + z + (65535 - z) + m) (R + m) (by omega) h (by omega)]
theorem whole_sum (R : Int) (hR : 0 ≤ R) : canon (R + (65535 - canon R)) = 65535 := by
  unfold canon
  by_cases h : R ≤ 0
  · rw [if_pos h, if_neg (by omega)]; omega
  · rw [if_neg h, if_neg (by omega)]; omega

set_option maxHeartbeats 8000000 in
theorem InetWhole_in (A : Option Addr) (n c : Nat) (xs : List Int) (a : Nat) (m : Int) (w : World) (h : Bts w A n c xs) (hn : n ≤ 1000) (ha : 2 * a + 2 ≤ n) (hm0 : 0 ≤ m) (hm1 : m ≤ 65535) :
    Calls Try.prog 6 #[.slice A n c, .int .i64 (a : Int), .int .i64 m] w fun e w' => e = .returned (.bool true) ∧ Below w.heap.size w w' := by
  have hl := h.len
  have hB := Below.refl w.heap.size w
  have d1 : decide ((1000 : Int) < (n : Int)) = false := decide_eq_false (by omega)
  have d2 : decide ((a : Int) < 0) = false := decide_eq_false (by omega)
  have d3 : decide (1000 < (a : Int)) = false := decide_eq_false (by omega)
  have d4 : decide ((n : Int) < 2 * a + 2) = false := decide_eq_false (by omega)
  have d5 : decide (m < 0) = false := decide_eq_false (by omega)
  have d6 : decide (65535 < m) = false := decide_eq_false (by omega)
  go_enter Try.func6, Try.ntmps6
  go_wp2_with fail
  refine (ref01_Both _ _ _ [xs] _ (Rws.one _ _ _ rfl h) (by simp; omega)).mono ?_
  rintro e w1 ⟨vw1, rfl, ok, hB2⟩
  obtain ⟨B, q, d, rfl, k⟩ := ok.bts
  replace ok := Lib.hid ok
  replace hB2 := below_step2 (w := w) (by repeat (first | exact Below.refl _ _ | apply below_alloc | apply below_drew | apply pw_below_drewN)) hB2
  replace h := h.below hB2
  replace hB := below_step2 hB hB2
  clear hB2
  simp only [List.flatten_cons, List.flatten_nil, List.append_nil] at k ok
  obtain ⟨g, n', cap, e1, ho⟩ := ok.out.row (by omega)
  clear ok
  injection e1 with e1 e2 e3
  subst e1 e2 e3
  have hbase := ho.base_
  have hgw : w.heap.size ≤ g := by simp at hbase; omega
  have hq : n = q := by rw [← hl, k.len]
  clear hbase
  have c0 := ho.cell (2 * a) (by omega)
  have c1 := ho.cell (2 * a + 1) (by omega)
  have b0 := byt_get h.byt (2 * a)
  have b1 := byt_get h.byt (2 * a + 1)
  obtain ⟨x0, hx0⟩ : ∃ x0, xs.getD (2 * a) 0 = x0 := ⟨_, rfl⟩
  obtain ⟨x1, hx1⟩ : ∃ x1, xs.getD (2 * a + 1) 0 = x1 := ⟨_, rfl⟩
  rw [hx0] at c0 b0
  rw [hx1] at c1 b1
  have hs := tot_split xs (2 * a) (by omega) (by omega)
  rw [hx0, hx1] at hs
  obtain ⟨R, hR⟩ : ∃ R, tot (xs.take (2 * a)) + tot (xs.drop (2 * a + 2)) = R := ⟨_, rfl⟩
  have R0 : 0 ≤ R := by
    have r0 := tot_nonneg _ (byt_take h.byt (2 * a))
    have r1 := tot_nonneg _ (byt_drop h.byt (2 * a + 2))
    omega
  have E0 := Lib.hid (show sumL xs = canon (R + (256 * x0 + x1)) by unfold sumL; rw [hs, ← hR]; congr 1; omega)
  obtain ⟨E1, R1⟩ := set2_rest xs (2 * a) (by omega) (by omega) (m / 256) (m % 256) R hR
  replace E1 := Lib.hid E1
  replace R1 := Lib.hid R1
  have hm := Lib.hid (show 256 * (m / 256) + m % 256 = m by omega)
  have hT := Lib.hid (whole_turn R (256 * x0 + x1) m R0 (by omega) (by omega))
  clear hx0 hx1 hs hR
  have Q := Lib.hid hq
  have i0 : (0 : Int) ≤ 2 * (a : Int) := by omega
  have i1 : 2 * (a : Int) < (q : Int) := by omega
  have i2 : 2 * (a : Int) + 1 < (q : Int) := by omega
  clear hq hl
  go_wp2_with fail
  go_quiet (fail)
  go_wp2_with fail
  refine (inet_Check _ _ _ _ _ (k.drewN _)).mono ?_
  rintro e w' ⟨rfl, rfl⟩
  rw [E0.out]
  have f0 := ho.free (2 * a) (by omega)
  have f1 := ho.free (2 * a + 1) (by omega)
  have j0 : ((2 * (a : Int))).toNat = 2 * a := by omega
  have j1 : ((2 * (a : Int) + 1)).toNat = 2 * a + 1 := by omega
  go_wp2_with fail
  have o2 := ((ho.below (pw_below_drewN (Below.refl _ _) nq)).set (2 * a) (m / 256) (by omega)).set (2 * a + 1) (m % 256) (by omega)
  have hB2 := below_set (below_set (pw_below_drewN hB nq) (p := ⟨g, 2 * a, none⟩) hgw (.int .u8 (m / 256))) (p := ⟨g, 2 * a + 1, none⟩) hgw (.int .u8 (m % 256))
  clear c0 c1 f0 f1
  generalize ((w1.drewN nq).setCell ⟨g, 2 * a, none⟩ (.int .u8 (m / 256))).setCell ⟨g, 2 * a + 1, none⟩ (.int .u8 (m % 256)) = W2 at o2 hB2 ⊢
  generalize (xs.set (2 * a) (m / 256)).set (2 * a + 1) (m % 256) = ys at o2 E1 R1
  refine (inet_Sum _ _ _ _ _ o2.bts).mono ?_
  rintro e w' ⟨rfl, rfl⟩
  rw [E1.out, hm.out]
  have f0 := o2.free (2 * a) (by omega)
  have f1 := o2.free (2 * a + 1) (by omega)
  have c0 := o2.cell (2 * a) (by omega)
  have c1 := o2.cell (2 * a + 1) (by omega)
  have hb := canon_bd (R + m)
  have hl2 := Lib.hid o2.len
  obtain ⟨E3, R3⟩ := set2_rest ys (2 * a) (by omega) (by have := hl2.out; omega) 0 0 R R1.out
  replace E3 := Lib.hid E3
  replace R3 := Lib.hid R3
  have hr := canon_bd R
  by_cases hz : R + m = 0
  · have hz' : canon (R + m) = 0 := by rw [hz]; rfl
    rw [hz']
    replace hz := Lib.hid hz
    clear hz' hb
    go_wp2_with fail
    try clear hb
    have o3 := (o2.set (2 * a) 0 (by omega)).set (2 * a + 1) 0 (by omega)
    have hB3 := below_set (below_set hB2 (p := ⟨g, 2 * a, none⟩) hgw (.int .u8 0)) (p := ⟨g, 2 * a + 1, none⟩) hgw (.int .u8 0)
    clear c0 c1 f0 f1 hB2
    generalize (W2.setCell ⟨g, 2 * a, none⟩ (.int .u8 0)).setCell ⟨g, 2 * a + 1, none⟩ (.int .u8 0) = W3 at o3 hB3 ⊢
    generalize (ys.set (2 * a) 0).set (2 * a + 1) 0 = zs at o3 E3 R3
    have hl3 := Lib.hid o3.len
    refine (inet_Check _ _ _ _ _ o3.bts).mono ?_
    rintro e w' ⟨rfl, rfl⟩
    rw [E3.out, show R + (256 * 0 + 0) = R from by omega]
    have hf := Lib.hid (whole_sum R R0)
    generalize canon R = r at hr hf ⊢
    obtain ⟨E4, -⟩ := set2_rest zs (2 * a) (by omega) (by have := hl3.out; omega) ((65535 - r) / 256) ((65535 - r) % 256) R R3.out
    replace E4 := Lib.hid E4
    have he := Lib.hid (show 256 * ((65535 - r) / 256) + (65535 - r) % 256 = 65535 - r by omega)
    have y0 : decide (65535 - r < 0) = false := decide_eq_false (by omega)
    have y1 : decide (65535 < 65535 - r) = false := decide_eq_false (by omega)
    have y2 : decide (65535 < r) = false := decide_eq_false (by omega)
    have y3 : decide (r < 0) = false := decide_eq_false (by omega)
    have f0 := o3.free (2 * a) (by omega)
    have f1 := o3.free (2 * a + 1) (by omega)
    have c0 := o3.cell (2 * a) (by omega)
    have c1 := o3.cell (2 * a + 1) (by omega)
    have p0 : 0 ≤ 65535 - r := by omega
    go_wp2_with fail
    have o4 := (o3.set (2 * a) ((65535 - r) / 256) (by omega)).set (2 * a + 1) ((65535 - r) % 256) (by omega)
    have hB4 := below_set (below_set hB3 (p := ⟨g, 2 * a, none⟩) hgw (.int .u8 ((65535 - r) / 256))) (p := ⟨g, 2 * a + 1, none⟩) hgw (.int .u8 ((65535 - r) % 256))
    clear c0 c1 f0 f1 hB3
    generalize (W3.setCell ⟨g, 2 * a, none⟩ (.int .u8 ((65535 - r) / 256))).setCell ⟨g, 2 * a + 1, none⟩ (.int .u8 ((65535 - r) % 256)) = W4 at o4 hB4 ⊢
    refine (awake01 _).mono ?_
    rintro e W5 ⟨rfl, hB5⟩
    replace o4 := o4.below hB5
    replace hB4 := below_step2 hB4 hB5
    go_wp2_with fail
    refine (inet_Sum _ _ _ _ _ o4.bts).mono ?_
    rintro e w' ⟨rfl, rfl⟩
    rw [E4.out, he.out, hf.out]
    go_wp2_with fail
    refine (inet_Check _ _ _ _ _ o4.bts).mono ?_
    rintro e w' ⟨rfl, rfl⟩
    rw [E4.out, he.out, hf.out]
    go_wp2
    go_ret
    exact ⟨rfl, hB4⟩
  · have hz' : 0 < canon (R + m) := by unfold canon; rw [if_neg (by omega)]; omega
    have ht := Lib.hid (hT.out (by omega))
    have z1 : (canon (R + m) == 0) = false := beq_eq_false_iff_ne.mpr (by omega)
    have z2 : (canon (R + m) != 0) = true := bne_iff_ne.mpr (by omega)
    go_wp2_with fail
    refine (inet_Turn _ _ _ _).mono ?_
    rintro e w' ⟨rfl, rfl⟩
    rw [ht.out]
    go_wp2_with fail
    refine (inet_Check _ _ _ _ _ o2.bts).mono ?_
    rintro e w' ⟨rfl, rfl⟩
    rw [E1.out, hm.out]
    clear z1 z2
    go_wp2_with fail
    try clear hb
    have o3 := (o2.set (2 * a) 0 (by omega)).set (2 * a + 1) 0 (by omega)
    have hB3 := below_set (below_set hB2 (p := ⟨g, 2 * a, none⟩) hgw (.int .u8 0)) (p := ⟨g, 2 * a + 1, none⟩) hgw (.int .u8 0)
    clear c0 c1 f0 f1 hB2
    generalize (W2.setCell ⟨g, 2 * a, none⟩ (.int .u8 0)).setCell ⟨g, 2 * a + 1, none⟩ (.int .u8 0) = W3 at o3 hB3 ⊢
    generalize (ys.set (2 * a) 0).set (2 * a + 1) 0 = zs at o3 E3 R3
    have hl3 := Lib.hid o3.len
    refine (inet_Check _ _ _ _ _ o3.bts).mono ?_
    rintro e w' ⟨rfl, rfl⟩
    rw [E3.out, show R + (256 * 0 + 0) = R from by omega]
    have hf := Lib.hid (whole_sum R R0)
    generalize canon R = r at hr hf ⊢
    obtain ⟨E4, -⟩ := set2_rest zs (2 * a) (by omega) (by have := hl3.out; omega) ((65535 - r) / 256) ((65535 - r) % 256) R R3.out
    replace E4 := Lib.hid E4
    have he := Lib.hid (show 256 * ((65535 - r) / 256) + (65535 - r) % 256 = 65535 - r by omega)
    have y0 : decide (65535 - r < 0) = false := decide_eq_false (by omega)
    have y1 : decide (65535 < 65535 - r) = false := decide_eq_false (by omega)
    have y2 : decide (65535 < r) = false := decide_eq_false (by omega)
    have y3 : decide (r < 0) = false := decide_eq_false (by omega)
    have f0 := o3.free (2 * a) (by omega)
    have f1 := o3.free (2 * a + 1) (by omega)
    have c0 := o3.cell (2 * a) (by omega)
    have c1 := o3.cell (2 * a + 1) (by omega)
    have p0 : 0 ≤ 65535 - r := by omega
    go_wp2_with fail
    have o4 := (o3.set (2 * a) ((65535 - r) / 256) (by omega)).set (2 * a + 1) ((65535 - r) % 256) (by omega)
    have hB4 := below_set (below_set hB3 (p := ⟨g, 2 * a, none⟩) hgw (.int .u8 ((65535 - r) / 256))) (p := ⟨g, 2 * a + 1, none⟩) hgw (.int .u8 ((65535 - r) % 256))
    clear c0 c1 f0 f1 hB3
    generalize (W3.setCell ⟨g, 2 * a, none⟩ (.int .u8 ((65535 - r) / 256))).setCell ⟨g, 2 * a + 1, none⟩ (.int .u8 ((65535 - r) % 256)) = W4 at o4 hB4 ⊢
    refine (awake01 _).mono ?_
    rintro e W5 ⟨rfl, hB5⟩
    replace o4 := o4.below hB5
    replace hB4 := below_step2 hB4 hB5
    go_wp2_with fail
    refine (inet_Sum _ _ _ _ _ o4.bts).mono ?_
    rintro e w' ⟨rfl, rfl⟩
    rw [E4.out, he.out, hf.out]
    go_wp2_with fail
    refine (inet_Check _ _ _ _ _ o4.bts).mono ?_
    rintro e w' ⟨rfl, rfl⟩
    rw [E4.out, he.out, hf.out]
    go_wp2
    go_ret
    exact ⟨rfl, hB4⟩

theorem InetWhole_any (A : Option Addr) (n c : Nat) (xs : List Int) (a m : Int) (w : World) (h : Bts w A n c xs) (ha : I64 a) (hm : I64 m) :
    Calls Try.prog 6 #[.slice A n c, .int .i64 a, .int .i64 m] w fun e w' => e = .returned (.bool true) ∧ Below w.heap.size w w' := by
  by_cases hout : 1000 < n ∨ a < 0 ∨ 1000 < a ∨ (n : Int) < 2 * a + 2 ∨ m < 0 ∨ 65535 < m
  · exact InetWhole_out A n c xs a m w h ha hm hout
  · obtain ⟨b, rfl⟩ := Int.eq_ofNat_of_zero_le (show 0 ≤ a by omega)
    exact InetWhole_in A n c xs b m w h (by omega) (by omega) (by omega) (by omega)
end Go.Proofs.Ytjmnkgonmkadgaa

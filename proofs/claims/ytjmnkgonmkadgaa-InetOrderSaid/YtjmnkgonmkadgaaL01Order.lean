/- InetOrder holds: words in another order have the same sum; so have bytes with 0 0 between two words. Conditions: none beside the row's own reach. -/
import Derived.Test.YtjmnkgonmkadgaaAwake01
import Derived.Deep.RegionLaw
namespace Go.Proofs.Ytjmnkgonmkadgaa
open Go.RowKit Go.Proofs.YtjmnkgonmkadgaaW.PrintWords

theorem Try.info5o : (Try.prog.info? 5).map (fun i => (i.zero, i.size, i.bytes)) = some (some (.int .u8 0), 1, 1) := by kernel_rfl

set_option maxHeartbeats 4000000 in
theorem InetOrder_out (A : Option Addr) (n c : Nat) (xs : List Int) (i k : Int) (w : World) (h : Bts w A n c xs) (hout : 1000 < n ∨ i < 0 ∨ k < 0 ∨ 1000 < i ∨ 1000 < k ∨ (n : Int) < 2 * i + 2 ∨ (n : Int) < 2 * k + 2) :
    Calls Try.prog 5 #[.slice A n c, .int .i64 i, .int .i64 k] w fun e w' => e = .returned (.bool true) ∧ Below w.heap.size w w' := by
  have hx := h.max
  have hB := Below.refl w.heap.size w
  by_cases q0 : 1000 < n
  · go_enter Try.func5, Try.ntmps5
    go_wp2_with fail
    refine (awake01 _).mono ?_
    rintro e w1 ⟨rfl, hB2⟩
    replace hB2 := below_step2 (w := w) (by repeat (first | exact Below.refl _ _ | apply below_alloc | apply below_drew | apply pw_below_drewN)) hB2
    replace hB := below_step2 hB hB2
    clear hB2
    go_wp2
    go_ret
    exact ⟨rfl, hB⟩
  have d0 : decide ((1000 : Int) < (n : Int)) = false := decide_eq_false (by omega)
  by_cases q1 : i < 0
  · go_enter Try.func5, Try.ntmps5
    go_wp2_with fail
    refine (awake01 _).mono ?_
    rintro e w1 ⟨rfl, hB2⟩
    replace hB2 := below_step2 (w := w) (by repeat (first | exact Below.refl _ _ | apply below_alloc | apply below_drew | apply pw_below_drewN)) hB2
    replace hB := below_step2 hB hB2
    clear hB2
    go_wp2
    go_ret
    exact ⟨rfl, hB⟩
  have d1 : decide (i < 0) = false := decide_eq_false (by omega)
  by_cases q2 : k < 0
  · go_enter Try.func5, Try.ntmps5
    go_wp2_with fail
    refine (awake01 _).mono ?_
    rintro e w1 ⟨rfl, hB2⟩
    replace hB2 := below_step2 (w := w) (by repeat (first | exact Below.refl _ _ | apply below_alloc | apply below_drew | apply pw_below_drewN)) hB2
    replace hB := below_step2 hB hB2
    clear hB2
    go_wp2
    go_ret
    exact ⟨rfl, hB⟩
  have d2 : decide (k < 0) = false := decide_eq_false (by omega)
  by_cases q3 : 1000 < i
  · go_enter Try.func5, Try.ntmps5
    go_wp2_with fail
    refine (awake01 _).mono ?_
    rintro e w1 ⟨rfl, hB2⟩
    replace hB2 := below_step2 (w := w) (by repeat (first | exact Below.refl _ _ | apply below_alloc | apply below_drew | apply pw_below_drewN)) hB2
    replace hB := below_step2 hB hB2
    clear hB2
    go_wp2
    go_ret
    exact ⟨rfl, hB⟩
  have d3 : decide (1000 < i) = false := decide_eq_false (by omega)
  by_cases q4 : 1000 < k
  · go_enter Try.func5, Try.ntmps5
    go_wp2_with fail
    refine (awake01 _).mono ?_
    rintro e w1 ⟨rfl, hB2⟩
    replace hB2 := below_step2 (w := w) (by repeat (first | exact Below.refl _ _ | apply below_alloc | apply below_drew | apply pw_below_drewN)) hB2
    replace hB := below_step2 hB hB2
    clear hB2
    go_wp2
    go_ret
    exact ⟨rfl, hB⟩
  have d4 : decide (1000 < k) = false := decide_eq_false (by omega)
  by_cases q5 : (n : Int) < 2 * i + 2
  · go_enter Try.func5, Try.ntmps5
    go_wp2_with fail
    refine (awake01 _).mono ?_
    rintro e w1 ⟨rfl, hB2⟩
    replace hB2 := below_step2 (w := w) (by repeat (first | exact Below.refl _ _ | apply below_alloc | apply below_drew | apply pw_below_drewN)) hB2
    replace hB := below_step2 hB hB2
    clear hB2
    go_wp2
    go_ret
    exact ⟨rfl, hB⟩
  have d5 : decide ((n : Int) < 2 * i + 2) = false := decide_eq_false (by omega)
  have q9 : (n : Int) < 2 * k + 2 := by omega
  go_enter Try.func5, Try.ntmps5
  go_wp2_with fail
  refine (awake01 _).mono ?_
  rintro e w1 ⟨rfl, hB2⟩
  replace hB2 := below_step2 (w := w) (by repeat (first | exact Below.refl _ _ | apply below_alloc | apply below_drew | apply pw_below_drewN)) hB2
  replace hB := below_step2 hB hB2
  clear hB2
  go_wp2
  go_ret
  exact ⟨rfl, hB⟩

theorem tot_set2' (l : List Int) (i : Nat) (hi : i % 2 = 0) (h : i + 1 < l.length) (u v : Int) :
    tot ((l.set i u).set (i + 1) v) = tot l - (256 * l.getD i 0 + l.getD (i + 1) 0) + (256 * u + v) := by
  rw [tot_set2 l i hi h, tot_split l i hi h]; omega
theorem gd_set (l : List Int) (i j : Nat) (v : Int) (hj : j < l.length) : (l.set i v).getD j 0 = if i = j then v else l.getD j 0 := by
  simp only [List.getD_eq_getElem?_getD, List.getElem?_set]
  split
  · subst_vars; simp [hj]
  · rfl
theorem set_same (l : List Int) (i : Nat) (h : i < l.length) : l.set i (l.getD i 0) = l := by
  have : l.getD i 0 = l[i] := gd_lt l i h
  rw [this]; exact List.set_getElem_self h
theorem tot_swap (l : List Int) (i k : Nat) (hi : 2 * i + 2 ≤ l.length) (hk : 2 * k + 2 ≤ l.length) :
    tot ((((l.set (2 * i) (l.getD (2 * k) 0)).set (2 * k) (l.getD (2 * i) 0)).set (2 * i + 1) (l.getD (2 * k + 1) 0)).set (2 * k + 1) (l.getD (2 * i + 1) 0)) = tot l := by
  by_cases e : i = k
  · subst e
    rw [set_same l (2 * i) (by omega), set_same l (2 * i) (by omega), set_same l (2 * i + 1) (by omega), set_same l (2 * i + 1) (by omega)]
  · rw [List.set_comm _ _ (show 2 * k ≠ 2 * i + 1 by omega)]
    rw [tot_set2' _ (2 * k) (by omega) (by simp; omega), tot_set2' _ (2 * i) (by omega) (by omega)]
    rw [gd_set _ _ _ _ (by simp; omega), gd_set _ _ _ _ (by omega), gd_set _ _ _ _ (by simp; omega), gd_set _ _ _ _ (by omega)]
    rw [if_neg (by omega), if_neg (by omega), if_neg (by omega), if_neg (by omega)]
    omega

set_option maxHeartbeats 8000000 in
theorem InetOrder_in (A : Option Addr) (n c : Nat) (xs : List Int) (i k : Nat) (w : World) (h : Bts w A n c xs) (hn : n ≤ 1000) (hi : 2 * i + 2 ≤ n) (hk : 2 * k + 2 ≤ n) :
    Calls Try.prog 5 #[.slice A n c, .int .i64 i, .int .i64 k] w fun e w' => e = .returned (.bool true) ∧ Below w.heap.size w w' := by
  have hl := h.len
  have hB := Below.refl w.heap.size w
  have d0 : decide ((1000 : Int) < (n : Int)) = false := decide_eq_false (by omega)
  have d1 : decide ((i : Int) < 0) = false := decide_eq_false (by omega)
  have d2 : decide ((k : Int) < 0) = false := decide_eq_false (by omega)
  have d3 : decide (1000 < (i : Int)) = false := decide_eq_false (by omega)
  have d4 : decide (1000 < (k : Int)) = false := decide_eq_false (by omega)
  have d5 : decide ((n : Int) < 2 * (i : Int) + 2) = false := decide_eq_false (by omega)
  have d6 : decide ((n : Int) < 2 * (k : Int) + 2) = false := decide_eq_false (by omega)
  have o0 := Lib.hid (OwnB.lit_at w w.heap.size w.heap.size [] rfl (Nat.le_refl _) byt_nil (by simp))
  have hB0 := Lib.hid ((Below.refl w.heap.size w).alloc (Nat.le_refl _) (.cells (nums .u8 []).toArray 5))
  go_enter Try.func5, Try.ntmps5
  go_wp2_with (at_builtin; refine append_own (w0 := w) w.heap.size rfl (.tmp 46) (.tmp 47) 22 rfl Try.underlying22 Try.info5o _ _ _ _ _ _ rfl rfl o0.out (h.alloc _) hB0.out hB0.out.size (by simp; omega) ?_; intro v1 w1 ho hB1 hg1)
  rw [List.nil_append] at ho
  obtain ⟨g, m, cap, e1, r⟩ := ho.row (by omega)
  subst e1
  have hm := r.len
  have hgw : w.heap.size ≤ g := r.base_
  have h0 := h
  have HB := Lib.hid h
  replace h := h.below hB1
  obtain ⟨ad, rfl, hc⟩ := h.some_ (by omega)
  have hne : ¬ ad.block = g := by
    obtain ⟨ad', e', hc'⟩ := h0.some_ (by omega)
    injection e' with e'
    subst e'
    have := World.block_lt_of_cell? w _ (hc' 0 (by omega))
    rw [Addr.add_zero'] at this
    omega
  have ck0 := hc (2 * k) (by omega)
  clear hc
  obtain ⟨xi0, hi0⟩ : ∃ x, xs.getD (2 * i) 0 = x := ⟨_, rfl⟩
  obtain ⟨xi1, hi1⟩ : ∃ x, xs.getD (2 * i + 1) 0 = x := ⟨_, rfl⟩
  obtain ⟨xk0, hk0⟩ : ∃ x, xs.getD (2 * k) 0 = x := ⟨_, rfl⟩
  obtain ⟨xk1, hk1⟩ : ∃ x, xs.getD (2 * k + 1) 0 = x := ⟨_, rfl⟩
  have hsw := tot_swap xs i k (by omega) (by omega)
  rw [hi0, hi1, hk0, hk1] at hsw
  have hsum := Lib.hid (show sumL ((((xs.set (2 * i) xk0).set (2 * k) xi0).set (2 * i + 1) xk1).set (2 * k + 1) xi1) = sumL xs by unfold sumL; rw [hsw])
  have hmid := Lib.hid (show sumL ((([] ++ xs.take (2 * i)) ++ [0, 0]) ++ xs.drop (2 * i)) = sumL xs by
    unfold sumL
    rw [List.nil_append, tot_append _ _ (by simp; omega), tot_append _ _ (by simp; omega), show tot [0, 0] = 0 from rfl, Int.add_zero, ← tot_append _ _ (by simp; omega), List.take_append_drop])
  clear hsw
  rw [hk0] at ck0
  have bi0 := byt_get h.byt (2 * i)
  have bi1 := byt_get h.byt (2 * i + 1)
  have bk0 := byt_get h.byt (2 * k)
  have bk1 := byt_get h.byt (2 * k + 1)
  rw [hi0] at bi0
  rw [hi1] at bi1
  rw [hk0] at bk0
  rw [hk1] at bk1
  have M := Lib.hid (show m = n by omega)
  have j0 : 2 * (i : Int) < (m : Int) := by omega
  have j1 : 2 * (i : Int) + 1 < (m : Int) := by omega
  have j2 : 2 * (k : Int) < (m : Int) := by omega
  have j3 : 2 * (k : Int) + 1 < (m : Int) := by omega
  clear hl hm
  clear h0
  have hBs := below_set (below_set (below_set (below_set hB1 (p := ⟨g, 2 * i, none⟩) hgw (.int .u8 xk0)) (p := ⟨g, 2 * k, none⟩) hgw (.int .u8 xi0)) (p := ⟨g, 2 * i + 1, none⟩) hgw (.int .u8 xk1)) (p := ⟨g, 2 * k + 1, none⟩) hgw (.int .u8 xi1)
  have r1 := r.set (2 * i) xk0 bk0
  have r2 := r1.set (2 * k) xi0 bi0
  have r3 := r2.set (2 * i + 1) xk1 bk1
  have r4 := r3.set (2 * k + 1) xi1 bi1
  have f0 := r.free (2 * i) (by omega)
  have g0 := r.cell (2 * i) (by omega)
  have f1 := r1.free (2 * k) (by omega)
  have g1 := r1.cell (2 * k) (by omega)
  have f2 := r2.free (2 * i + 1) (by omega)
  have g2 := r2.cell (2 * i + 1) (by omega)
  have f3 := r3.free (2 * k + 1) (by omega)
  have g3 := r3.cell (2 * k + 1) (by omega)
  have hfar : ∀ a', some ad = some a' → a'.block ≠ g := fun a' e' => by injection e' with e'; subst e'; exact hne
  have h1 := h.far (p := ⟨g, 2 * i, none⟩) hfar (.int .u8 xk0)
  have h2 := h1.far (p := ⟨g, 2 * k, none⟩) hfar (.int .u8 xi0)
  have h3 := h2.far (p := ⟨g, 2 * i + 1, none⟩) hfar (.int .u8 xk1)
  have h4 := h3.far (p := ⟨g, 2 * k + 1, none⟩) hfar (.int .u8 xi1)
  obtain ⟨_, e1, ci0⟩ := h1.at_ (2 * i) (by omega)
  injection e1 with e1
  subst e1
  obtain ⟨_, e2, ck1⟩ := h2.at_ (2 * k + 1) (by omega)
  injection e2 with e2
  subst e2
  obtain ⟨_, e3, ci1⟩ := h3.at_ (2 * i + 1) (by omega)
  injection e3 with e3
  subst e3
  rw [hi0] at ci0
  rw [hk1] at ck1
  rw [hi1] at ci1
  replace ck1 := cell_add ck1 (by omega)
  replace ci1 := cell_add ci1 (by omega)
  clear hi0 hi1 hk0 hk1 hfar h1 h2 h3
  refine wp_loop_rounds 3 ?_
  rw [rounds_succ]
  go_wp2
  rw [rounds_succ]
  go_wp2
  rw [rounds_succ]
  go_wp2_with fail
  clear f0 f1 f2 f3 g0 g1 g2 g3 ci0 ci1 ck0 ck1 r r1 r2 r3 hB1 h
  have R4 := Lib.hid r4
  clear r4
  generalize (((w1.setCell ⟨g, 2 * i, none⟩ (.int .u8 xk0)).setCell ⟨g, 2 * k, none⟩ (.int .u8 xi0)).setCell ⟨g, 2 * i + 1, none⟩ (.int .u8 xk1)).setCell ⟨g, 2 * k + 1, none⟩ (.int .u8 xi1) = W4 at h4 hBs R4 ⊢
  have hcap := HB.out.le
  have H4 := Lib.hid h4
  clear h4 HB
  have hW := Below.refl W4.heap.size W4
  have s1 : 2 * (i : Int) ≤ (c : Int) := by omega
  have s2 : ¬ c = 2 * i := by omega
  have s3 : (0 : Int) ≤ 2 * (i : Int) := by omega
  have s4 : (2 * (i : Int)).toNat = 2 * i := by omega
  have s5 : IntKind.i64.wrap (2 * (i : Int)) = 2 * (i : Int) := IntWalk.i64_in _ (by omega)
  have s6 : 2 * (i : Int) ≤ (n : Int) := by omega
  go_region_law (first
    | (refine step_append_own (w0 := W4) W4.heap.size rfl (.tmp 79) (.tmp 83) 22 rfl Try.underlying22 Try.info5o _ ([]) (xs.take (2 * i)) _ _ _ rfl rfl ?_ ?_ ?_ ?_ ?_ ?_
       · (repeat (first | exact OwnB.lit_at _ _ _ [] (by simp) (by simp) byt_nil (by simp) | apply OwnB.alloc | apply OwnB.drew))
       · exact (H4.out.below (by (repeat (first | assumption | apply below_alloc | apply below_drew)))).take (2 * i) (by omega)
       · (repeat (first | assumption | apply below_alloc | apply below_drew))
       · exact Below.size (by (repeat (first | assumption | apply below_alloc | apply below_drew)) : Below W4.heap.size W4 _)
       · simp; omega
       intro v5 w5 ho5 hB5 hg5)
    | (refine step_append_own (w0 := W4) W4.heap.size rfl (.tmp 86) (.tmp 90) 22 rfl Try.underlying22 Try.info5o _ (([] ++ xs.take (2 * i)) ++ [0, 0]) (xs.drop (2 * i)) _ _ _ rfl rfl ?_ ?_ ?_ ?_ ?_ ?_
       · (repeat (first | exact ho7 | apply OwnB.alloc | apply OwnB.drew))
       · exact (H4.out.below (by (repeat (first | assumption | apply below_alloc | apply below_drew)))).drop_some (2 * i) (by omega) s2
       · (repeat (first | assumption | apply below_alloc | apply below_drew))
       · exact Below.size (by (repeat (first | assumption | apply below_alloc | apply below_drew)) : Below W4.heap.size W4 _)
       · simp; omega
       intro v9 w9 ho9 hB9 hg9)
    | (refine step_append_own (w0 := W4) W4.heap.size rfl (.tmp 84) (.tmp 85) 22 rfl Try.underlying22 Try.info5o _ ([] ++ xs.take (2 * i)) ([0, 0]) _ _ _ rfl rfl ?_ ?_ ?_ ?_ ?_ ?_
       · (repeat (first | exact ho5 | apply OwnB.alloc | apply OwnB.drew))
       · (first | ((repeat (first | exact Bts.lit_at _ _ _ [0, 0] (by simp) (by decide) (by simp) | apply Bts.alloc | apply Bts.drew)); done) | (refine Bts.grown ?_ hg5 ?_; (repeat (first | exact Bts.lit_at _ _ _ [0, 0] (by simp) (by decide) (by simp) | apply Bts.alloc | apply Bts.drew)); (intro ad' e'; cases e'; simp [Act.eval, Value.ownBlock])))
       · (repeat (first | assumption | apply below_alloc | apply below_drew))
       · exact Below.size (by (repeat (first | assumption | apply below_alloc | apply below_drew)) : Below W4.heap.size W4 _)
       · simp; omega
       intro v7 w7 ho7 hB7 hg7))
  all_goals
    have hBz := below_step2 hBs hB9
    have k1 := (R4.out.below hB9).bts
    have k2 := H4.out.below hB9
    obtain ⟨A9, n9, c9, rfl, k3⟩ := ho9.bts
    clear hg5 hg7 hg9 hB5 hB7 hB9 ho5 ho7 ho9
    go_wp2_with fail
    refine (awake01 _).mono ?_
    rintro e w10 ⟨rfl, hB10⟩
    replace hBz := below_step2 hBz hB10
    replace k1 := k1.below hB10
    replace k2 := k2.below hB10
    replace k3 := k3.below hB10
    go_wp2_with fail
    refine (inet_Sum _ _ _ _ _ k1).mono ?_
    rintro e w' ⟨rfl, rfl⟩
    rw [hsum.out]
    go_wp2_with fail
    refine (inet_Sum _ _ _ _ _ k2).mono ?_
    rintro e w' ⟨rfl, rfl⟩
    go_wp2_with fail
    refine (inet_Sum _ _ _ _ _ k3).mono ?_
    rintro e w' ⟨rfl, rfl⟩
    rw [hmid.out]
    go_wp2_with fail
    refine (inet_Sum _ _ _ _ _ k2).mono ?_
    rintro e w' ⟨rfl, rfl⟩
    go_wp2
    go_ret
    exact ⟨rfl, hBz⟩

theorem InetOrder_any (A : Option Addr) (n c : Nat) (xs : List Int) (i k : Int) (w : World) (h : Bts w A n c xs) (_hi : I64 i) (_hk : I64 k) :
    Calls Try.prog 5 #[.slice A n c, .int .i64 i, .int .i64 k] w fun e w' => e = .returned (.bool true) ∧ Below w.heap.size w w' := by
  by_cases hout : 1000 < n ∨ i < 0 ∨ k < 0 ∨ 1000 < i ∨ 1000 < k ∨ (n : Int) < 2 * i + 2 ∨ (n : Int) < 2 * k + 2
  · exact InetOrder_out A n c xs i k w h hout
  · obtain ⟨a, rfl⟩ := Int.eq_ofNat_of_zero_le (show 0 ≤ i by omega)
    obtain ⟨b, rfl⟩ := Int.eq_ofNat_of_zero_le (show 0 ≤ k by omega)
    exact InetOrder_in A n c xs a b w h (by omega) (by omega) (by omega)
end Go.Proofs.Ytjmnkgonmkadgaa

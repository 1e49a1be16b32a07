/- AesApart holds: unlike bytes have unlike Boxes; unlike blocks have unlike answers under one key. Conditions: none beside the row's own reach. -/
import Derived.Test.YthjcdfnchjbijaaCAesF
namespace Go.Proofs.Ythjcdfnchjbijaa
open Go.RowKit Go.Proofs.YthjcdfnchjbijaaW.PrintWords




set_option maxHeartbeats 4000000 in
theorem AesApart_any (A : Option Addr) (n c : Nat) (ks : List Int) (B : Option Addr) (m d : Nat) (xs : List Int) (C : Option Addr) (l f : Nat) (ys : List Int) (x y : Int) (w : World)
    (h : Bts w A n c ks) (h2 : Bts w B m d xs) (h3 : Bts w C l f ys) (hx : 0 ≤ x ∧ x ≤ 255) (hy : 0 ≤ y ∧ y ≤ 255) :
    Calls Try.prog 6 #[.slice A n c, .slice B m d, .slice C l f, .int .u8 x, .int .u8 y] w fun e w' => e = .returned (.bool true) ∧ Below w.heap.size w w' := by
  have hn := h.max
  have hm := h2.max
  have hl := h3.max
  by_cases q1 : 300 < n
  · have d1 : decide ((300 : Int) < (n : Int)) = true := decide_eq_true (by omega)
    have d1' : decide (300 < n) = true := decide_eq_true q1
    go_enter Try.func6, Try.ntmps6
    go_wp2
    go_ret
    exact ⟨rfl, Below.refl _ _⟩
  have d1 : decide ((300 : Int) < (n : Int)) = false := decide_eq_false (by omega)
  have d1' : decide (300 < n) = false := decide_eq_false q1
  by_cases q2 : 300 < m
  · have d2 : decide ((300 : Int) < (m : Int)) = true := decide_eq_true (by omega)
    have d2' : decide (300 < m) = true := decide_eq_true q2
    go_enter Try.func6, Try.ntmps6
    go_wp2
    go_ret
    exact ⟨rfl, Below.refl _ _⟩
  have d2 : decide ((300 : Int) < (m : Int)) = false := decide_eq_false (by omega)
  have d2' : decide (300 < m) = false := decide_eq_false q2
  by_cases q3 : 300 < l
  · have d3 : decide ((300 : Int) < (l : Int)) = true := decide_eq_true (by omega)
    have d3' : decide (300 < l) = true := decide_eq_true q3
    go_enter Try.func6, Try.ntmps6
    go_wp2
    go_ret
    exact ⟨rfl, Below.refl _ _⟩
  have d3 : decide ((300 : Int) < (l : Int)) = false := decide_eq_false (by omega)
  have d3' : decide (300 < l) = false := decide_eq_false q3
  have hB := Below.refl w.heap.size w
  have hbox : Hid ((box x == box y) = (x == y)) := Lib.hid (by
    by_cases e : x = y
    · subst e; simp
    · rw [beq_eq_false_iff_ne.mpr e]
      exact beq_eq_false_iff_ne.mpr (fun q => e (box_inj hx hy q)))
  go_enter Try.func6, Try.ntmps6
  go_wp2_with fail
  refine (aes_Box x _ hx).mono ?_
  rintro e w2 ⟨rfl, hB2⟩
  replace hB2 := below_step2 (w := w) (by repeat (first | exact Below.refl _ _ | apply below_alloc | apply below_drew | apply pw_below_drewN)) hB2
  replace hB := below_step2 hB hB2
  clear hB2
  go_wp2_with fail
  refine (aes_Box y _ hy).mono ?_
  rintro e w3 ⟨rfl, hB2⟩
  replace hB2 := below_step2 (w := w2) (by repeat (first | exact Below.refl _ _ | apply below_alloc | apply below_drew | apply pw_below_drewN)) hB2
  replace hB := below_step2 hB hB2
  clear hB2
  have eb := hbox.out
  generalize box x = bx1 at eb ⊢
  generalize box y = by1 at eb ⊢
  by_cases hok : (n = 176 ∨ n = 240) ∧ m = 16 ∧ l = 16
  · obtain ⟨hnn, rfl, rfl⟩ := hok
    go_wp2_with fail
    refine (aes_Block A n c ks B _ d xs _ (h.below hB) (h2.below hB)).mono ?_
    rintro e w5 ⟨A5, n5, c5, rfl, t5, hB5⟩
    replace hB := below_step2 hB hB5
    clear hB5
    rw [(blkErr_zero.2 ⟨hnn, rfl⟩)] at t5 ⊢
    go_wp2_with fail
    refine (aes_Block A n c ks C _ f ys _ (h.below hB) (h3.below hB)).mono ?_
    rintro e w6 ⟨A6, n6, c6, rfl, t6, hB6⟩
    rw [(blkErr_zero.2 ⟨hnn, rfl⟩)] at t6 ⊢
    replace t5 : Bts w5 A5 n5 c5 (blockS ks xs) := t5
    replace t6 : Bts w6 A6 n6 c6 (blockS ks ys) := t6
    replace t5 := t5.below hB6
    replace hB := below_step2 hB hB6
    have l5 : n5 = 16 := by have := t5.len; rw [blockS_len] at this; exact this.symm
    have l6 : n6 = 16 := by have := t6.len; rw [blockS_len] at this; exact this.symm
    subst l5 l6
    clear hB6
    have hs : Hid (((strOfNums (blockS ks xs)).toList == (strOfNums (blockS ks ys)).toList) = ((strOfNums xs).toList == (strOfNums ys).toList)) := Lib.hid (by
      rw [str_eqb t5.byt t6.byt, str_eqb h2.byt h3.byt]
      refine decide_eq_decide.2 ⟨fun e => blockS_inj h2.len h3.len h2.byt h3.byt h.byt e, fun e => by rw [e]⟩)
    go_wp2_with fail
    refine (awake08 _).mono ?_
    rintro e w7 ⟨rfl, hB2⟩
    replace hB2 := below_step2 (w := w6) (by repeat (first | exact Below.refl _ _ | apply below_alloc | apply below_drew | apply pw_below_drewN)) hB2
    replace t5 := t5.below hB2
    replace t6 := t6.below hB2
    replace hB := below_step2 hB hB2
    clear hB2
    have k5 := t5.run_string (P := Try.prog) 28 9 Try.underlying28 Try.underlying5 Try.underlying9
    have k6 := t6.run_string (P := Try.prog) 28 9 Try.underlying28 Try.underlying5 Try.underlying9
    have k2 := (h2.below hB).run_string (P := Try.prog) 28 9 Try.underlying28 Try.underlying5 Try.underlying9
    have k3 := (h3.below hB).run_string (P := Try.prog) 28 9 Try.underlying28 Try.underlying5 Try.underlying9
    have es := hs.out
    generalize strOfNums (blockS ks xs) = s5 at k5 es
    generalize strOfNums (blockS ks ys) = s6 at k6 es
    clear h h2 h3 t5 t6 hs
    go_wp2
    go_ret
    exact ⟨rfl, hB⟩
  · by_cases hm16 : m = 16
    · by_cases hnn : n = 176 ∨ n = 240
      · have hl16 : l ≠ 16 := fun q => hok ⟨hnn, hm16, q⟩
        subst hm16
        have e3 : ((l : Int) != 16) = true := bne_iff_ne.mpr (by omega)
        have e3' : (l != 16) = true := bne_iff_ne.mpr hl16
        go_wp2_with fail
        refine (aes_Block A n c ks B _ d xs _ (h.below hB) (h2.below hB)).mono ?_
        rintro e w5 ⟨A5, n5, c5, rfl, t5, hB5⟩
        replace hB := below_step2 hB hB5
        clear hB5
        rw [(blkErr_zero.2 ⟨hnn, (rfl : 16 = 16)⟩)] at t5 ⊢
        go_wp2_with fail
        refine (aes_Block A n c ks C _ f ys _ (h.below hB) (h3.below hB)).mono ?_
        rintro e w6 ⟨A6, n6, c6, rfl, t6, hB6⟩
        rw [(blkErr_one (n := n) (m := l) (fun q => hl16 q.2))] at t6 ⊢
        replace hB := below_step2 hB hB6
        clear hB6 t5 t6 h h2 h3 hok hl16 hnn
        go_wp2_with fail
        refine (awake08 _).mono ?_
        rintro e w7 ⟨rfl, hB2⟩
        replace hB2 := below_step2 (w := w6) (by repeat (first | exact Below.refl _ _ | apply below_alloc | apply below_drew | apply pw_below_drewN)) hB2
        replace hB := below_step2 hB hB2
        clear hB2
        go_wp2
        go_ret
        exact ⟨rfl, hB⟩
      · subst hm16
        have e4 : ((n : Int) != 176) = true := bne_iff_ne.mpr (by omega)
        have e4' : (n != 176) = true := bne_iff_ne.mpr (by omega)
        have e5 : ((n : Int) != 240) = true := bne_iff_ne.mpr (by omega)
        have e5' : (n != 240) = true := bne_iff_ne.mpr (by omega)
        by_cases hl16 : l = 16
        · subst hl16
          go_wp2_with fail
          refine (aes_Block A n c ks B _ d xs _ (h.below hB) (h2.below hB)).mono ?_
          rintro e w5 ⟨A5, n5, c5, rfl, t5, hB5⟩
          replace hB := below_step2 hB hB5
          clear hB5
          rw [(blkErr_one (n := n) (m := 16) (fun q => hnn q.1))] at t5 ⊢
          go_wp2_with fail
          refine (aes_Block A n c ks C _ f ys _ (h.below hB) (h3.below hB)).mono ?_
          rintro e w6 ⟨A6, n6, c6, rfl, t6, hB6⟩
          rw [(blkErr_one (n := n) (m := 16) (fun q => hnn q.1))] at t6 ⊢
          replace hB := below_step2 hB hB6
          clear hB6 t5 t6 h h2 h3 hok hnn
          go_wp2_with fail
          refine (awake08 _).mono ?_
          rintro e w7 ⟨rfl, hB2⟩
          replace hB2 := below_step2 (w := w6) (by repeat (first | exact Below.refl _ _ | apply below_alloc | apply below_drew | apply pw_below_drewN)) hB2
          replace hB := below_step2 hB hB2
          clear hB2
          go_wp2
          go_ret
          exact ⟨rfl, hB⟩
        · have e3 : ((l : Int) != 16) = true := bne_iff_ne.mpr (by omega)
          have e3' : (l != 16) = true := bne_iff_ne.mpr hl16
          go_wp2_with fail
          refine (aes_Block A n c ks B _ d xs _ (h.below hB) (h2.below hB)).mono ?_
          rintro e w5 ⟨A5, n5, c5, rfl, t5, hB5⟩
          replace hB := below_step2 hB hB5
          clear hB5
          rw [(blkErr_one (n := n) (m := 16) (fun q => hnn q.1))] at t5 ⊢
          go_wp2_with fail
          refine (aes_Block A n c ks C _ f ys _ (h.below hB) (h3.below hB)).mono ?_
          rintro e w6 ⟨A6, n6, c6, rfl, t6, hB6⟩
          rw [(blkErr_one (n := n) (m := l) (fun q => hnn q.1))] at t6 ⊢
          replace hB := below_step2 hB hB6
          clear hB6 t5 t6 h h2 h3 hok hl16 hnn
          go_wp2_with fail
          refine (awake08 _).mono ?_
          rintro e w7 ⟨rfl, hB2⟩
          replace hB2 := below_step2 (w := w6) (by repeat (first | exact Below.refl _ _ | apply below_alloc | apply below_drew | apply pw_below_drewN)) hB2
          replace hB := below_step2 hB hB2
          clear hB2
          go_wp2
          go_ret
          exact ⟨rfl, hB⟩
    · have e3 : ((m : Int) != 16) = true := bne_iff_ne.mpr (by omega)
      have e3' : (m != 16) = true := bne_iff_ne.mpr hm16
      have hE : ∃ E, blkErr n l = E := ⟨_, rfl⟩
      obtain ⟨E, hE⟩ := hE
      replace hE := Lib.hid hE
      go_wp2_with fail
      refine (aes_Block A n c ks B _ d xs _ (h.below hB) (h2.below hB)).mono ?_
      rintro e w5 ⟨A5, n5, c5, rfl, t5, hB5⟩
      replace hB := below_step2 hB hB5
      clear hB5
      rw [(blkErr_one (n := n) (m := m) (fun q => hm16 q.2))] at t5 ⊢
      go_wp2_with fail
      refine (aes_Block A n c ks C _ f ys _ (h.below hB) (h3.below hB)).mono ?_
      rintro e w6 ⟨A6, n6, c6, rfl, t6, hB6⟩
      rw [hE.out] at t6 ⊢
      replace hB := below_step2 hB hB6
      clear hB6 t5 t6 h h2 h3 hok hm16
      go_wp2_with fail
      refine (awake08 _).mono ?_
      rintro e w7 ⟨rfl, hB2⟩
      replace hB2 := below_step2 (w := w6) (by repeat (first | exact Below.refl _ _ | apply below_alloc | apply below_drew | apply pw_below_drewN)) hB2
      replace hB := below_step2 hB hB2
      clear hB2
      go_wp2
      go_ret
      exact ⟨rfl, hB⟩
end Go.Proofs.Ythjcdfnchjbijaa

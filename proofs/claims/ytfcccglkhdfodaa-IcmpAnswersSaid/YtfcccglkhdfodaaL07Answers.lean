/- IcmpAnswers holds: what is made of a kind that tells of an error is of one; of another kind it is none; each Type and Code is of one kind. Conditions: none beside the row's own reach. -/
import Derived.Test.YtfcccglkhdfodaaAwake07
namespace Go.Proofs.Ytfcccglkhdfodaa
open Go.RowKit Go.Proofs.YtfcccglkhdfodaaW.PrintWords


set_option maxHeartbeats 4000000 in
theorem IcmpAnswers_any (k : Int) (wide : Bool) (t c : Int) (w : World) (_hk : I64 k) (_ht : I64 t) (_hc : I64 c) :
    Calls Try.prog 7 #[.int .i64 k, .bool wide, .int .i64 t, .int .i64 c] w fun e w' => e = .returned (.bool true) ∧ Below w.heap.size w w' := by
  have hK := icKind_bd t c wide
  go_enter Try.func7, Try.ntmps7
  go_wp2_with fail
  refine (icmp_Make k 7 wide none 0 0 [] w (by unfold I64; omega) (Bts.nil_ none 0 w (by omega))).mono ?_
  intro e w2 hp
  obtain ⟨x, y, q, A, n, d, zs, rfl, h, hB, ex, ey, eq, ez⟩ := hp.view
  clear hp h
  have G := Mg.new w2 x y q A n d
  replace hB := hB.alloc hB.size (.cells #[.int .i64 x, .int .i64 y, .int .i64 q, .slice A n d] 24)
  replace ex := Lib.hid ex
  replace ey := Lib.hid ey
  replace eq := Lib.hid eq
  clear ez
  have hE : Hid (icMakeErr k 7 = 0 ↔ 1 ≤ k ∧ k ≤ 6) := Lib.hid (by rw [icMakeErr_zero]; omega)
  generalize icMakeErr k 7 = E at ex ey eq hE ⊢
  go_wp2_with fail
  generalize w2.alloc (.cells #[.int .i64 x, .int .i64 y, .int .i64 q, .slice A n d] 24) = w3 at G hB ⊢
  refine (icmp_Kind t c 0 none 0 0 wide w3).mono ?_
  rintro e w4 ⟨rfl, hB4⟩
  replace G := G.below hB4
  replace hB := below_step2 hB hB4
  clear hB4
  generalize icKind t c wide = K at hK ⊢
  have d0 : decide (K < 0) = false := decide_eq_false (by omega)
  have d1 : decide (6 < K) = false := decide_eq_false (by omega)
  by_cases h1 : 1 ≤ k ∧ k ≤ 6
  · have e0 := hE.out.2 h1
    subst e0
    rw [if_pos rfl] at ex ey eq
    have f1 : decide (1 ≤ k) = true := decide_eq_true h1.1
    have f2 : decide (k ≤ 6) = true := decide_eq_true h1.2
    have hkk := Lib.hid (icMake_kind k wide h1.1 h1.2)
    by_cases h2 : k = 1
    · subst h2
      go_wp2_with fail
      refine (awake07 _).mono ?_
      rintro e w5 ⟨rfl, hB2⟩
      replace hB2 := below_step2 (w := w4) (by repeat (first | exact Below.refl _ _ | apply below_alloc | apply below_drew | apply pw_below_drewN)) hB2
      replace G := G.below hB2
      replace hB := below_step2 hB hB2
      clear hB2
      have c0 := G.c0
      have c1 := G.c1
      have c2 := G.c2
      have c3 := G.c3
      go_wp2_with fail
      refine (icmp_Kind x y q A n d wide w5).mono ?_
      rintro e w6 ⟨rfl, hB6⟩
      rw [ex.out, ey.out, hkk.out]
      have c2 := (G.below hB6).c2
      rw [eq.out] at c2
      replace hB := below_step2 hB hB6
      clear hB6 c0 c1 c3 G
      go_wp2_with fail
      refine (icmp_Error 1 _).mono ?_
      rintro e w' ⟨rfl, rfl⟩
      go_wp2
      go_ret
      exact ⟨rfl, hB⟩
    · have g1 : (k == 1) = false := beq_eq_false_iff_ne.mpr h2
      by_cases h3 : k = 2
      · subst h3
        go_wp2_with fail
        refine (awake07 _).mono ?_
        rintro e w5 ⟨rfl, hB2⟩
        replace hB2 := below_step2 (w := w4) (by repeat (first | exact Below.refl _ _ | apply below_alloc | apply below_drew | apply pw_below_drewN)) hB2
        replace G := G.below hB2
        replace hB := below_step2 hB hB2
        clear hB2
        have c0 := G.c0
        have c1 := G.c1
        have c2 := G.c2
        have c3 := G.c3
        go_wp2_with fail
        refine (icmp_Kind x y q A n d wide w5).mono ?_
        rintro e w6 ⟨rfl, hB6⟩
        rw [ex.out, ey.out, hkk.out]
        have c2 := (G.below hB6).c2
        rw [eq.out] at c2
        replace hB := below_step2 hB hB6
        clear hB6 c0 c1 c3 G
        go_wp2_with fail
        refine (icmp_Error 2 _).mono ?_
        rintro e w' ⟨rfl, rfl⟩
        go_wp2
        go_ret
        exact ⟨rfl, hB⟩
      · have g2 : (k == 2) = false := beq_eq_false_iff_ne.mpr h3
        have g3 : 3 ≤ k := by omega
        have g4 : k ≤ 6 := h1.2
        have g5 : decide (3 ≤ k ∧ k ≤ 6) = true := decide_eq_true ⟨g3, g4⟩
        replace h1 := Lib.hid h1
        clear h2 h3
        go_wp2_with fail
        refine (awake07 _).mono ?_
        rintro e w5 ⟨rfl, hB2⟩
        replace hB2 := below_step2 (w := w4) (by repeat (first | exact Below.refl _ _ | apply below_alloc | apply below_drew | apply pw_below_drewN)) hB2
        replace G := G.below hB2
        replace hB := below_step2 hB hB2
        clear hB2
        have c0 := G.c0
        have c1 := G.c1
        have c2 := G.c2
        have c3 := G.c3
        go_wp2_with fail
        refine (icmp_Kind x y q A n d wide w5).mono ?_
        rintro e w6 ⟨rfl, hB6⟩
        rw [ex.out, ey.out, hkk.out]
        have c2 := (G.below hB6).c2
        rw [eq.out] at c2
        replace hB := below_step2 hB hB6
        clear hB6 c0 c1 c3 G
        go_wp2_with fail
        refine (icmp_Error k _).mono ?_
        rintro e w' ⟨rfl, rfl⟩
        go_wp2
        go_ret
        exact ⟨rfl, hB⟩
  · have e0 : ¬ E = 0 := fun z => h1 (hE.out.1 z)
    have e1 : (E == 0) = false := beq_eq_false_iff_ne.mpr e0
    have e2 : (E != 0) = true := bne_iff_ne.mpr e0
    rw [if_neg e0] at eq
    replace eq := eq.out
    subst eq
    clear hE e0 ex ey
    by_cases h2 : 1 ≤ k
    · have f1 : decide (1 ≤ k) = true := decide_eq_true h2
      have f2 : decide (k ≤ 6) = false := decide_eq_false (fun z => h1 ⟨h2, z⟩)
      clear h1
      go_wp2_with fail
      refine (awake07 _).mono ?_
      rintro e w5 ⟨rfl, hB2⟩
      replace hB2 := below_step2 (w := w4) (by repeat (first | exact Below.refl _ _ | apply below_alloc | apply below_drew | apply pw_below_drewN)) hB2
      replace G := G.below hB2
      replace hB := below_step2 hB hB2
      clear hB2
      have c2 := G.c2
      go_wp2
      go_ret
      exact ⟨rfl, hB⟩
    · have f1 : decide (1 ≤ k) = false := decide_eq_false h2
      clear h1
      go_wp2_with fail
      refine (awake07 _).mono ?_
      rintro e w5 ⟨rfl, hB2⟩
      replace hB2 := below_step2 (w := w4) (by repeat (first | exact Below.refl _ _ | apply below_alloc | apply below_drew | apply pw_below_drewN)) hB2
      replace G := G.below hB2
      replace hB := below_step2 hB hB2
      clear hB2
      have c2 := G.c2
      go_wp2
      go_ret
      exact ⟨rfl, hB⟩
end Go.Proofs.Ytfcccglkhdfodaa

/- InetErrors and InetPseudo hold: what may not stand ahead is refused; what may has just the reference's sum; a check is turned just so. Conditions: none beside the rows' own reach. -/
import Derived.Test.YtjmnkgonmkadgaaAwake01
import Derived.Test.YtjmnkgonmkadgaaCPseudo
namespace Go.Proofs.Ytjmnkgonmkadgaa
open Go.RowKit Go.Proofs.YtjmnkgonmkadgaaW.PrintWords

set_option maxHeartbeats 2000000 in
theorem InetErrors_any (s d : ByteArray) (p n : Int) (w : World) (hs : s.size ≤ 140737488351232) (hd : d.size ≤ 140737488351232) (_hp : I64 p) (_hn : I64 n) :
    Calls Try.prog 7 #[.string s, .string d, .int .i64 p, .int .i64 n] w fun e w' => e = .returned (.bool true) ∧ Below w.heap.size w w' := by
  have hB := Below.refl w.heap.size w
  by_cases h : psOk s.size d.size p n
  · have h' := h
    unfold psOk at h'
    obtain ⟨q1, q2, q3, q4, q5⟩ := h'
    have hb := canon_bd (psTot (bytesOf s) (bytesOf d) p n)
    have d1 : ((s.size : Int) == (d.size : Int)) = true := by rw [beq_iff_eq]; omega
    have d2 : (s.size == d.size) = true := by rw [beq_iff_eq]; omega
    rcases q5 with ⟨q5, q6⟩ | ⟨q5, q6⟩
    · have d3 : ((s.size : Int) == 4) = true := by rw [beq_iff_eq]; omega
      have H := Lib.hid h
      clear h q1 q5
      go_enter Try.func7, Try.ntmps7
      go_wp2_with fail
      refine (inet_Pseudo_yes s d p n _ hs hd H.out).mono ?_
      rintro e w1 ⟨rfl, hB2⟩
      replace hB2 := below_step2 (w := w) (by repeat (first | exact Below.refl _ _ | apply below_alloc | apply below_drew | apply pw_below_drewN)) hB2
      replace hB := below_step2 hB hB2
      clear hB2
      go_wp2_with fail
      refine (awake01 _).mono ?_
      rintro e w2 ⟨rfl, hB2⟩
      replace hB2 := below_step2 (w := w1) (by repeat (first | exact Below.refl _ _ | apply below_alloc | apply below_drew | apply pw_below_drewN)) hB2
      replace hB := below_step2 hB hB2
      clear hB2
      go_wp2
      go_ret
      exact ⟨rfl, hB⟩
    · have d3 : ((s.size : Int) == 4) = false := by rw [beq_eq_false_iff_ne]; omega
      have d4 : ((s.size : Int) == 16) = true := by rw [beq_iff_eq]; omega
      have H := Lib.hid h
      clear h q1 q5
      go_enter Try.func7, Try.ntmps7
      go_wp2_with fail
      refine (inet_Pseudo_yes s d p n _ hs hd H.out).mono ?_
      rintro e w1 ⟨rfl, hB2⟩
      replace hB2 := below_step2 (w := w) (by repeat (first | exact Below.refl _ _ | apply below_alloc | apply below_drew | apply pw_below_drewN)) hB2
      replace hB := below_step2 hB hB2
      clear hB2
      go_wp2_with fail
      refine (awake01 _).mono ?_
      rintro e w2 ⟨rfl, hB2⟩
      replace hB2 := below_step2 (w := w1) (by repeat (first | exact Below.refl _ _ | apply below_alloc | apply below_drew | apply pw_below_drewN)) hB2
      replace hB := below_step2 hB hB2
      clear hB2
      go_wp2
      go_ret
      exact ⟨rfl, hB⟩
  · have H := Lib.hid h
    clear h
    by_cases q1 : s.size = d.size
    · have d1 : ((s.size : Int) == (d.size : Int)) = true := by rw [beq_iff_eq]; omega
      have d2 : (s.size == d.size) = true := by rw [beq_iff_eq]; omega
      by_cases q5 : s.size = 4
      · have d3 : ((s.size : Int) == 4) = true := by rw [beq_iff_eq]; omega
        have d4 : ((s.size : Int) == 16) = false := by rw [beq_eq_false_iff_ne]; omega
        by_cases q6 : n ≤ 65535
        · have d5 : decide (n ≤ 65535) = true := decide_eq_true q6
          by_cases r1 : n < 0
          · have e1 : decide (0 ≤ n) = false := decide_eq_false (by omega)
            clear q1 q5
            go_enter Try.func7, Try.ntmps7
            go_wp2_with fail
            refine (inet_Pseudo_no s d p n _ hs hd H.out).mono ?_
            rintro e w' ⟨rfl, rfl⟩
            go_wp2_with fail
            refine (awake01 _).mono ?_
            rintro e w1 ⟨rfl, hB2⟩
            replace hB2 := below_step2 (w := w) (by repeat (first | exact Below.refl _ _ | apply below_alloc | apply below_drew | apply pw_below_drewN)) hB2
            replace hB := below_step2 hB hB2
            clear hB2
            go_wp2
            go_ret
            exact ⟨rfl, hB⟩
          have e1 : decide (0 ≤ n) = true := decide_eq_true (by omega)
          by_cases r2 : p < 0
          · have e2 : decide (0 ≤ p) = false := decide_eq_false (by omega)
            clear q1 q5
            go_enter Try.func7, Try.ntmps7
            go_wp2_with fail
            refine (inet_Pseudo_no s d p n _ hs hd H.out).mono ?_
            rintro e w' ⟨rfl, rfl⟩
            go_wp2_with fail
            refine (awake01 _).mono ?_
            rintro e w1 ⟨rfl, hB2⟩
            replace hB2 := below_step2 (w := w) (by repeat (first | exact Below.refl _ _ | apply below_alloc | apply below_drew | apply pw_below_drewN)) hB2
            replace hB := below_step2 hB hB2
            clear hB2
            go_wp2
            go_ret
            exact ⟨rfl, hB⟩
          have e2 : decide (0 ≤ p) = true := decide_eq_true (by omega)
          by_cases r3 : 255 < p
          · have e3 : decide (p ≤ 255) = false := decide_eq_false (by omega)
            clear q1 q5
            go_enter Try.func7, Try.ntmps7
            go_wp2_with fail
            refine (inet_Pseudo_no s d p n _ hs hd H.out).mono ?_
            rintro e w' ⟨rfl, rfl⟩
            go_wp2_with fail
            refine (awake01 _).mono ?_
            rintro e w1 ⟨rfl, hB2⟩
            replace hB2 := below_step2 (w := w) (by repeat (first | exact Below.refl _ _ | apply below_alloc | apply below_drew | apply pw_below_drewN)) hB2
            replace hB := below_step2 hB hB2
            clear hB2
            go_wp2
            go_ret
            exact ⟨rfl, hB⟩
          have e3 : decide (p ≤ 255) = true := decide_eq_true (by omega)
          exact absurd (show psOk s.size d.size p n by unfold psOk; omega) H.out
        · have d5 : decide (n ≤ 65535) = false := decide_eq_false q6
          clear q1 q5
          go_enter Try.func7, Try.ntmps7
          go_wp2_with fail
          refine (inet_Pseudo_no s d p n _ hs hd H.out).mono ?_
          rintro e w' ⟨rfl, rfl⟩
          go_wp2_with fail
          refine (awake01 _).mono ?_
          rintro e w1 ⟨rfl, hB2⟩
          replace hB2 := below_step2 (w := w) (by repeat (first | exact Below.refl _ _ | apply below_alloc | apply below_drew | apply pw_below_drewN)) hB2
          replace hB := below_step2 hB hB2
          clear hB2
          go_wp2
          go_ret
          exact ⟨rfl, hB⟩
      · have d3 : ((s.size : Int) == 4) = false := by rw [beq_eq_false_iff_ne]; omega
        by_cases q8 : s.size = 16
        · have d4 : ((s.size : Int) == 16) = true := by rw [beq_iff_eq]; omega
          replace q5 := And.intro q5 q8
          clear q8
          by_cases q6 : n ≤ 4294967295
          · have d5 : decide (n ≤ 4294967295) = true := decide_eq_true q6
            by_cases r1 : n < 0
            · have e1 : decide (0 ≤ n) = false := decide_eq_false (by omega)
              clear q1 q5
              go_enter Try.func7, Try.ntmps7
              go_wp2_with fail
              refine (inet_Pseudo_no s d p n _ hs hd H.out).mono ?_
              rintro e w' ⟨rfl, rfl⟩
              go_wp2_with fail
              refine (awake01 _).mono ?_
              rintro e w1 ⟨rfl, hB2⟩
              replace hB2 := below_step2 (w := w) (by repeat (first | exact Below.refl _ _ | apply below_alloc | apply below_drew | apply pw_below_drewN)) hB2
              replace hB := below_step2 hB hB2
              clear hB2
              go_wp2
              go_ret
              exact ⟨rfl, hB⟩
            have e1 : decide (0 ≤ n) = true := decide_eq_true (by omega)
            by_cases r2 : p < 0
            · have e2 : decide (0 ≤ p) = false := decide_eq_false (by omega)
              clear q1 q5
              go_enter Try.func7, Try.ntmps7
              go_wp2_with fail
              refine (inet_Pseudo_no s d p n _ hs hd H.out).mono ?_
              rintro e w' ⟨rfl, rfl⟩
              go_wp2_with fail
              refine (awake01 _).mono ?_
              rintro e w1 ⟨rfl, hB2⟩
              replace hB2 := below_step2 (w := w) (by repeat (first | exact Below.refl _ _ | apply below_alloc | apply below_drew | apply pw_below_drewN)) hB2
              replace hB := below_step2 hB hB2
              clear hB2
              go_wp2
              go_ret
              exact ⟨rfl, hB⟩
            have e2 : decide (0 ≤ p) = true := decide_eq_true (by omega)
            by_cases r3 : 255 < p
            · have e3 : decide (p ≤ 255) = false := decide_eq_false (by omega)
              clear q1 q5
              go_enter Try.func7, Try.ntmps7
              go_wp2_with fail
              refine (inet_Pseudo_no s d p n _ hs hd H.out).mono ?_
              rintro e w' ⟨rfl, rfl⟩
              go_wp2_with fail
              refine (awake01 _).mono ?_
              rintro e w1 ⟨rfl, hB2⟩
              replace hB2 := below_step2 (w := w) (by repeat (first | exact Below.refl _ _ | apply below_alloc | apply below_drew | apply pw_below_drewN)) hB2
              replace hB := below_step2 hB hB2
              clear hB2
              go_wp2
              go_ret
              exact ⟨rfl, hB⟩
            have e3 : decide (p ≤ 255) = true := decide_eq_true (by omega)
            exact absurd (show psOk s.size d.size p n by unfold psOk; omega) H.out
          · have d5 : decide (n ≤ 4294967295) = false := decide_eq_false q6
            clear q1 q5
            go_enter Try.func7, Try.ntmps7
            go_wp2_with fail
            refine (inet_Pseudo_no s d p n _ hs hd H.out).mono ?_
            rintro e w' ⟨rfl, rfl⟩
            go_wp2_with fail
            refine (awake01 _).mono ?_
            rintro e w1 ⟨rfl, hB2⟩
            replace hB2 := below_step2 (w := w) (by repeat (first | exact Below.refl _ _ | apply below_alloc | apply below_drew | apply pw_below_drewN)) hB2
            replace hB := below_step2 hB hB2
            clear hB2
            go_wp2
            go_ret
            exact ⟨rfl, hB⟩
        · have d4 : ((s.size : Int) == 16) = false := by rw [beq_eq_false_iff_ne]; omega
          clear q1 q5 q8
          go_enter Try.func7, Try.ntmps7
          go_wp2_with fail
          refine (inet_Pseudo_no s d p n _ hs hd H.out).mono ?_
          rintro e w' ⟨rfl, rfl⟩
          go_wp2_with fail
          refine (awake01 _).mono ?_
          rintro e w1 ⟨rfl, hB2⟩
          replace hB2 := below_step2 (w := w) (by repeat (first | exact Below.refl _ _ | apply below_alloc | apply below_drew | apply pw_below_drewN)) hB2
          replace hB := below_step2 hB hB2
          clear hB2
          go_wp2
          go_ret
          exact ⟨rfl, hB⟩
    · have d1 : ((s.size : Int) == (d.size : Int)) = false := by rw [beq_eq_false_iff_ne]; omega
      have d2 : (s.size == d.size) = false := by rw [beq_eq_false_iff_ne]; omega
      clear q1
      go_enter Try.func7, Try.ntmps7
      go_wp2_with fail
      refine (inet_Pseudo_no s d p n _ hs hd H.out).mono ?_
      rintro e w' ⟨rfl, rfl⟩
      go_wp2_with fail
      refine (awake01 _).mono ?_
      rintro e w1 ⟨rfl, hB2⟩
      replace hB2 := below_step2 (w := w) (by repeat (first | exact Below.refl _ _ | apply below_alloc | apply below_drew | apply pw_below_drewN)) hB2
      replace hB := below_step2 hB hB2
      clear hB2
      go_wp2
      go_ret
      exact ⟨rfl, hB⟩
end Go.Proofs.Ytjmnkgonmkadgaa

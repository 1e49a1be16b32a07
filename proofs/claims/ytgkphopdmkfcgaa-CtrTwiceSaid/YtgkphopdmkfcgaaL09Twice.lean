/- CtrTwice holds: turned twice bytes are as they were; a beginning is turned as it is in the whole. Conditions: none beside the row's own reach. -/
import Derived.Test.YtgkphopdmkfcgaaCtrLaw
import Derived.Deep.RegionWith
namespace Go.Proofs.Ytgkphopdmkfcgaa
open Go.RowKit Go.Proofs.YtgkphopdmkfcgaaW.PrintWords


set_option maxHeartbeats 4000000 in
theorem CtrTwice_any (A : Option Addr) (a c : Nat) (xs : List Int) (B : Option Addr) (b d : Nat) (ys : List Int) (C : Option Addr) (e f : Nat) (zs : List Int) (D : Option Addr) (m k : Nat) (bs : List Int) (n : Int) (w : World)
    (h : Bts w A a c xs) (h2 : Bts w B b d ys) (h3 : Bts w C e f zs) (h4 : Bts w D m k bs) (_hn : I64 n) :
    Calls Try.prog 4 #[.slice A a c, .slice B b d, .slice C e f, .slice D m k, .int .i64 n] w fun q w' => q = .returned (.bool true) ∧ Below w.heap.size w w' := by
  have ha := h.max
  have hb := h2.max
  have he := h3.max
  have hm := h4.max
  go_enter Try.func4, Try.ntmps4
  go_wp2_with fail
  refine (law09_few A a c B b d C e f _ ha hb he).mono ?_
  rintro e w' ⟨rfl, rfl⟩
  by_cases q1 : fewB a b e = true
  case neg =>
    rw [show fewB a b e = false from Bool.eq_false_iff.2 q1]
    go_wp2_with fail
    refine (awake09 _).mono ?_
    rintro e w2 ⟨rfl, hB2⟩
    go_wp2
    go_ret
    exact ⟨rfl, hB2⟩
  rw [q1]
  by_cases q2 : 400 < m
  · have d2 : decide ((400 : Int) < (m : Int)) = true := decide_eq_true (by omega)
    have d2' : decide (400 < m) = true := decide_eq_true q2
    go_wp2_with fail
    refine (awake09 _).mono ?_
    rintro e w2 ⟨rfl, hB2⟩
    go_wp2
    go_ret
    exact ⟨rfl, hB2⟩
  have d2 : decide ((400 : Int) < (m : Int)) = false := decide_eq_false (by omega)
  have d2' : decide (400 < m) = false := decide_eq_false q2
  by_cases q3 : n < 0
  · have d3 : decide (n < 0) = true := decide_eq_true q3
    go_wp2_with fail
    refine (awake09 _).mono ?_
    rintro e w2 ⟨rfl, hB2⟩
    go_wp2
    go_ret
    exact ⟨rfl, hB2⟩
  obtain ⟨i, rfl⟩ := Int.eq_ofNat_of_zero_le (by omega : 0 ≤ n)
  have d3 : decide ((i : Int) < 0) = false := decide_eq_false q3
  by_cases q4 : m < i
  · have d4 : decide ((m : Int) < (i : Int)) = true := decide_eq_true (by omega)
    have d4' : decide (m < i) = true := decide_eq_true q4
    go_wp2_with fail
    refine (awake09 _).mono ?_
    rintro e w2 ⟨rfl, hB2⟩
    go_wp2
    go_ret
    exact ⟨rfl, hB2⟩
  have d4 : decide ((m : Int) < (i : Int)) = false := decide_eq_false (by omega)
  have d4' : decide (m < i) = false := decide_eq_false q4
  have hmk := h4.le
  have hB := Below.refl w.heap.size w
  go_wp2_with fail
  refine (ctr_Turn A a c xs B b d ys C e f zs D m k bs w h h2 h3 h4).mono ?_
  rintro q w2 ⟨A2, n2, c2, rfl, o2, hB2⟩
  rw [strErr_small (by omega)] at o2 ⊢
  replace hB := below_step2 hB hB2
  by_cases hE : (a = 16 ∨ a = 32) ∧ b = 4 ∧ e = 8
  case neg =>
    rw [if_neg hE] at o2 ⊢
    have l2 := o2.sl.len
    simp at l2
    subst l2
    go_wp2_with fail
    refine (ctr_Turn A a c xs B b d ys C e f zs A2 0 c2 _ w2 (h.below hB) (h2.below hB) (h3.below hB) o2.sl).mono ?_
    rintro q w3 ⟨A3, n3, c3, rfl, o3, hB3⟩
    replace hB := below_step2 hB hB3
    go_wp2_with fail
    refine (ctr_Turn A a c xs B b d ys C e f zs D i k _ w3 (h.below hB) (h2.below hB) (h3.below hB) ((h4.below hB).take i (by omega))).mono ?_
    rintro q w4 ⟨A4, n4, c4, rfl, o4, hB4⟩
    replace hB := below_step2 hB hB4
    clear o2 o3 o4 hB2 hB3 hB4
    go_wp2_with fail
    refine (awake09 _).mono ?_
    rintro e w5 ⟨rfl, hB5⟩
    replace hB := below_step2 hB hB5
    go_wp2
    go_ret
    exact ⟨rfl, hB⟩
  case pos =>
  rw [if_pos hE, if_pos rfl] at o2
  rw [if_pos hE]
  obtain ⟨hE1, rfl, rfl⟩ := hE
  replace hE1 := Lib.hid hE1
  have l2 := o2.sl.len
  rw [xorS_len (by rw [strmS_len, h4.len]), h4.len] at l2
  subst l2
  go_wp2_with fail
  refine (ctr_Turn A a c xs B 4 d ys C 8 f zs A2 m c2 _ w2 (h.below hB) (h2.below hB) (h3.below hB) o2.sl).mono ?_
  rintro q w3 ⟨A3, n3, c3, rfl, o3, hB3⟩
  rw [strErr_ok hE1.out (by omega), if_pos rfl, xorS_twice (by rw [strmS_len, h4.len]) h4.byt] at o3
  rw [strErr_ok hE1.out (by omega)]
  replace hB := below_step2 hB hB3
  have t2 := o2.sl.below hB3
  have t3 := o3.sl
  clear o2 o3 hB2 hB3
  go_wp2_with fail
  refine (ctr_Turn A a c xs B 4 d ys C 8 f zs D i k _ w3 (h.below hB) (h2.below hB) (h3.below hB) ((h4.below hB).take i (by omega))).mono ?_
  rintro q w4 ⟨A4, n4, c4, rfl, o4, hB4⟩
  rw [strErr_ok hE1.out (by omega), if_pos rfl, ← strmS_take xs ys zs (show i ≤ m by omega), ← xorS_take] at o4
  rw [strErr_ok hE1.out (by omega)]
  replace hB := below_step2 hB hB4
  replace t2 := t2.below hB4
  replace t3 := t3.below hB4
  have t4 := o4.sl
  have t5 := t2.take i (by omega)
  have l5 := t2.le
  have hbm := h4.below hB
  clear o4 hB4 h h2 h3 h4 hE1 q1 q2 q3
  generalize xorS (strmS xs ys zs m) bs = X at t2 t4 t5
  have cv := fun (W : World) (hW : Below w4.heap.size w4 W) => (⟨(t3.below hW).run_string (P := Try.prog) 22 9 Try.underlying22 Try.underlying5 Try.underlying9, (hbm.below hW).run_string (P := Try.prog) 22 9 Try.underlying22 Try.underlying5 Try.underlying9,
    (t4.below hW).run_string (P := Try.prog) 22 9 Try.underlying22 Try.underlying5 Try.underlying9, (t5.below hW).run_string (P := Try.prog) 22 9 Try.underlying22 Try.underlying5 Try.underlying9⟩ : (convert 22 9 (.slice A3 n3 c3)).run Try.prog W = .ok (.string (strOfNums bs)) W ∧ (convert 22 9 (.slice D m k)).run Try.prog W = .ok (.string (strOfNums bs)) W ∧
      (convert 22 9 (.slice A4 n4 c4)).run Try.prog W = .ok (.string (strOfNums (X.take i))) W ∧ (convert 22 9 (.slice A2 i c2)).run Try.prog W = .ok (.string (strOfNums (X.take i))) W)
  have RD := Lib.hid (cv _ (below_drew (Below.refl _ _)))
  replace cv := Lib.hid cv
  have BD := Lib.hid (below_drew hB)
  have j1 : (i : Int) ≤ (m : Int) := by omega
  have j2 : (i : Int) ≤ (c2 : Int) := by omega
  have j3 : (0 : Int) ≤ (i : Int) := by omega
  clear t2 t3 t4 t5 hbm hB
  go_wp2
  go_region_held3 (fun w' => (convert 22 9 (.slice A3 n3 c3)).run Try.prog w' = .ok (.string (strOfNums bs)) w' ∧ (convert 22 9 (.slice D m k)).run Try.prog w' = .ok (.string (strOfNums bs)) w' ∧
      (convert 22 9 (.slice A4 n4 c4)).run Try.prog w' = .ok (.string (strOfNums (X.take i))) w' ∧ (convert 22 9 (.slice A2 i c2)).run Try.prog w' = .ok (.string (strOfNums (X.take i))) w')
    (first | exact R7.out | exact RD.out)
    (first
      | (go_at_call 15
         refine (awake09 _).mono ?_
         rintro e w7 ⟨rfl, hB7⟩
         have R7 := Lib.hid (cv.out w7 ((below_drew (Below.refl _ _)).trans (hB7.mono (Nat.le_refl _))))
         have B7 := Lib.hid (below_step2 BD.out hB7)
         clear hB7))
  all_goals
    go_wp2
    go_ret
    exact ⟨rfl, B7.out⟩
end Go.Proofs.Ytgkphopdmkfcgaa

/- CtrPlaces holds: bytes that are unlike in some places are turned to such that are unlike just there, and as much. Conditions: none beside the row's own reach. -/
import Derived.Test.YtgkphopdmkfcgaaCtrLaw
import Derived.Deep.RegionWith
namespace Go.Proofs.Ytgkphopdmkfcgaa
open Go.RowKit Go.Proofs.YtgkphopdmkfcgaaW.PrintWords


set_option maxHeartbeats 4000000 in
theorem CtrPlaces_any (A : Option Addr) (a c : Nat) (xs : List Int) (B : Option Addr) (b d : Nat) (ys : List Int) (C : Option Addr) (e f : Nat) (zs : List Int) (D : Option Addr) (m k : Nat) (us : List Int) (E : Option Addr) (n l : Nat) (bs : List Int) (w : World)
    (h : Bts w A a c xs) (h2 : Bts w B b d ys) (h3 : Bts w C e f zs) (h4 : Bts w D m k us) (h5 : Bts w E n l bs) :
    Calls Try.prog 5 #[.slice A a c, .slice B b d, .slice C e f, .slice D m k, .slice E n l] w fun q w' => q = .returned (.bool true) ∧ Below w.heap.size w w' := by
  have ha := h.max
  have hb := h2.max
  have he := h3.max
  have hm := h4.max
  have hn := h5.max
  go_enter Try.func5, Try.ntmps5
  go_wp2_with fail
  refine (law09_few A a c B b d C e f _ ha hb he).mono ?_
  rintro e w' ⟨rfl, rfl⟩
  by_cases q1 : fewB a b e = true
  case neg =>
    rw [show fewB a b e = false from Bool.eq_false_iff.2 q1]
    go_wp2_with fail
    refine (awake09 _).mono ?_
    rintro e w2 ⟨rfl, hB2⟩
    go_wp2
    go_ret
    exact ⟨rfl, hB2⟩
  rw [q1]
  by_cases q2 : 400 < m
  · have d2 : decide ((400 : Int) < (m : Int)) = true := decide_eq_true (by omega)
    have d2' : decide (400 < m) = true := decide_eq_true q2
    go_wp2_with fail
    refine (awake09 _).mono ?_
    rintro e w2 ⟨rfl, hB2⟩
    go_wp2
    go_ret
    exact ⟨rfl, hB2⟩
  have d2 : decide ((400 : Int) < (m : Int)) = false := decide_eq_false (by omega)
  have d2' : decide (400 < m) = false := decide_eq_false q2
  by_cases q3 : m = n
  case neg =>
    have d3 : ((m : Int) != (n : Int)) = true := bne_iff_ne.mpr (by omega)
    have d3' : (m != n) = true := bne_iff_ne.mpr q3
    go_wp2_with fail
    refine (awake09 _).mono ?_
    rintro e w2 ⟨rfl, hB2⟩
    go_wp2
    go_ret
    exact ⟨rfl, hB2⟩
  subst q3
  have hB := Below.refl w.heap.size w
  go_wp2_with fail
  refine (ctr_Turn A a c xs B b d ys C e f zs D m k us w h h2 h3 h4).mono ?_
  rintro q w2 ⟨A2, n2, c2, rfl, o2, hB2⟩
  replace hB := below_step2 hB hB2
  have t2 := o2.sl
  clear o2 hB2
  go_wp2_with fail
  refine (ctr_Turn A a c xs B b d ys C e f zs E m l bs w2 (h.below hB) (h2.below hB) (h3.below hB) (h5.below hB)).mono ?_
  rintro q w3 ⟨A3, n3, c3, rfl, o3, hB3⟩
  replace hB := below_step2 hB hB3
  replace t2 := t2.below hB3
  have t3 := o3.sl
  clear o3 hB3
  by_cases hE : (a = 16 ∨ a = 32) ∧ b = 4 ∧ e = 8
  case neg =>
    have e1 : strErr a b e (m : Int) = 1 := by rw [strErr_small (by omega), if_neg hE]
    rw [e1] at t2 t3 ⊢
    have l2 := t2.len
    have l3 := t3.len
    simp at l2 l3
    subst l2 l3
    clear t2 t3 hE e1 h h2 h3 h4 h5 q1
    go_wp2_with fail
    refine (awake09 _).mono ?_
    rintro e w5 ⟨rfl, hB5⟩
    replace hB := below_step2 hB hB5
    go_wp2
    go_ret
    exact ⟨rfl, hB⟩
  case pos =>
  obtain ⟨hE1, rfl, rfl⟩ := hE
  have e1 : strErr a 4 8 (m : Int) = 0 := strErr_ok hE1 (by omega)
  rw [e1] at t2 t3 ⊢
  rw [if_pos rfl] at t2 t3
  have l2 := t2.len
  rw [xorS_len (by rw [strmS_len, h4.len]), h4.len] at l2
  subst l2
  have l3 := t3.len
  rw [xorS_len (by rw [strmS_len, h5.len]), h5.len] at l3
  subst l3
  replace h4 := h4.below hB
  replace h5 := h5.below hB
  have hz : Hid (∀ i, i < m → bx ((xorS (strmS xs ys zs m) us).getD i 0) ((xorS (strmS xs ys zs m) bs).getD i 0) = bx (us.getD i 0) (bs.getD i 0)) := Lib.hid fun i hi => by
    rw [xorS_get (by rw [strmS_len, h4.len]) i (by rw [h4.len]; exact hi), xorS_get (by rw [strmS_len, h5.len]) i (by rw [h5.len]; exact hi), bx_places]
  generalize xorS (strmS xs ys zs m) us = X at t2 hz
  generalize xorS (strmS xs ys zs m) bs = Y at t3 hz
  have T2 := Lib.hid t2
  have T3 := Lib.hid t3
  have T4 := Lib.hid h4
  have T5 := Lib.hid h5
  have HB := Lib.hid hB
  clear h h2 h3 h4 h5 t2 t3 hB hE1 e1 q1 q2
  go_wp2
  go_loopw [15] (fun vi wr => ∃ (i : Nat), vi = .int .i64 (i : Int) ∧ i ≤ m ∧ Hid (Below w3.heap.size w3 wr)) (fun vi _ => m - (intOf vi).toNat)
  case atStart => exact ⟨0, rfl, by omega, Lib.hid (Below.refl _ _)⟩
  case round =>
    obtain ⟨i, rfl, hi, HW⟩ := hrel
    by_cases h0 : i < m
    · obtain ⟨ad2, rfl, g2⟩ := (T2.out.below HW.out).at_ i h0
      obtain ⟨ad3, rfl, g3⟩ := (T3.out.below HW.out).at_ i h0
      obtain ⟨ad4, rfl, g4⟩ := (T4.out.below HW.out).at_ i h0
      obtain ⟨ad5, rfl, g5⟩ := (T5.out.below HW.out).at_ i h0
      have b2 := byt_get T2.out.byt i
      have b3 := byt_get T3.out.byt i
      have b4 := byt_get T4.out.byt i
      have b5 := byt_get T5.out.byt i
      have hv := hz.out i h0
      have i1 : (i : Int) < (m : Int) := by omega
      have i2 : (0 : Int) ≤ (i : Int) := by omega
      have i3 : decide ((m : Int) ≤ (i : Int)) = false := decide_eq_false (by omega)
      have i3' : decide (m ≤ i) = false := decide_eq_false (by omega)
      generalize X.getD i 0 = x2 at g2 b2 hv
      generalize Y.getD i 0 = x3 at g3 b3 hv
      generalize us.getD i 0 = x4 at g4 b4 hv
      generalize bs.getD i 0 = x5 at g5 b5 hv
      have hq : (bits .xor .u8 x4 x5 != bits .xor .u8 x2 x3) = false := by rw [k_xor_u8 _ _ b4 b5, k_xor_u8 _ _ b2 b3, hv]; simp
      clear b2 b3 b4 b5 hv
      go_wp2
      go_region_held3 (fun w' => w'.cell? (ad4.add i) = some (.int .u8 x4) ∧ w'.cell? (ad5.add i) = some (.int .u8 x5) ∧ w'.cell? (ad2.add i) = some (.int .u8 x2) ∧ w'.cell? (ad3.add i) = some (.int .u8 x3))
        (exact ⟨g4, g5, g2, g3⟩) (fail)
      have HW2 := Lib.hid (below_drew HW.out)
      clear HW g2 g3 g4 g5
      go_wp2
      refine ⟨⟨i + 1, by go_num, by omega, HW2⟩, by simp [intOf]; omega⟩
    · obtain rfl : i = m := by omega
      have HB2 := Lib.hid (below_step2 HB.out HW.out)
      go_wp2_with fail
      refine (awake09 _).mono ?_
      rintro e w5 ⟨rfl, hB5⟩
      have hB := below_step2 HB2.out hB5
      go_wp2
      go_ret
      exact ⟨rfl, hB⟩
end Go.Proofs.Ytgkphopdmkfcgaa

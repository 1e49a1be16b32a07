/- AesKeys holds: the first of a key's keys are itself; keys that are unlike have unlike keys; what is handed out is new. Conditions: none beside the row's own reach. -/
import Derived.Test.YthjcdfnchjbijaaCAesF
import Derived.Deep.RegionHeld3
namespace Go.Proofs.Ythjcdfnchjbijaa
open Go.RowKit Go.Proofs.YthjcdfnchjbijaaW.PrintWords




set_option maxHeartbeats 4000000 in
theorem AesKeys_any (A : Option Addr) (n c : Nat) (xs : List Int) (B : Option Addr) (m d : Nat) (ys : List Int) (w : World) (h : Bts w A n c xs) (h2 : Bts w B m d ys) :
    Calls Try.prog 7 #[.slice A n c, .slice B m d] w fun e w' => e = .returned (.bool true) ∧ Below w.heap.size w w' := by
  have hn := h.max
  have hm := h2.max
  by_cases q1 : 300 < n
  · have d1 : decide ((300 : Int) < (n : Int)) = true := decide_eq_true (by omega)
    have d1' : decide (300 < n) = true := decide_eq_true q1
    go_enter Try.func7, Try.ntmps7
    go_wp2
    go_ret
    exact ⟨rfl, Below.refl _ _⟩
  have d1 : decide ((300 : Int) < (n : Int)) = false := decide_eq_false (by omega)
  have d1' : decide (300 < n) = false := decide_eq_false q1
  by_cases q2 : 300 < m
  · have d2 : decide ((300 : Int) < (m : Int)) = true := decide_eq_true (by omega)
    have d2' : decide (300 < m) = true := decide_eq_true q2
    go_enter Try.func7, Try.ntmps7
    go_wp2
    go_ret
    exact ⟨rfl, Below.refl _ _⟩
  have d2 : decide ((300 : Int) < (m : Int)) = false := decide_eq_false (by omega)
  have d2' : decide (300 < m) = false := decide_eq_false q2
  have hB := Below.refl w.heap.size w
  by_cases k1 : n = 16 ∨ n = 32
  · by_cases k2 : m = 16 ∨ m = 32
    · go_enter Try.func7, Try.ntmps7
      go_wp2_with fail
      refine (aes_Keys A n c xs w h).mono ?_
      rintro e w5 ⟨A5, n5, c5, rfl, o5, hB5⟩
      replace hB := below_step2 hB hB5
      clear hB5
      rw [(keyErr_zero.2 k1)] at o5 ⊢
      go_wp2_with fail
      refine (aes_Keys B m d ys w5 (h2.below hB)).mono ?_
      rintro e w6 ⟨A6, n6, c6, rfl, o6, hB6⟩
      rw [(keyErr_zero.2 k2)] at o6 ⊢
      replace o5 : OwnB w5 w.heap.size (.slice A5 n5 c5) (keysS xs) := o5
      replace o6 : OwnB w6 w5.heap.size (.slice A6 n6 c6) (keysS ys) := o6
      have lx := h.len
      have ly := h2.len
      have kx : xs.length = 16 ∨ xs.length = 32 := by rw [lx]; exact k1
      have ky : ys.length = 16 ∨ ys.length = 32 := by rw [ly]; exact k2
      have hk5 := keysS_len kx
      have hk6 := keysS_len ky
      have hpos : 0 < (keysS xs).length := by rw [hk5]; split <;> omega
      obtain ⟨g, N5, C5, e5, r5⟩ := o5.row hpos
      injection e5 with e51 e52 e53
      subst e51 e52 e53
      have hn5 : n5 = if xs.length = 16 then 176 else 240 := by have := o5.sl.len; rw [← this]; exact hk5
      have hle : n ≤ n5 ∧ n5 ≤ 240 := by
        rw [hn5, lx]
        rcases k1 with rfl | rfl <;> simp
      have hg5 : g < w5.heap.size := r5.lt
      replace hB := below_step2 hB hB6
      replace r5 := r5.below hB6
      have hpre : (keysS xs).take n = xs := by rw [← lx]; exact keysS_pre xs
      have hs : Hid (((strOfNums (keysS xs)).toList == (strOfNums (keysS ys)).toList) = ((strOfNums xs).toList == (strOfNums ys).toList)) := Lib.hid (by
        rw [str_eqb r5.byt o6.byt, str_eqb h.byt h2.byt]
        exact decide_eq_decide.2 ⟨fun e => keysS_inj kx ky e, fun e => by rw [e]⟩)
      have t5 := r5.bts.take n hle.1
      rw [hpre] at t5
      have kA := t5.drew.run_string (P := Try.prog) 28 9 Try.underlying28 Try.underlying5 Try.underlying9
      have kB := (h.below hB).drew.run_string (P := Try.prog) 28 9 Try.underlying28 Try.underlying5 Try.underlying9
      have kC := r5.bts.drew.run_string (P := Try.prog) 28 9 Try.underlying28 Try.underlying5 Try.underlying9
      have kD := o6.sl.drew.run_string (P := Try.prog) 28 9 Try.underlying28 Try.underlying5 Try.underlying9
      have kE := (h2.below hB).drew.run_string (P := Try.prog) 28 9 Try.underlying28 Try.underlying5 Try.underlying9
      have e1 : decide ((n5 : Int) < (n : Int)) = false := decide_eq_false (by omega)
      have e1' : decide (n5 < n) = false := decide_eq_false (by omega)
      have es := hs.out
      have i5 : (n : Int) ≤ (n5 : Int) := by omega
      have j5 := r5.bts.le
      have i6 : (n : Int) ≤ (c5 : Int) := by omega
      have i7 : (0 : Int) ≤ (n : Int) := by omega
      replace k1 := Lib.hid k1
      replace k2 := Lib.hid k2
      replace hn5 := Lib.hid hn5
      clear hB6 t5 hpos hk5 hk6 hpre hs lx ly kx ky o5
      generalize hzy0 : keysS ys = zy at kD es o6
      generalize hzx : keysS xs = zx at kC es r5
      clear hzx
      replace hzy0 := Lib.hid hzy0
      go_wp2
      go_region_held3 (fun w' => (convert 28 9 (.slice (some ⟨g, 0, none⟩) n c5)).run Try.prog w' = .ok (.string (strOfNums xs)) w' ∧ (convert 28 9 (.slice A n c)).run Try.prog w' = .ok (.string (strOfNums xs)) w' ∧ (convert 28 9 (.slice (some ⟨g, 0, none⟩) n5 c5)).run Try.prog w' = .ok (.string (strOfNums zx)) w' ∧ (convert 28 9 (.slice A6 n6 c6)).run Try.prog w' = .ok (.string (strOfNums zy)) w' ∧ (convert 28 9 (.slice B m d)).run Try.prog w' = .ok (.string (strOfNums ys)) w')
        (exact ⟨kA, kB, kC, kD, kE⟩) (fail)
      clear kA kB kC kD kE e1 e1' es i5 i6 i7 j5
      have R := Lib.hid (r5.below (below_drew (Below.refl _ _)))
      have O := Lib.hid o6.drew
      have HB := Lib.hid (below_drew hB)
      have hzy : Hid (zy = keysS ys) := Lib.hid hzy0.out.symm
      clear r5 o6 hB
      generalize w5.heap.size = b6 at hg5 O
      go_wp2
      go_loopw [9] (fun vi wr => ∃ (i : Nat) (zs : List Int), vi = .int .i64 (i : Int) ∧ i ≤ n5 ∧ Hid (Row8 wr w.heap.size g n5 c5 zs) ∧ Hid (OwnB wr b6 (.slice A6 n6 c6) zy) ∧ Hid (Below w.heap.size w wr)) (fun vi _ => n5 - (intOf vi).toNat)
      case atStart => exact ⟨0, _, rfl, by omega, R, O, HB⟩
      case round =>
        clear R O HB
        obtain ⟨i, zs, rfl, hi, R, O, HB⟩ := hrel
        have hn5b := hle.2
        by_cases h0 : i < n5
        · have ci := R.out.cell i h0
          have fi := R.out.free i h0
          have i1 : (i : Int) < (n5 : Int) := by omega
          have R2 := Lib.hid (R.out.set i 7 (by omega))
          have O2 := Lib.hid (O.out.far (p := ⟨g, i, none⟩) hg5 (.int .u8 7))
          have B2 := Lib.hid (below_set HB.out (p := ⟨g, i, none⟩) R.out.base_ (.int .u8 7))
          clear R O HB
          go_wp2
          refine ⟨⟨i + 1, _, by go_num, by omega, R2, O2, B2⟩, by simp [intOf]; omega⟩
        · obtain rfl : i = n5 := by omega
          have hB := HB.out
          have o6 := O.out
          clear R O HB
          go_wp2_with fail
          refine (aes_Keys B m d ys _ (h2.below hB)).mono ?_
          rintro e w9 ⟨A9, n9, c9, rfl, o9, hB9⟩
          rw [keyErr_zero.2 k2.out] at o9 ⊢
          replace o9 : OwnB w9 _ (.slice A9 n9 c9) (keysS ys) := o9
          rw [← hzy.out] at o9
          replace o6 := o6.below hB9
          replace hB := below_step2 hB hB9
          clear hB9 h h2 hzy
          go_wp2_with fail
          refine (awake08 _).mono ?_
          rintro e w10 ⟨rfl, hB2⟩
          replace hB2 := below_step2 (w := w9) (by repeat (first | exact Below.refl _ _ | apply below_alloc | apply below_drew | apply pw_below_drewN)) hB2
          replace o9 := o9.below hB2
          replace o6 := o6.below hB2
          replace hB := below_step2 hB hB2
          clear hB2
          have k9 := o9.sl.run_string (P := Try.prog) 28 9 Try.underlying28 Try.underlying5 Try.underlying9
          have k6 := o6.sl.run_string (P := Try.prog) 28 9 Try.underlying28 Try.underlying5 Try.underlying9
          clear o9 o6
          go_wp2
          go_ret
          exact ⟨rfl, hB⟩
    · go_enter Try.func7, Try.ntmps7
      go_wp2_with fail
      refine (aes_Keys A n c xs w h).mono ?_
      rintro e w5 ⟨A5, n5, c5, rfl, o5, hB5⟩
      replace hB := below_step2 hB hB5
      clear hB5
      rw [(keyErr_zero.2 k1)] at o5 ⊢
      go_wp2_with fail
      refine (aes_Keys B m d ys w5 (h2.below hB)).mono ?_
      rintro e w6 ⟨A6, n6, c6, rfl, o6, hB6⟩
      rw [(show keyErr m = 1 from if_neg k2)] at o6 ⊢
      replace o5 : OwnB w5 w.heap.size (.slice A5 n5 c5) (keysS xs) := o5
      replace o6 : OwnB w6 w5.heap.size (.slice A6 n6 c6) [] := o6
      replace hB := below_step2 hB hB6
      have l5 := o5.sl.len
      have l6 := o6.sl.len
      (obtain rfl : n6 = 0 := (by simpa using l6.symm))
      clear hB6 o5 o6 h h2 k1 k2 l5 l6
      go_wp2_with fail
      refine (awake08 _).mono ?_
      rintro e w7 ⟨rfl, hB2⟩
      replace hB2 := below_step2 (w := w6) (by repeat (first | exact Below.refl _ _ | apply below_alloc | apply below_drew | apply pw_below_drewN)) hB2
      replace hB := below_step2 hB hB2
      clear hB2
      go_wp2
      go_ret
      exact ⟨rfl, hB⟩
  · by_cases k2 : m = 16 ∨ m = 32
    · go_enter Try.func7, Try.ntmps7
      go_wp2_with fail
      refine (aes_Keys A n c xs w h).mono ?_
      rintro e w5 ⟨A5, n5, c5, rfl, o5, hB5⟩
      replace hB := below_step2 hB hB5
      clear hB5
      rw [(show keyErr n = 1 from if_neg k1)] at o5 ⊢
      go_wp2_with fail
      refine (aes_Keys B m d ys w5 (h2.below hB)).mono ?_
      rintro e w6 ⟨A6, n6, c6, rfl, o6, hB6⟩
      rw [(keyErr_zero.2 k2)] at o6 ⊢
      replace o5 : OwnB w5 w.heap.size (.slice A5 n5 c5) [] := o5
      replace o6 : OwnB w6 w5.heap.size (.slice A6 n6 c6) (keysS ys) := o6
      replace hB := below_step2 hB hB6
      have l5 := o5.sl.len
      have l6 := o6.sl.len
      (obtain rfl : n5 = 0 := (by simpa using l5.symm))
      clear hB6 o5 o6 h h2 k1 k2 l5 l6
      go_wp2_with fail
      refine (awake08 _).mono ?_
      rintro e w7 ⟨rfl, hB2⟩
      replace hB2 := below_step2 (w := w6) (by repeat (first | exact Below.refl _ _ | apply below_alloc | apply below_drew | apply pw_below_drewN)) hB2
      replace hB := below_step2 hB hB2
      clear hB2
      go_wp2
      go_ret
      exact ⟨rfl, hB⟩
    · go_enter Try.func7, Try.ntmps7
      go_wp2_with fail
      refine (aes_Keys A n c xs w h).mono ?_
      rintro e w5 ⟨A5, n5, c5, rfl, o5, hB5⟩
      replace hB := below_step2 hB hB5
      clear hB5
      rw [(show keyErr n = 1 from if_neg k1)] at o5 ⊢
      go_wp2_with fail
      refine (aes_Keys B m d ys w5 (h2.below hB)).mono ?_
      rintro e w6 ⟨A6, n6, c6, rfl, o6, hB6⟩
      rw [(show keyErr m = 1 from if_neg k2)] at o6 ⊢
      replace o5 : OwnB w5 w.heap.size (.slice A5 n5 c5) [] := o5
      replace o6 : OwnB w6 w5.heap.size (.slice A6 n6 c6) [] := o6
      replace hB := below_step2 hB hB6
      have l5 := o5.sl.len
      have l6 := o6.sl.len
      (obtain rfl : n5 = 0 := (by simpa using l5.symm); obtain rfl : n6 = 0 := (by simpa using l6.symm))
      clear hB6 o5 o6 h h2 k1 k2 l5 l6
      go_wp2_with fail
      refine (awake08 _).mono ?_
      rintro e w7 ⟨rfl, hB2⟩
      replace hB2 := below_step2 (w := w6) (by repeat (first | exact Below.refl _ _ | apply below_alloc | apply below_drew | apply pw_below_drewN)) hB2
      replace hB := below_step2 hB hB2
      clear hB2
      go_wp2
      go_ret
      exact ⟨rfl, hB⟩
end Go.Proofs.Ythjcdfnchjbijaa

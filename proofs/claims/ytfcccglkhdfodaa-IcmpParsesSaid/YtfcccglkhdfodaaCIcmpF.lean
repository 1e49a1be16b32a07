/- The reference's sum, Check and Bytes of a message. Conditions: those that each lemma states. -/
import Derived.Test.YtfcccglkhdfodaaCIcmpD
import Derived.Test.YtfcccglkhdfodaaCBoth
import Derived.Test.YtfcccglkhdfodaaCTwo
import Derived.Deep.RegionHeld3
namespace Go.Proofs.Ytfcccglkhdfodaa
open Go.RowKit Go.Proofs.YtfcccglkhdfodaaW.PrintWords

theorem Mg.cs2 {w : World} {g : Nat} {t c r : Int} {A : Option Addr} {n k : Nat} (h : Mg w g t c r A n k) : w.cell? ⟨g, 2, none⟩ = some (.int .i64 r) ∧ w.cell? ⟨g, 3, none⟩ = some (.slice A n k) := ⟨h.c2, h.c3⟩
theorem Bts.cast {w : World} {A : Option Addr} {n c : Nat} {xs ys : List Int} (h : Bts w A n c xs) (e : xs = ys) : Bts w A n c ys := e ▸ h
set_option maxHeartbeats 1000000 in
theorem ref07_sum (A : Option Addr) (n c : Nat) (xs : List Int) (s d : ByteArray) (w : World) (hs : s.size ≤ 140737488351232) (hd : d.size ≤ 140737488351232) (h : Bts w A n c xs) (hp : pairOk s.size d.size) (hn : n ≤ 65535) :
    Calls Try.prog 26 #[.slice A n c, .string s, .string d] w fun e w' => e = .returned (.int .i64 (icSum xs (bytesOf s) (bytesOf d))) ∧ Below w.heap.size w w' := by
  have hB := Below.refl w.heap.size w
  go_enter Try.func26, Try.ntmps26
  by_cases q : s.size = 16
  · have e : icSum xs (bytesOf s) (bytesOf d) = psSum 58 xs (bytesOf s) (bytesOf d) := by unfold icSum; rw [bytesOf_length, if_pos q]
    rw [e]
    have e1 : ((s.size : Int) == 16) = true := by rw [beq_iff_eq]; omega
    clear e q
    go_wp2_with fail
    refine (ref05_Sum 58 s d A n c xs w hs hd h hp hn (by decide) (by decide)).mono ?_
    rintro e w2 ⟨rfl, hB2⟩
    replace hB := below_step2 hB hB2
    clear hB2
    go_wp2
    go_ret
    exact ⟨rfl, hB⟩
  · have e : icSum xs (bytesOf s) (bytesOf d) = sumL xs := by unfold icSum; rw [bytesOf_length, if_neg q]
    rw [e]
    have e1 : ((s.size : Int) == 16) = false := beq_eq_false_iff_ne.mpr (by omega)
    clear e q
    go_wp2_with fail
    refine (ref01_Sum _ _ _ _ _ h).mono ?_
    rintro e w' ⟨rfl, rfl⟩
    go_wp2
    go_ret
    exact ⟨rfl, hB⟩


set_option maxHeartbeats 2000000 in
theorem ref07_Check (t c r : Int) (A : Option Addr) (n k : Nat) (s d : ByteArray) (w : World) (hn : n ≤ 140737488355328) :
    Calls Try.prog 11 #[.agg #[.int .i64 t, .int .i64 c, .int .i64 r, .slice A n k], .string s, .string d] w fun e w' => e = .returned (.int .i64 (icLayErr t c r n s.size d.size)) ∧ Below w.heap.size w w' := by
  have hB : Hid (Below w.heap.size w (w.alloc (.cells #[.int .i64 t, .int .i64 c, .int .i64 r, .slice A n k] 24))) := Lib.hid (below_alloc (Below.refl _ _) _)
  go_enter Try.func11, Try.ntmps11
  by_cases t0 : t < 0
  · have d0 : decide (t < 0) = true := decide_eq_true t0
    have e : icLayErr t c r n s.size d.size = 1 := by unfold icLayErr icOk; rw [if_pos (by omega)]
    rw [e]
    clear e
    go_wp2
    go_ret
    exact ⟨rfl, hB.out⟩
  have d0 : decide (t < 0) = false := decide_eq_false t0
  by_cases t1 : 255 < t
  · have d1 : decide (255 < t) = true := decide_eq_true t1
    have e : icLayErr t c r n s.size d.size = 1 := by unfold icLayErr icOk; rw [if_pos (by omega)]
    rw [e]
    clear e
    go_wp2
    go_ret
    exact ⟨rfl, hB.out⟩
  have d1 : decide (255 < t) = false := decide_eq_false t1
  by_cases c0 : c < 0
  · have d2 : decide (c < 0) = true := decide_eq_true c0
    have e : icLayErr t c r n s.size d.size = 1 := by unfold icLayErr icOk; rw [if_pos (by omega)]
    rw [e]
    clear e
    go_wp2
    go_ret
    exact ⟨rfl, hB.out⟩
  have d2 : decide (c < 0) = false := decide_eq_false c0
  by_cases c1 : 255 < c
  · have d3 : decide (255 < c) = true := decide_eq_true c1
    have e : icLayErr t c r n s.size d.size = 1 := by unfold icLayErr icOk; rw [if_pos (by omega)]
    rw [e]
    clear e
    go_wp2
    go_ret
    exact ⟨rfl, hB.out⟩
  have d3 : decide (255 < c) = false := decide_eq_false c1
  by_cases r0 : r < 0
  · have d4 : decide (r < 0) = true := decide_eq_true r0
    have e : icLayErr t c r n s.size d.size = 1 := by unfold icLayErr icOk; rw [if_pos (by omega)]
    rw [e]
    clear e
    go_wp2
    go_ret
    exact ⟨rfl, hB.out⟩
  have d4 : decide (r < 0) = false := decide_eq_false r0
  by_cases r1 : 4294967295 < r
  · have d5 : decide (4294967295 < r) = true := decide_eq_true r1
    have e : icLayErr t c r n s.size d.size = 1 := by unfold icLayErr icOk; rw [if_pos (by omega)]
    rw [e]
    clear e
    go_wp2
    go_ret
    exact ⟨rfl, hB.out⟩
  have d5 : decide (4294967295 < r) = false := decide_eq_false r1
  have ho : icOk t c r := by unfold icOk; omega
  clear t0 t1 c0 c1 r0 r1
  go_wp2_with fail
  refine (ref05_Pair _ _ _).mono ?_
  rintro e w' ⟨rfl, rfl⟩
  by_cases hp : pairOk s.size d.size
  · rw [decide_eq_true hp]
    have hw : IntKind.i64.wrap (8 + (n : Int)) = 8 + (n : Int) := IntWalk.i64_in _ (by omega)
    by_cases h8 : 65535 < 8 + n
    · have d8 : decide (65535 < 8 + (n : Int)) = true := decide_eq_true (by omega)
      have e : icLayErr t c r n s.size d.size = 2 := by unfold icLayErr; rw [if_neg (fun q => q ⟨ho, hp⟩), if_pos h8]
      replace e := Lib.hid e
      clear h8 ho hp
      go_wp2
      go_ret
      exact ⟨ret_int e.out.symm, hB.out⟩
    · have d8 : decide (65535 < 8 + (n : Int)) = false := decide_eq_false (by omega)
      have e : icLayErr t c r n s.size d.size = 0 := by unfold icLayErr; rw [if_neg (fun q => q ⟨ho, hp⟩), if_neg h8]
      replace e := Lib.hid e
      clear h8 ho hp
      go_wp2
      go_ret
      exact ⟨ret_int e.out.symm, hB.out⟩
  · rw [decide_eq_false hp]
    have e : icLayErr t c r n s.size d.size = 1 := by unfold icLayErr; rw [if_pos (fun q => hp q.2)]
    replace e := Lib.hid e
    clear hp ho
    go_wp2
    go_ret
    exact ⟨ret_int e.out.symm, hB.out⟩

set_option maxHeartbeats 1000000 in
theorem ref07_Bytes (t c r : Int) (A : Option Addr) (n k : Nat) (xs : List Int) (s d : ByteArray) (w : World) (hs : s.size ≤ 140737488351232) (hd : d.size ≤ 140737488351232) (h0 : Bts w A n k xs)
    (ho : icOk t c r) (hp : pairOk s.size d.size) (h : 8 + n ≤ 65535) :
    Calls Try.prog 14 #[.agg #[.int .i64 t, .int .i64 c, .int .i64 r, .slice A n k], .string s, .string d] w fun e w' => ∃ v, e = .returned v ∧ OwnB w' w.heap.size v (icBytes t c r xs (bytesOf s) (bytesOf d)) ∧ Below w.heap.size w w' := by
  have hl := h0.len
  obtain ⟨ht0, ht1, hc0, hc1, hr0, hr1⟩ := ho
  have hb2 : Byt [t, c] := by simp only [byt_cons]; exact ⟨by omega, by omega, byt_nil⟩
  have F1 := Lib.hid (((Bts.lit_at (w.alloc (.cells #[.int .i64 t, .int .i64 c, .int .i64 r, .slice A n k] 24)) (w.heap.size + 1) 5 [t, c] (by simp) hb2 (by simp))).below (below_drew (Below.refl _ _)))
  have G1 := Lib.hid (((Mg.new w t c r A n k).alloc (.cells (nums .u8 [t, c]).toArray 5)).below (below_drew (Below.refl _ _)))
  have B1 : Hid (Below w.heap.size w (((w.alloc (.cells #[.int .i64 t, .int .i64 c, .int .i64 r, .slice A n k] 24)).alloc (.cells (nums .u8 [t, c]).toArray 5)).drew)) := Lib.hid (below_drew (below_alloc (below_alloc (Below.refl _ _) _) _))
  have H1 := Lib.hid (h0.below B1.out)
  clear h0
  have wt : IntKind.u8.wrap t = t := IntWalk.u8_in _ (by omega)
  have wc : IntKind.u8.wrap c = c := IntWalk.u8_in _ (by omega)
  go_enter Try.func14, Try.ntmps14
  go_wp2
  go_region_held3 (fun w' => w'.cell? ⟨w.heap.size, 2, none⟩ = some (.int .i64 r) ∧ w'.cell? ⟨w.heap.size, 3, none⟩ = some (.slice A n k))
    ((refine Mg.cs2 (t := t) (c := c) ?_; first | exact G3.out | exact G2.out | exact G2.out.alloc _ | exact G1.out))
    (first
      | (go_at_call 25
         refine (ref01_Four _ _ hr0 hr1).mono ?_
         rintro e w2 ⟨v2, rfl, o2, hB2⟩
         have G2 := Lib.hid (G1.out.below hB2)
         have F2 := Lib.hid (F1.out.below hB2)
         have H2 := Lib.hid (H1.out.below hB2)
         have B2 := Lib.hid (below_step2 B1.out hB2)
         obtain ⟨A2, n2, c2, rfl, t2⟩ := o2.bts
         replace t2 := Lib.hid t2
         clear hB2 o2)
      | (go_at_call 9
         refine (ref01_Both _ _ _ [icFour r, xs] _ (Rws.two w2 w2.heap.size 22 rfl t2.out H2.out) (by simp [icFour]; omega)).mono ?_
         rintro e w3 ⟨v3, rfl, o3, hB3⟩
         replace hB3 := below_step2 (w := w2) (below_alloc (Below.refl _ _) _) hB3
         have G3 := Lib.hid (G2.out.below hB3)
         have F3 := Lib.hid (F2.out.below hB3)
         have B3 := Lib.hid (below_step2 B2.out hB3)
         replace o3 := Lib.hid o3
         clear hB3))
  have ef : [icFour r, xs].flatten = icFour r ++ xs := by simp
  rw [ef] at o3
  obtain ⟨A3, n3, c3, rfl, t3⟩ := o3.out.bts
  clear ef t2 G1 G2 F1 F2 H1 H2 B1 B2 o3
  replace t3 := Lib.hid t3
  go_wp2_with fail
  refine (ref01_Both _ _ _ [[t, c], [0, 0], icFour r ++ xs] _ (Rws.three (w3.alloc (.cells #[.int .u8 0, .int .u8 0] 5)) _ 22 (by simp) (F3.out.alloc _) (Bts.lit_at w3 w3.heap.size 5 [0, 0] rfl (by decide) (by simp)) (t3.out.alloc _)) (by simp [icFour]; omega)).mono ?_
  rintro e w4 ⟨v4, rfl, o4, hB4⟩
  obtain ⟨A4, n4, c4, rfl, t4⟩ := o4.bts
  clear o4
  replace t4 : Bts w4 A4 n4 c4 (icZero t c r xs) := t4.cast (by simp [icZero])
  replace hB4 := below_step2 (w := w3) (below_alloc (below_alloc (Below.refl _ _) _) _) hB4
  have hn4 : n4 = 8 + n := by have := t4.len; rw [icZero_length] at this; omega
  subst hn4
  have F4 := Lib.hid (F3.out.below hB4)
  have K4 := Lib.hid (t3.out.below hB4)
  have B4 := Lib.hid (below_step2 B3.out hB4)
  clear hB4 G3 F3 t3 B3
  go_wp2_with fail
  refine (ref07_sum _ _ _ _ s d _ hs hd t4 hp h).mono ?_
  rintro e w5 ⟨rfl, hB5⟩
  have F5 := Lib.hid (F4.out.below hB5)
  have K5 := Lib.hid (K4.out.below hB5)
  have B5 := Lib.hid (below_step2 B4.out hB5)
  clear hB5 F4 K4 B4 t4
  have hD := icSum_bd (icZero t c r xs) (bytesOf s) (bytesOf d)
  have hC : Hid (icCheck t c r xs (bytesOf s) (bytesOf d) = 65535 - icSum (icZero t c r xs) (bytesOf s) (bytesOf d)) := Lib.hid rfl
  generalize icSum (icZero t c r xs) (bytesOf s) (bytesOf d) = D at hD hC ⊢
  have hw : IntKind.i64.wrap (65535 - D) = 65535 - D := IntWalk.i64_in _ (by omega)
  go_wp2_with fail
  refine (ref01_Two _ _ (by omega) (by omega)).mono ?_
  rintro e w6 ⟨v6, rfl, o6, hB6⟩
  obtain ⟨A6, n6, c6, rfl, t6⟩ := o6.bts
  have F6 := Lib.hid (F5.out.below hB6)
  have K6 := Lib.hid (K5.out.below hB6)
  have B6 := Lib.hid (below_step2 B5.out hB6)
  clear hB6 F5 K5 B5 o6
  go_wp2_with fail
  refine (ref01_Both _ _ _ [[t, c], [(65535 - D) / 256, (65535 - D) % 256], icFour r ++ xs] _ (Rws.three w6 w6.heap.size 22 rfl F6.out t6 K6.out) (by simp [icFour]; omega)).mono ?_
  rintro e w7 ⟨v7, rfl, o7, hB7⟩
  have o7 := Lib.hid (o7.lower (base' := w.heap.size) (Nat.le_trans B6.out.size (below_alloc (Below.refl _ _) _).size))
  replace hB7 := below_step2 (w := w6) (below_alloc (Below.refl _ _) _) hB7
  have B7 := Lib.hid (below_step2 B6.out hB7)
  clear hB7 F6 K6 B6 t6
  go_wp2
  go_ret
  refine ⟨_, rfl, ?_, B7.out⟩
  have q := o7.out
  simp only [List.flatten_cons, List.flatten_nil, List.append_nil, ← List.append_assoc] at q
  unfold icBytes
  rw [hC.out]
  simpa using q
end Go.Proofs.Ytfcccglkhdfodaa

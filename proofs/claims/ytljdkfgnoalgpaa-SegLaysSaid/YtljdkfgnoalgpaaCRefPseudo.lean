/- Contract of the reference's Pseudo. Conditions: each argument is of its Go type. -/
import Derived.Test.YtljdkfgnoalgpaaCRefSum
import Derived.Test.YtljdkfgnoalgpaaCBoth
import Derived.Test.YtljdkfgnoalgpaaCTwo
namespace Go.Proofs.Ytljdkfgnoalgpaa
open Go.RowKit Go.Proofs.YtljdkfgnoalgpaaW.PrintWords

set_option maxHeartbeats 2000000 in
theorem ref01_Pseudo_no (s d : ByteArray) (p n : Int) (w : World) (_hs : s.size ≤ 140737488351232) (_hd : d.size ≤ 140737488351232) (h : ¬ psOk s.size d.size p n) :
    Calls Try.prog 41 #[.string s, .string d, .int .i64 p, .int .i64 n] w fun e w' => e = .returned (.tuple #[.int .i64 0, .int .i64 1]) ∧ Below w.heap.size w w' := by
  unfold psOk at h
  by_cases q1 : s.size = d.size
  · have d1 : ((s.size : Int) != (d.size : Int)) = false := by rw [bne_eq_false_iff_eq]; omega
    have d2 : (s.size != d.size) = false := by rw [bne_eq_false_iff_eq]; omega
    have k1 := fun (W : World) => print_bytes (P := Try.prog) 9 22 5 Try.underlying9 Try.underlying22 Try.underlying5 (s ++ d) W
    by_cases q5 : s.size = 4
    · have d6 : ((s.size : Int) != 4) = false := by rw [bne_eq_false_iff_eq]; omega
      have d7 : ((s.size : Int) == 4) = true := by rw [beq_iff_eq]; omega
      by_cases q2 : p < 0
      · clear q1 q5 h
        go_enter Try.func41, Try.ntmps41
        go_wp2
        go_ret2
        exact ⟨rfl, Below.refl _ _⟩
      have d3 : decide (p < 0) = false := decide_eq_false q2
      by_cases q3 : 255 < p
      · clear q1 q5 h
        go_enter Try.func41, Try.ntmps41
        go_wp2
        go_ret2
        exact ⟨rfl, Below.refl _ _⟩
      have d4 : decide (255 < p) = false := decide_eq_false q3
      by_cases q4 : n < 0
      · clear q1 q5 h
        go_enter Try.func41, Try.ntmps41
        go_wp2
        go_ret2
        exact ⟨rfl, Below.refl _ _⟩
      have d5 : decide (n < 0) = false := decide_eq_false q4
      have q6 : 65535 < n := by omega
      have q7 : s.size + d.size ≤ 8 := by omega
      clear q1 q5 h
      go_enter Try.func41, Try.ntmps41
      go_wp2
      go_ret2
      exact ⟨rfl, below_string (Below.refl _ _) _ _⟩
    have d6 : ((s.size : Int) != 4) = true := by rw [bne_iff_ne]; omega
    have d7 : ((s.size : Int) == 4) = false := by rw [beq_eq_false_iff_ne]; omega
    by_cases q8 : s.size = 16
    · have d8 : ((s.size : Int) != 16) = false := by rw [bne_eq_false_iff_eq]; omega
      replace q5 := And.intro q5 q8
      clear q8
      by_cases q2 : p < 0
      · clear q1 q5 h
        go_enter Try.func41, Try.ntmps41
        go_wp2
        go_ret2
        exact ⟨rfl, Below.refl _ _⟩
      have d3 : decide (p < 0) = false := decide_eq_false q2
      by_cases q3 : 255 < p
      · clear q1 q5 h
        go_enter Try.func41, Try.ntmps41
        go_wp2
        go_ret2
        exact ⟨rfl, Below.refl _ _⟩
      have d4 : decide (255 < p) = false := decide_eq_false q3
      by_cases q4 : n < 0
      · clear q1 q5 h
        go_enter Try.func41, Try.ntmps41
        go_wp2
        go_ret2
        exact ⟨rfl, Below.refl _ _⟩
      have d5 : decide (n < 0) = false := decide_eq_false q4
      have q6 : 4294967295 < n := by omega
      have q7 : s.size + d.size ≤ 32 := by omega
      clear q1 q5 h
      go_enter Try.func41, Try.ntmps41
      go_wp2
      go_ret2
      exact ⟨rfl, below_string (Below.refl _ _) _ _⟩
    have d8 : ((s.size : Int) != 16) = true := by rw [bne_iff_ne]; omega
    clear q1 q5 q8 h
    go_enter Try.func41, Try.ntmps41
    go_wp2
    go_ret2
    exact ⟨rfl, Below.refl _ _⟩
  · have d1 : ((s.size : Int) != (d.size : Int)) = true := bne_iff_ne.mpr (by omega)
    have d2 : (s.size != d.size) = true := bne_iff_ne.mpr (by omega)
    go_enter Try.func41, Try.ntmps41
    go_wp2
    go_ret2
    exact ⟨rfl, Below.refl _ _⟩

set_option maxHeartbeats 2000000 in
theorem ref01_Pseudo_yes (s d : ByteArray) (p n : Int) (w : World) (_hs : s.size ≤ 140737488351232) (_hd : d.size ≤ 140737488351232) (h : psOk s.size d.size p n) :
    Calls Try.prog 41 #[.string s, .string d, .int .i64 p, .int .i64 n] w fun e w' => e = .returned (.tuple #[.int .i64 (canon (psTot (bytesOf s) (bytesOf d) p n)), .int .i64 0]) ∧ Below w.heap.size w w' := by
  unfold psOk at h
  obtain ⟨q1, q2, q3, q4, q5⟩ := h
  have d1 : ((s.size : Int) != (d.size : Int)) = false := by rw [bne_eq_false_iff_eq]; omega
  have d2 : (s.size != d.size) = false := by rw [bne_eq_false_iff_eq]; omega
  have d3 : decide (p < 0) = false := decide_eq_false (by omega)
  have d4 : decide (255 < p) = false := decide_eq_false (by omega)
  have d5 : decide (n < 0) = false := decide_eq_false (by omega)
  have k1 := fun (W : World) => print_bytes (P := Try.prog) 9 22 5 Try.underlying9 Try.underlying22 Try.underlying5 (s ++ d) W
  have q7 : s.size + d.size ≤ 32 := by omega
  have hB := Below.refl w.heap.size w
  rcases q5 with ⟨q5, q6⟩ | ⟨q5, q6⟩
  · have d6 : ((s.size : Int) != 4) = false := by rw [bne_eq_false_iff_eq]; omega
    have d7 : ((s.size : Int) == 4) = true := by rw [beq_iff_eq]; omega
    have hl := Lib.hid (And.intro q5 q1)
    clear q1 q5
    go_enter Try.func41, Try.ntmps41
    go_wp2_with fail
    have t1 := (Bts.of_string_len w w.heap.size (s.size + d.size) 5 (s ++ d) rfl (by simp) (by omega)).alloc (.cells #[.int .u8 0, .int .u8 p] 5)
    have t2 : Bts ((Lib.bytesWorld w 5 (s ++ d)).alloc (.cells #[.int .u8 0, .int .u8 p] 5)) (some ⟨(Lib.bytesWorld w 5 (s ++ d)).heap.size, 0, none⟩) 2 2 [0, p] :=
      Bts.lit_new _ 5 [0, p] (by simp only [byt_cons]; exact ⟨by omega, by omega, byt_nil⟩) (by simp)
    replace hB := below_alloc (below_string hB 5 (s ++ d)) (.cells #[.int .u8 0, .int .u8 p] 5)
    generalize (Lib.bytesWorld w 5 (s ++ d)).alloc (.cells #[.int .u8 0, .int .u8 p] 5) = w1 at t1 t2 hB ⊢
    rw [bytesOf_append] at t1
    go_wp2_with fail
    refine (ref01_Two _ _ q4 q6).mono ?_
    rintro e w2 ⟨vw2, rfl, ot3, hB2⟩
    obtain ⟨A3, n3, c3, rfl, t3⟩ := ot3.bts
    replace ot3 := Lib.hid ot3
    replace hB2 := below_step2 (w := w1) (by repeat (first | exact Below.refl _ _ | apply below_alloc | apply below_drew | apply pw_below_drewN)) hB2
    replace t1 := t1.below hB2
    replace t2 := t2.below hB2
    replace hB := below_step2 hB hB2
    clear hB2
    go_wp2_with fail
    refine (ref01_Both _ _ _ [bytesOf s ++ bytesOf d, [0, p], [n / 256, n % 256]] _ (Rws.lit w2 w2.heap.size 22 [(.slice _ _ _, bytesOf s ++ bytesOf d), (.slice _ _ _, [0, p]), (.slice _ _ _, [n / 256, n % 256])] rfl (by simp) (by simp; exact ⟨⟨_, _, _, ⟨rfl, rfl, rfl⟩, t1⟩, ⟨_, _, _, ⟨rfl, rfl, rfl⟩, t2⟩, ⟨_, _, _, ⟨rfl, rfl, rfl⟩, t3⟩⟩)) (by simp [bytesOf_length]; omega)).mono ?_
    rintro e w3 ⟨vw3, rfl, ot4, hB2⟩
    obtain ⟨A4, n4, c4, rfl, t4⟩ := ot4.bts
    replace ot4 := Lib.hid ot4
    replace hB2 := below_step2 (w := w2) (by repeat (first | exact Below.refl _ _ | apply below_alloc | apply below_drew | apply pw_below_drewN)) hB2
    replace hB := below_step2 hB hB2
    clear hB2
    simp only [List.flatten_cons, List.flatten_nil, List.append_nil] at t4
    go_wp2_with fail
    refine (ref01_Sum _ _ _ _ _ t4).mono ?_
    rintro e w' ⟨rfl, rfl⟩
    have hf : Hid (sumL (bytesOf s ++ bytesOf d ++ ([0, p] ++ [n / 256, n % 256])) = canon (psTot (bytesOf s) (bytesOf d) p n)) := Lib.hid (by
      unfold sumL psTot psTail
      rw [tot_append _ _ (by rw [List.length_append, bytesOf_length, bytesOf_length]; have := hl.out; omega), tot_append _ _ (by rw [bytesOf_length, hl.out.1]), bytesOf_length, if_pos hl.out.1, show n / 256 % 256 = n / 256 by omega]
      rfl)
    rw [hf.out]
    go_wp2
    go_ret2
    exact ⟨rfl, hB⟩
  · have d6 : ((s.size : Int) != 4) = true := by rw [bne_iff_ne]; omega
    have d7 : ((s.size : Int) == 4) = false := by rw [beq_eq_false_iff_ne]; omega
    have d8 : ((s.size : Int) != 16) = false := by rw [bne_eq_false_iff_eq]; omega
    have hl := Lib.hid (And.intro q5 q1)
    clear q1 q5
    go_enter Try.func41, Try.ntmps41
    go_wp2_with fail
    have t1 := Bts.of_string_len w w.heap.size (s.size + d.size) 5 (s ++ d) rfl (by simp) (by omega)
    replace hB := below_string hB 5 (s ++ d)
    generalize Lib.bytesWorld w 5 (s ++ d) = w1 at t1 hB ⊢
    rw [bytesOf_append] at t1
    go_wp2_with fail
    refine (ref01_Four _ _ q4 q6).mono ?_
    rintro e w2 ⟨vw2, rfl, ot3, hB2⟩
    obtain ⟨A3, n3, c3, rfl, t3⟩ := ot3.bts
    replace ot3 := Lib.hid ot3
    replace hB2 := below_step2 (w := w1) (by repeat (first | exact Below.refl _ _ | apply below_alloc | apply below_drew | apply pw_below_drewN)) hB2
    replace t1 := t1.below hB2
    replace hB := below_step2 hB hB2
    clear hB2
    go_wp2_with fail
    have t2 : Bts (w2.alloc (.cells #[.int .u8 0, .int .u8 0, .int .u8 0, .int .u8 p] 5)) (some ⟨w2.heap.size, 0, none⟩) 4 4 [0, 0, 0, p] :=
      Bts.lit_new _ 5 [0, 0, 0, p] (by simp only [byt_cons]; exact ⟨by omega, by omega, by omega, by omega, byt_nil⟩) (by simp)
    replace t1 := t1.alloc (.cells #[.int .u8 0, .int .u8 0, .int .u8 0, .int .u8 p] 5)
    replace t3 := t3.alloc (.cells #[.int .u8 0, .int .u8 0, .int .u8 0, .int .u8 p] 5)
    refine (ref01_Both _ _ _ [bytesOf s ++ bytesOf d, [n / 16777216, n / 65536 % 256, n / 256 % 256, n % 256], [0, 0, 0, p]] _ (Rws.lit _ _ 22 [(.slice _ _ _, bytesOf s ++ bytesOf d), (.slice _ _ _, [n / 16777216, n / 65536 % 256, n / 256 % 256, n % 256]), (.slice _ _ _, [0, 0, 0, p])] (by simp) (by simp) (by simp; exact ⟨⟨_, _, _, ⟨rfl, rfl, rfl⟩, t1⟩, ⟨_, _, _, ⟨rfl, rfl, rfl⟩, t3⟩, ⟨_, _, _, ⟨rfl, rfl, rfl⟩, t2⟩⟩)) (by simp [bytesOf_length]; omega)).mono ?_
    rintro e w3 ⟨v, rfl, o4, hB2⟩
    obtain ⟨A4, n4, c4, rfl, t4⟩ := o4.bts
    replace hB2 := below_step2 (w := w2) (by repeat (first | exact Below.refl _ _ | apply below_alloc | apply below_drew | apply pw_below_drewN)) hB2
    replace hB := below_step2 hB hB2
    clear hB2
    simp only [List.flatten_cons, List.flatten_nil, List.append_nil] at t4
    go_wp2_with fail
    refine (ref01_Sum _ _ _ _ _ t4).mono ?_
    rintro e w' ⟨rfl, rfl⟩
    have hf : Hid (sumL (bytesOf s ++ bytesOf d ++ ([n / 16777216, n / 65536 % 256, n / 256 % 256, n % 256] ++ [0, 0, 0, p])) = canon (psTot (bytesOf s) (bytesOf d) p n)) := Lib.hid (by
      unfold sumL psTot psTail
      rw [tot_append _ _ (by rw [List.length_append, bytesOf_length, bytesOf_length]; have := hl.out; omega), tot_append _ _ (by rw [bytesOf_length, hl.out.1]), bytesOf_length, if_neg (by rw [hl.out.1]; decide), show n / 16777216 % 256 = n / 16777216 by omega]
      rfl)
    rw [hf.out]
    go_wp2
    go_ret2
    exact ⟨rfl, hB⟩
end Go.Proofs.Ytljdkfgnoalgpaa

/- Contract of the checksum's Pseudo: the sum of what stands ahead, or refused. Conditions: each argument is of its Go type. -/
import Derived.Test.YtljdkfgnoalgpaaCInet
namespace Go.Proofs.Ytljdkfgnoalgpaa
open Go.RowKit Go.Proofs.YtljdkfgnoalgpaaW.PrintWords

set_option maxHeartbeats 2000000 in
theorem inet_Pseudo_no (s d : ByteArray) (p n : Int) (w : World) (_hs : s.size ≤ 140737488351232) (_hd : d.size ≤ 140737488351232) (h : ¬ psOk s.size d.size p n) :
    Calls Try.prog 24 #[.string s, .string d, .int .i64 p, .int .i64 n] w fun e w' => e = .returned (.tuple #[.int .i64 0, .int .i64 1]) ∧ w = w' := by
  unfold psOk at h
  by_cases q1 : s.size = d.size
  · have d1 : ((s.size : Int) != (d.size : Int)) = false := by rw [bne_eq_false_iff_eq]; omega
    have d2 : (s.size != d.size) = false := by rw [bne_eq_false_iff_eq]; omega
    by_cases q2 : p < 0
    · clear q1
      go_enter Try.func24, Try.ntmps24
      go_wp2
      go_ret2
      exact ⟨rfl, rfl⟩
    have d3 : decide (p < 0) = false := decide_eq_false q2
    by_cases q3 : 255 < p
    · clear q1
      go_enter Try.func24, Try.ntmps24
      go_wp2
      go_ret2
      exact ⟨rfl, rfl⟩
    have d4 : decide (255 < p) = false := decide_eq_false q3
    by_cases q4 : n < 0
    · clear q1
      go_enter Try.func24, Try.ntmps24
      go_wp2
      go_ret2
      exact ⟨rfl, rfl⟩
    have d5 : decide (n < 0) = false := decide_eq_false q4
    by_cases q5 : s.size = 4
    · have n5 : ¬ n ≤ 65535 := by omega
      have d6 : ((s.size : Int) == 4) = true := by rw [beq_iff_eq]; omega
      have d7 : ((s.size : Int) == 16) = false := by rw [beq_eq_false_iff_ne]; omega
      have d8 : decide (n ≤ 65535) = false := decide_eq_false n5
      clear q1 q5 h
      go_enter Try.func24, Try.ntmps24
      go_wp2
      go_ret2
      exact ⟨rfl, rfl⟩
    have d6 : ((s.size : Int) == 4) = false := by rw [beq_eq_false_iff_ne]; omega
    by_cases q6 : s.size = 16
    · have n5 : ¬ n < 4294967296 := by omega
      have d7 : ((s.size : Int) == 16) = true := by rw [beq_iff_eq]; omega
      have d8 : decide (n < 4294967296) = false := decide_eq_false n5
      clear q1 q5 q6 h
      go_enter Try.func24, Try.ntmps24
      go_wp2
      go_ret2
      exact ⟨rfl, rfl⟩
    have d7 : ((s.size : Int) == 16) = false := by rw [beq_eq_false_iff_ne]; omega
    clear q1 q5 q6 h
    go_enter Try.func24, Try.ntmps24
    go_wp2
    go_ret2
    exact ⟨rfl, rfl⟩
  · have d1 : ((s.size : Int) != (d.size : Int)) = true := bne_iff_ne.mpr (by omega)
    have d2 : (s.size != d.size) = true := bne_iff_ne.mpr (by omega)
    go_enter Try.func24, Try.ntmps24
    go_wp2
    go_ret2
    exact ⟨rfl, rfl⟩

set_option maxHeartbeats 2000000 in
theorem inet_Pseudo_yes (s d : ByteArray) (p n : Int) (w : World) (hs : s.size ≤ 140737488351232) (hd : d.size ≤ 140737488351232) (h : psOk s.size d.size p n) :
    Calls Try.prog 24 #[.string s, .string d, .int .i64 p, .int .i64 n] w fun e w' => e = .returned (.tuple #[.int .i64 (canon (psTot (bytesOf s) (bytesOf d) p n)), .int .i64 0]) ∧ Below w.heap.size w w' := by
  have h' := Lib.hid h
  unfold psOk at h
  obtain ⟨q1, q2, q3, q4, q5⟩ := h
  have d1 : ((s.size : Int) != (d.size : Int)) = false := by rw [bne_eq_false_iff_eq]; omega
  have d2 : (s.size != d.size) = false := by rw [bne_eq_false_iff_eq]; omega
  have d3 : decide (p < 0) = false := decide_eq_false (by omega)
  have d4 : decide (255 < p) = false := decide_eq_false (by omega)
  have d5 : decide (n < 0) = false := decide_eq_false (by omega)
  have k1 := fun (W : World) => print_bytes (P := Try.prog) 9 22 5 Try.underlying9 Try.underlying22 Try.underlying5 s W
  have k2 := fun (W : World) => print_bytes (P := Try.prog) 9 22 5 Try.underlying9 Try.underlying22 Try.underlying5 d W
  rcases q5 with ⟨q5, q6⟩ | ⟨q5, q6⟩
  · have d6 : ((s.size : Int) == 4) = true := by rw [beq_iff_eq]; omega
    have d8 : decide (n ≤ 65535) = true := decide_eq_true q6
    have hl := Lib.hid q5
    clear q1 q5
    go_enter Try.func24, Try.ntmps24
    go_wp2_with fail
    have t0 := Bts.lit_new w 5 [0, p, n / 256, n % 256] (by simp only [byt_cons]; exact ⟨by omega, by omega, by omega, by omega, byt_nil⟩) (by simp)
    refine (inet_Sum _ _ _ _ _ (Bts.of_string _ _ _ s (by simp) hs)).mono ?_
    rintro e w' ⟨rfl, rfl⟩
    go_wp2_with fail
    refine (inet_Sum _ _ _ _ _ (Bts.of_string _ _ _ d (by simp [Lib.bytesWorld_size]) hd)).mono ?_
    rintro e w' ⟨rfl, rfl⟩
    go_wp2_with fail
    refine (inet_Add _ _ _).mono ?_
    rintro e w' ⟨rfl, rfl⟩
    go_wp2_with fail
    refine (inet_Sum _ _ _ _ _ (t0.below (below_string (below_string (Below.refl _ _) _ _) _ _))).mono ?_
    rintro e w' ⟨rfl, rfl⟩
    go_wp2_with fail
    refine (inet_Add _ _ _).mono ?_
    rintro e w' ⟨rfl, rfl⟩
    have hf : Hid (addm (addm (sumL (bytesOf s)) (sumL (bytesOf d))) (sumL [0, p, n / 256, n % 256]) = canon (psTot (bytesOf s) (bytesOf d) p n)) := Lib.hid (by
      unfold sumL psTot
      rw [canon_add _ _ (tot_nonneg _ (byt_bytesOf s)) (tot_nonneg _ (byt_bytesOf d)), canon_add _ _ (by have := tot_nonneg _ (byt_bytesOf s); have := tot_nonneg _ (byt_bytesOf d); omega) (tot_nonneg _ t0.byt)]
      rw [psTail, bytesOf_length, if_pos hl.out, show n / 256 % 256 = n / 256 by omega])
    go_wp2
    go_ret2
    refine ⟨by rw [← hf.out]; rfl, ?_⟩
    exact below_string (below_string ((Below.refl _ _).alloc (Nat.le_refl _) _) _ _) _ _
  · have d6 : ((s.size : Int) == 4) = false := by rw [beq_eq_false_iff_ne]; omega
    have d7 : ((s.size : Int) == 16) = true := by rw [beq_iff_eq]; omega
    have d8 : decide (n < 4294967296) = true := decide_eq_true (by omega)
    have hl := Lib.hid q5
    clear q1 q5
    go_enter Try.func24, Try.ntmps24
    go_wp2_with fail
    have t0 := Bts.lit_new w 5 [n / 16777216, n / 65536 % 256, n / 256 % 256, n % 256, 0, 0, 0, p] (by simp only [byt_cons]; exact ⟨by omega, by omega, by omega, by omega, by omega, by omega, by omega, by omega, byt_nil⟩) (by simp)
    refine (inet_Sum _ _ _ _ _ (Bts.of_string _ _ _ s (by simp) hs)).mono ?_
    rintro e w' ⟨rfl, rfl⟩
    go_wp2_with fail
    refine (inet_Sum _ _ _ _ _ (Bts.of_string _ _ _ d (by simp [Lib.bytesWorld_size]) hd)).mono ?_
    rintro e w' ⟨rfl, rfl⟩
    go_wp2_with fail
    refine (inet_Add _ _ _).mono ?_
    rintro e w' ⟨rfl, rfl⟩
    go_wp2_with fail
    refine (inet_Sum _ _ _ _ _ (t0.below (below_string (below_string (Below.refl _ _) _ _) _ _))).mono ?_
    rintro e w' ⟨rfl, rfl⟩
    go_wp2_with fail
    refine (inet_Add _ _ _).mono ?_
    rintro e w' ⟨rfl, rfl⟩
    have hf : Hid (addm (addm (sumL (bytesOf s)) (sumL (bytesOf d))) (sumL [n / 16777216, n / 65536 % 256, n / 256 % 256, n % 256, 0, 0, 0, p]) = canon (psTot (bytesOf s) (bytesOf d) p n)) := Lib.hid (by
      unfold sumL psTot
      rw [canon_add _ _ (tot_nonneg _ (byt_bytesOf s)) (tot_nonneg _ (byt_bytesOf d)), canon_add _ _ (by have := tot_nonneg _ (byt_bytesOf s); have := tot_nonneg _ (byt_bytesOf d); omega) (tot_nonneg _ t0.byt)]
      rw [psTail, bytesOf_length, if_neg (by rw [hl.out]; decide), show n / 16777216 % 256 = n / 16777216 by omega])
    go_wp2
    go_ret2
    refine ⟨by rw [← hf.out]; rfl, ?_⟩
    exact below_string (below_string ((Below.refl _ _).alloc (Nat.le_refl _) _) _ _) _ _
end Go.Proofs.Ytljdkfgnoalgpaa

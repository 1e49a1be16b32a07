/- Contract of a message's bytes. Conditions: each argument is of its Go type. -/
import Derived.Test.YtfcccglkhdfodaaCIcmp
namespace Go.Proofs.Ytfcccglkhdfodaa
open Go.RowKit Go.Proofs.YtfcccglkhdfodaaW.PrintWords


set_option maxHeartbeats 2000000 in
theorem icmp_Bytes_bad (t c r : Int) (A : Option Addr) (n k : Nat) (s d : ByteArray) (w : World) (ht : I64 t) (hc : I64 c) (hr : I64 r) (hs : s.size ≤ 140737488351232) (hd : d.size ≤ 140737488351232)
    (h : ¬ (icOk t c r ∧ pairOk s.size d.size)) :
    Calls Try.prog 10 #[.agg #[.int .i64 t, .int .i64 c, .int .i64 r, .slice A n k], .string s, .string d] w fun e w' => e = .returned (.tuple #[.slice none 0 0, .int .i64 1]) ∧ Below w.heap.size w w' := by
  by_cases hp : pairOk s.size d.size
  case neg =>
    go_enter Try.func10, Try.ntmps10
    go_wp2_with fail
    refine (icmp_of_no _ _ _ hs hd hp).mono ?_
    rintro e w2 ⟨rfl, rfl⟩
    go_wp2
    go_ret2
    exact ⟨rfl, below_alloc (Below.refl _ _) _⟩
  have hl := k_or_low8 t c ht hc
  have hO := k_or_i64 t c
  unfold I64 at hO hr
  by_cases h1 : 0 ≤ t ∧ t ≤ 255 ∧ 0 ≤ c ∧ c ≤ 255
  · have h2 := hl.2 h1
    have h3 : ¬ (0 ≤ r ∧ r ≤ 4294967295) := fun q => h ⟨⟨h1.1, h1.2.1, h1.2.2.1, h1.2.2.2, q.1, q.2⟩, hp⟩
    have e1 : (r / 4294967296 != 0) = true := bne_iff_ne.mpr (by omega)
    clear hl h h3 h1 hO
    by_cases h4 : s.size = 4
    · go_enter Try.func10, Try.ntmps10
      go_wp2_with fail
      refine (icmp_of_four _ _ _ hs hd hp h4).mono ?_
      rintro e w2 ⟨rfl, hB2⟩
      have G := (Mg.new w t c r A n k).below hB2
      have hB := below_step2 (w := w) (below_alloc (Below.refl _ _) _) hB2
      have c0 := G.c0
      have c1 := G.c1
      have c2 := G.c2
      clear hB2
      go_wp2
      go_ret2
      exact ⟨rfl, hB⟩
    · go_enter Try.func10, Try.ntmps10
      go_wp2_with fail
      refine (icmp_of_six _ _ _ hs hd hp h4).mono ?_
      rintro e w2 ⟨rfl, hB2⟩
      have G := (Mg.new w t c r A n k).below hB2
      have hB := below_step2 (w := w) (below_alloc (Below.refl _ _) _) hB2
      have c0 := G.c0
      have c1 := G.c1
      have c2 := G.c2
      clear hB2
      go_wp2
      go_ret2
      exact ⟨rfl, hB⟩
  · have h2 : ¬ (0 ≤ bits .or .i64 t c ∧ bits .or .i64 t c ≤ 255) := fun q => h1 (hl.1 q)
    have e1 : (bits .or .i64 t c / 256 != 0) = true := bne_iff_ne.mpr (by omega)
    clear hl h h1 h2
    by_cases h4 : s.size = 4
    · go_enter Try.func10, Try.ntmps10
      go_wp2_with fail
      refine (icmp_of_four _ _ _ hs hd hp h4).mono ?_
      rintro e w2 ⟨rfl, hB2⟩
      have G := (Mg.new w t c r A n k).below hB2
      have hB := below_step2 (w := w) (below_alloc (Below.refl _ _) _) hB2
      have c0 := G.c0
      have c1 := G.c1
      have c2 := G.c2
      clear hB2
      go_wp2
      go_ret2
      exact ⟨rfl, hB⟩
    · go_enter Try.func10, Try.ntmps10
      go_wp2_with fail
      refine (icmp_of_six _ _ _ hs hd hp h4).mono ?_
      rintro e w2 ⟨rfl, hB2⟩
      have G := (Mg.new w t c r A n k).below hB2
      have hB := below_step2 (w := w) (below_alloc (Below.refl _ _) _) hB2
      have c0 := G.c0
      have c1 := G.c1
      have c2 := G.c2
      clear hB2
      go_wp2
      go_ret2
      exact ⟨rfl, hB⟩

set_option maxHeartbeats 2000000 in
theorem icmp_Bytes_long (t c r : Int) (A : Option Addr) (n k : Nat) (s d : ByteArray) (w : World) (hs : s.size ≤ 140737488351232) (hd : d.size ≤ 140737488351232) (hn : n ≤ 140737488355328)
    (hk : icOk t c r) (hp : pairOk s.size d.size) (h : 65535 < 8 + n) :
    Calls Try.prog 10 #[.agg #[.int .i64 t, .int .i64 c, .int .i64 r, .slice A n k], .string s, .string d] w fun e w' => e = .returned (.tuple #[.slice none 0 0, .int .i64 2]) ∧ Below w.heap.size w w' := by
  unfold icOk at hk
  have h2 := (k_or_low8 t c (by unfold I64; omega) (by unfold I64; omega)).2 ⟨hk.1, hk.2.1, hk.2.2.1, hk.2.2.2.1⟩
  have d3 : decide (65535 < 8 + (n : Int)) = true := decide_eq_true (by omega)
  by_cases h4 : s.size = 4
  · go_enter Try.func10, Try.ntmps10
    go_wp2_with fail
    refine (icmp_of_four _ _ _ hs hd hp h4).mono ?_
    rintro e w2 ⟨rfl, hB2⟩
    have G := (Mg.new w t c r A n k).below hB2
    have hB := below_step2 (w := w) (below_alloc (Below.refl _ _) _) hB2
    have c0 := G.c0
    have c1 := G.c1
    have c2 := G.c2
    clear hB2
    have c3 := G.c3
    go_wp2
    go_ret2
    exact ⟨rfl, hB⟩
  · go_enter Try.func10, Try.ntmps10
    go_wp2_with fail
    refine (icmp_of_six _ _ _ hs hd hp h4).mono ?_
    rintro e w2 ⟨rfl, hB2⟩
    have G := (Mg.new w t c r A n k).below hB2
    have hB := below_step2 (w := w) (below_alloc (Below.refl _ _) _) hB2
    have c0 := G.c0
    have c1 := G.c1
    have c2 := G.c2
    clear hB2
    have c3 := G.c3
    go_wp2
    go_ret2
    exact ⟨rfl, hB⟩


set_option maxHeartbeats 4000000 in
theorem icmp_Bytes_ok (t c r : Int) (A : Option Addr) (n k : Nat) (xs : List Int) (s d : ByteArray) (w : World) (hs : s.size ≤ 140737488351232) (hd : d.size ≤ 140737488351232) (h0 : Bts w A n k xs)
    (hk : icOk t c r) (hp : pairOk s.size d.size) (h : 8 + n ≤ 65535) :
    Calls Try.prog 10 #[.agg #[.int .i64 t, .int .i64 c, .int .i64 r, .slice A n k], .string s, .string d] w fun e w' => ∃ v, e = .returned (.tuple #[v, .int .i64 0]) ∧ OwnB w' w.heap.size v (icBytes t c r xs (bytesOf s) (bytesOf d)) ∧ Below w.heap.size w w' := by
  unfold icOk at hk
  have h2 := (k_or_low8 t c (by unfold I64; omega) (by unfold I64; omega)).2 ⟨hk.1, hk.2.1, hk.2.2.1, hk.2.2.2.1⟩
  have d3 : decide (65535 < 8 + (n : Int)) = false := decide_eq_false (by omega)
  have hl := h0.len
  have ls := bytesOf_length s
  replace ls := Lib.hid ls
  by_cases h4 : s.size = 4
  · have hS : Hid (icSum (icZero t c r xs) (bytesOf s) (bytesOf d) = sumL (icZero t c r xs)) := Lib.hid (by unfold icSum; rw [if_neg (by rw [ls.out]; omega)])
    go_enter Try.func10, Try.ntmps10
    go_wp2_with fail
    refine (icmp_of_four _ _ _ hs hd hp h4).mono ?_
    rintro e w2 ⟨rfl, hB2⟩
    have G := (Mg.new w t c r A n k).below hB2
    have hB := below_step2 (w := w) (below_alloc (Below.refl _ _) _) hB2
    have c0 := G.c0
    have c1 := G.c1
    have c2 := G.c2
    clear hB2
    replace h0 := h0.below hB
    have c3 := G.c3
    have c3' := (G.alloc (.cells #[.int .u8 t, .int .u8 c, .int .u8 0, .int .u8 0, .int .u8 (r / 16777216), .int .u8 (r / 65536 % 256), .int .u8 (r / 256 % 256), .int .u8 (r % 256)] 5)).c3
    have o0 := Lib.hid (OwnB.lit_at w2 w2.heap.size w2.heap.size [t, c, 0, 0, r / 16777216, r / 65536 % 256, r / 256 % 256, r % 256] rfl (Nat.le_refl _) (by simp only [byt_cons]; exact ⟨by omega, by omega, by omega, by omega, by omega, by omega, by omega, by omega, byt_nil⟩) (by simp))
    have H0 := Lib.hid h0
    have HB := Lib.hid hB
    clear h0 hB G
    go_wp2_with (at_builtin; refine hid_stop ?_)
    refine Lib.hid ?_
    refine append_own (w0 := w2) w2.heap.size rfl (.tmp 62) (.tmp 64) 22 rfl Try.underlying22 Try.info5 _ _ _ _ _ _ rfl rfl o0.out (H0.out.alloc _) ((Below.refl _ _).alloc (Nat.le_refl _) _) ((Below.refl _ w2).alloc (Nat.le_refl _) _).size (by simp; omega) ?_
    intro v3 w3 ho hB3 hg3
    have e3 : [t, c, 0, 0, r / 16777216, r / 65536 % 256, r / 256 % 256, r % 256] ++ xs = icZero t c r xs := rfl
    rw [e3] at ho
    clear e3 c0 c1 c2 c3 c3' o0 hg3
    obtain ⟨g, m, cap, e1, rr⟩ := ho.row (by rw [icZero_length]; omega)
    subst e1
    have hm : m = 8 + n := by have := rr.len; rw [icZero_length] at this; omega
    subst hm
    have hww := HB.out.size
    have hgw : w.heap.size ≤ g := Nat.le_trans hww rr.base_
    have hB := below_step2 HB.out hB3
    clear ho H0 HB hB3
    go_wp2_with fail
    refine (icmp_narrow_sum _ _ _ _ _ rr.bts).mono ?_
    rintro e w4 ⟨rfl, hB4⟩
    have hD := icSum_bd (icZero t c r xs) (bytesOf s) (bytesOf d)
    have hC : Hid (icCheck t c r xs (bytesOf s) (bytesOf d) = 65535 - icSum (icZero t c r xs) (bytesOf s) (bytesOf d)) := rfl
    rw [hS.out] at hD hC
    generalize sumL (icZero t c r xs) = D at hD hC ⊢
    replace rr := rr.below hB4
    replace hB := below_step2 hB hB4
    clear hB4
    have c2 := rr.cell 2 (by omega)
    have c3 := rr.cell 3 (by omega)
    have f2 := rr.free 2 (by omega)
    have f3 := rr.free 3 (by omega)
    have R := Lib.hid rr
    have HB := Lib.hid hB
    clear rr hB
    go_wp2
    go_ret2
    refine ⟨_, rfl, ?_, below_set (below_set HB.out (p := ⟨g, 2, none⟩) hgw _) (p := ⟨g, 3, none⟩) hgw _⟩
    have q := ((R.out.set 2 ((65535 - D) / 256) (by omega)).set 3 ((65535 - D) % 256) (by omega)).ownB.lower (base' := w.heap.size) hww
    have e : ((icZero t c r xs).set 2 ((65535 - D) / 256)).set 3 ((65535 - D) % 256) = icBytes t c r xs (bytesOf s) (bytesOf d) := by
      unfold icBytes
      rw [hC.out]
      rfl
    rw [e] at q
    exact q
  · have hS : Hid (icSum (icZero t c r xs) (bytesOf s) (bytesOf d) = psSum 58 (icZero t c r xs) (bytesOf s) (bytesOf d)) := Lib.hid (by unfold icSum; rw [if_pos (by rw [ls.out]; unfold pairOk at hp; omega)])
    go_enter Try.func10, Try.ntmps10
    go_wp2_with fail
    refine (icmp_of_six _ _ _ hs hd hp h4).mono ?_
    rintro e w2 ⟨rfl, hB2⟩
    have G := (Mg.new w t c r A n k).below hB2
    have hB := below_step2 (w := w) (below_alloc (Below.refl _ _) _) hB2
    have c0 := G.c0
    have c1 := G.c1
    have c2 := G.c2
    clear hB2
    replace h0 := h0.below hB
    have c3 := G.c3
    have c3' := (G.alloc (.cells #[.int .u8 t, .int .u8 c, .int .u8 0, .int .u8 0, .int .u8 (r / 16777216), .int .u8 (r / 65536 % 256), .int .u8 (r / 256 % 256), .int .u8 (r % 256)] 5)).c3
    have o0 := Lib.hid (OwnB.lit_at w2 w2.heap.size w2.heap.size [t, c, 0, 0, r / 16777216, r / 65536 % 256, r / 256 % 256, r % 256] rfl (Nat.le_refl _) (by simp only [byt_cons]; exact ⟨by omega, by omega, by omega, by omega, by omega, by omega, by omega, by omega, byt_nil⟩) (by simp))
    have H0 := Lib.hid h0
    have HB := Lib.hid hB
    clear h0 hB G
    go_wp2_with (at_builtin; refine hid_stop ?_)
    refine Lib.hid ?_
    refine append_own (w0 := w2) w2.heap.size rfl (.tmp 62) (.tmp 64) 22 rfl Try.underlying22 Try.info5 _ _ _ _ _ _ rfl rfl o0.out (H0.out.alloc _) ((Below.refl _ _).alloc (Nat.le_refl _) _) ((Below.refl _ w2).alloc (Nat.le_refl _) _).size (by simp; omega) ?_
    intro v3 w3 ho hB3 hg3
    have e3 : [t, c, 0, 0, r / 16777216, r / 65536 % 256, r / 256 % 256, r % 256] ++ xs = icZero t c r xs := rfl
    rw [e3] at ho
    clear e3 c0 c1 c2 c3 c3' o0 hg3
    obtain ⟨g, m, cap, e1, rr⟩ := ho.row (by rw [icZero_length]; omega)
    subst e1
    have hm : m = 8 + n := by have := rr.len; rw [icZero_length] at this; omega
    subst hm
    have hww := HB.out.size
    have hgw : w.heap.size ≤ g := Nat.le_trans hww rr.base_
    have hB := below_step2 HB.out hB3
    clear ho H0 HB hB3
    go_wp2_with fail
    refine (icmp_wide_sum _ _ _ _ _ _ _ hs hd rr.bts hp h).mono ?_
    rintro e w4 ⟨rfl, hB4⟩
    have hD := icSum_bd (icZero t c r xs) (bytesOf s) (bytesOf d)
    have hC : Hid (icCheck t c r xs (bytesOf s) (bytesOf d) = 65535 - icSum (icZero t c r xs) (bytesOf s) (bytesOf d)) := rfl
    rw [hS.out] at hD hC
    generalize psSum 58 (icZero t c r xs) (bytesOf s) (bytesOf d) = D at hD hC ⊢
    replace rr := rr.below hB4
    replace hB := below_step2 hB hB4
    clear hB4
    have c2 := rr.cell 2 (by omega)
    have c3 := rr.cell 3 (by omega)
    have f2 := rr.free 2 (by omega)
    have f3 := rr.free 3 (by omega)
    have R := Lib.hid rr
    have HB := Lib.hid hB
    clear rr hB
    go_wp2
    go_ret2
    refine ⟨_, rfl, ?_, below_set (below_set HB.out (p := ⟨g, 2, none⟩) hgw _) (p := ⟨g, 3, none⟩) hgw _⟩
    have q := ((R.out.set 2 ((65535 - D) / 256) (by omega)).set 3 ((65535 - D) % 256) (by omega)).ownB.lower (base' := w.heap.size) hww
    have e : ((icZero t c r xs).set 2 ((65535 - D) / 256)).set 3 ((65535 - D) % 256) = icBytes t c r xs (bytesOf s) (bytesOf d) := by
      unfold icBytes
      rw [hC.out]
      rfl
    rw [e] at q
    exact q

theorem icmp_Bytes (t c r : Int) (A : Option Addr) (n k : Nat) (xs : List Int) (s d : ByteArray) (w : World) (ht : I64 t) (hc : I64 c) (hr : I64 r) (hs : s.size ≤ 140737488351232) (hd : d.size ≤ 140737488351232) (h0 : Bts w A n k xs) :
    Calls Try.prog 10 #[.agg #[.int .i64 t, .int .i64 c, .int .i64 r, .slice A n k], .string s, .string d] w (LaidPost (icLayErr t c r n s.size d.size) (icBytes t c r xs (bytesOf s) (bytesOf d)) w) := by
  have hm := h0.max
  by_cases h1 : icOk t c r ∧ pairOk s.size d.size
  · by_cases h2 : 65535 < 8 + n
    · refine (icmp_Bytes_long t c r A n k s d w hs hd hm h1.1 h1.2 h2).mono fun e w' ⟨he, hB⟩ => ?_
      have q : icLayErr t c r n s.size d.size = 2 := by unfold icLayErr; rw [if_neg (fun q => q h1), if_pos h2]
      rw [q]
      exact ⟨none, 0, 0, he, OwnB.nil_ _ _, hB⟩
    · refine (icmp_Bytes_ok t c r A n k xs s d w hs hd h0 h1.1 h1.2 (by omega)).mono fun e w' ⟨v, he, ho, hB⟩ => ?_
      have q : icLayErr t c r n s.size d.size = 0 := icLayErr_zero.2 ⟨h1.1, h1.2, by omega⟩
      rw [q]
      obtain ⟨A', n', c', rfl, _⟩ := ho.bts
      exact ⟨A', n', c', he, ho, hB⟩
  · refine (icmp_Bytes_bad t c r A n k s d w ht hc hr hs hd h1).mono fun e w' ⟨he, hB⟩ => ?_
    have q : icLayErr t c r n s.size d.size = 1 := by unfold icLayErr; rw [if_pos h1]
    rw [q]
    exact ⟨none, 0, 0, he, OwnB.nil_ _ _, hB⟩
end Go.Proofs.Ytfcccglkhdfodaa

/- UdpBack holds: what is laid down is read as itself, in either direction; what is read is laid down as the same bytes, if its check is not 0. Conditions: none beside the row's own reach. -/
import Derived.Test.YtbmlbomildfmcaaL05Parses
import Derived.Test.YtbmlbomildfmcaaCUdpG
namespace Go.Proofs.Ytbmlbomildfmcaa
open Go.RowKit Go.Proofs.YtbmlbomildfmcaaW.PrintWords




set_option maxHeartbeats 4000000 in
theorem UdpBack_any (x y : Int) (A : Option Addr) (n c : Nat) (xs : List Int) (B : Option Addr) (m k : Nat) (bs : List Int) (s d : ByteArray) (w : World) (hx : I64 x) (hy : I64 y) (h : Bts w A n c xs) (h2 : Bts w B m k bs) (hs : s.size ≤ 140737488351232) (hd : d.size ≤ 140737488351232) :
    Calls Try.prog 5 #[.agg #[.int .i64 x, .int .i64 y, .slice A n c], .slice B m k, .string s, .string d] w fun e w' => e = .returned (.bool true) ∧ Below w.heap.size w w' := by
  have hm := h.max
  have hl := h.len
  go_enter Try.func5, Try.ntmps5
  go_wp2_with fail
  refine (law05_few x y A n c s d _ hs hd hm).mono ?_
  rintro e w1 ⟨rfl, hB1⟩
  have U := (Dg.new w x y A n c).below hB1
  have hB := below_step2 (w := w) (below_alloc (Below.refl _ _) _) hB1
  replace h := h.below hB
  replace h2 := h2.below hB
  clear hB1
  by_cases hf : fewOk s.size d.size n
  case neg =>
    rw [decide_eq_false hf]
    go_wp2
    go_ret
    exact ⟨rfl, hB⟩
  rw [decide_eq_true hf]
  by_cases hm3 : 3000 < m
  · have d3 : decide ((3000 : Int) < (m : Int)) = true := decide_eq_true (by omega)
    go_wp2
    go_ret
    exact ⟨rfl, hB⟩
  have d3 : decide ((3000 : Int) < (m : Int)) = false := decide_eq_false (by omega)
  have hn : n ≤ 70000 := by unfold fewOk at hf; omega
  have c0 := U.c0
  have c1 := U.c1
  have c2 := U.c2
  clear hf
  go_wp2_with fail
  refine (udp_Bytes x y A n c xs s d w1 hx hy hs hd h).mono ?_
  rintro e w2 ⟨A2, n2, k2, rfl, o2, hB2⟩
  replace U := U.below hB2
  replace h := h.below hB2
  replace h2 := h2.below hB2
  replace hB := below_step2 hB hB2
  clear hB2 c0 c1 c2
  by_cases hE : dgLayErr x y n s.size d.size = 0
  · obtain ⟨hz, hp, hn8⟩ := dgLayErr_zero.1 hE
    rw [hE] at o2 ⊢
    rw [if_pos rfl] at o2
    have hbx := h.byt
    have hg := dgBytes_get x y xs (bytesOf s) (bytesOf d)
    have hp' : pairOk (bytesOf s).length (bytesOf d).length := by rw [bytesOf_length, bytesOf_length]; exact hp
    have hE1 := dgBytes_err x y xs (bytesOf s) (bytesOf d) ⟨hz.1, hz.2.1⟩ ⟨hz.2.2.1, hz.2.2.2⟩ (by omega) hbx (byt_bytesOf s) (byt_bytesOf d) hp'
    have hE2 := hE1
    rw [dgErr_comm _ _ _ hp'.1] at hE2
    have hE1' := Lib.hid hE1
    have hE2' := Lib.hid hE2
    have hg' := Lib.hid hg
    have hC := dgCheck_bd x y xs (bytesOf s) (bytesOf d)
    have hlB := Lib.hid (dgBytes_length x y xs (bytesOf s) (bytesOf d))
    clear hE1 hE2 hg hbx
    go_wp2_with fail
    generalize w2 = w2' at o2 U h h2 hB  ⊢
    refine (udp_Parse A2 n2 k2 _ s d w2' hs hd o2.sl).mono ?_
    intro e w3 hp
    obtain ⟨x3, y3, A3, n3, c3, z3, rfl, T3, hB3, ex3, ey3, ez3⟩ := hp.view
    clear hp
    rw [if_pos hE1'.out] at ex3 ey3 ez3
    rw [hg'.out.2.1] at ex3
    rw [hg'.out.2.2.1] at ey3
    rw [hg'.out.2.2.2.1] at ez3
    rw [ex3, ey3, hE1'.out]
    rw [ez3] at T3
    clear ex3 ey3 ez3
    have D3 := Dg.new w3 x y A3 n3 c3
    replace hB3 := hB3.trans ((below_alloc (Below.refl _ _) (.cells #[.int .i64 x, .int .i64 y, .slice A3 n3 c3] 24)).mono hB3.size)
    replace T3 := T3.alloc (.cells #[.int .i64 x, .int .i64 y, .slice A3 n3 c3] 24)
    replace o2 := o2.below hB3
    replace U := U.below hB3
    replace h := h.below hB3
    replace h2 := h2.below hB3
    skip
    replace hB := below_step2 hB hB3
    clear hB3
    go_wp2_with fail
    generalize w3.alloc (.cells #[.int .i64 x, .int .i64 y, .slice A3 n3 c3] 24) = w3' at o2 U h h2 hB T3 D3 ⊢
    refine (udp_Parse A2 n2 k2 _ d s w3' hd hs o2.sl).mono ?_
    intro e w4 hp
    obtain ⟨x3, y3, A4, n4, c4, z3, rfl, T4, hB3, ex3, ey3, ez3⟩ := hp.view
    clear hp
    rw [if_pos hE2'.out] at ex3 ey3 ez3
    rw [hg'.out.2.1] at ex3
    rw [hg'.out.2.2.1] at ey3
    rw [hg'.out.2.2.2.1] at ez3
    rw [ex3, ey3, hE2'.out]
    rw [ez3] at T4
    clear ex3 ey3 ez3
    have D4 := Dg.new w4 x y A4 n4 c4
    replace hB3 := hB3.trans ((below_alloc (Below.refl _ _) (.cells #[.int .i64 x, .int .i64 y, .slice A4 n4 c4] 24)).mono hB3.size)
    replace T4 := T4.alloc (.cells #[.int .i64 x, .int .i64 y, .slice A4 n4 c4] 24)
    replace o2 := o2.below hB3
    replace U := U.below hB3
    replace h := h.below hB3
    replace h2 := h2.below hB3
    (replace T3 := T3.below hB3; replace D3 := D3.below hB3)
    replace hB := below_step2 hB hB3
    clear hB3
    have c0 := U.c0
    have c1 := U.c1
    have c2 := U.c2
    have b0 := D3.c0
    have b1 := D3.c1
    have b2 := D3.c2
    go_wp2_with fail
    generalize w4.alloc (.cells #[.int .i64 x, .int .i64 y, .slice A4 n4 c4] 24) = w4' at o2 U h h2 hB D3 T3 T4 D4 c0 c1 c2 b0 b1 b2 ⊢
    refine (ref05_Same _ _ _ _ _ _ _ _ _ _ _ _ _ h T3).mono ?_
    rintro e w4a ⟨rfl, hB3⟩
    rw [decide_eq_true (⟨rfl, rfl, rfl⟩ : x = x ∧ y = y ∧ xs = xs)]
    replace o2 := o2.below hB3
    replace U := U.below hB3
    replace h := h.below hB3
    replace h2 := h2.below hB3
    (replace T4 := T4.below hB3; replace D4 := D4.below hB3)
    replace hB := below_step2 hB hB3
    clear hB3 c0 c1 c2 b0 b1 b2
    clear T3 D3
    have c0 := U.c0
    have c1 := U.c1
    have c2 := U.c2
    have b0 := D4.c0
    have b1 := D4.c1
    have b2 := D4.c2
    go_wp2_with fail
    generalize w4a = w4b at o2 U h h2 hB D4 T4  c0 c1 c2 b0 b1 b2 ⊢
    refine (ref05_Same _ _ _ _ _ _ _ _ _ _ _ _ _ h T4).mono ?_
    rintro e w4c ⟨rfl, hB3⟩
    rw [decide_eq_true (⟨rfl, rfl, rfl⟩ : x = x ∧ y = y ∧ xs = xs)]
    replace o2 := o2.below hB3
    replace U := U.below hB3
    replace h := h.below hB3
    replace h2 := h2.below hB3
    skip
    replace hB := below_step2 hB hB3
    clear hB3 c0 c1 c2 b0 b1 b2
    clear T4 D4 U
    have hn2 : n2 = 8 + n := by have := o2.sl.len; rw [hlB.out] at this; omega
    have d8 : decide ((n2 : Int) < 8) = false := decide_eq_false (by omega)
    obtain ⟨ad, rfl, _, aa⟩ := o2.sl.lit (by omega)
    have a6 := aa 6 (by omega) (by omega)
    have a7 := aa 7 (by omega) (by omega)
    rw [hg'.out.2.2.2.2.1] at a6
    rw [hg'.out.2.2.2.2.2] at a7
    have i6 : (6 : Int) < (n2 : Int) := by omega
    have i7 : (7 : Int) < (n2 : Int) := by omega
    clear aa hn2 hn8 h o2 hlB hE1' hE2' hg'
    generalize dgCheck x y xs (bytesOf s) (bytesOf d) = C at a6 a7 hC
    by_cases h6 : C / 256 = 0
    · have e7 : (C % 256 == 0) = false := beq_eq_false_iff_ne.mpr (by omega)
      have e6 : (C / 256 == 0) = true := by rw [beq_iff_eq]; exact h6
      generalize C / 256 = C6 at a6 e6
      generalize C % 256 = C7 at a7 e7
      clear h6 hC
      go_wp2_with fail
      refine (udp_Parse B m k bs s d w4c hs hd h2).mono ?_
      intro e w5 hp
      obtain ⟨x5, y5, A5, n5, c5, z5, rfl, t5, hB5, ex5, ey5, ez5⟩ := hp.view
      clear hp
      have D5 := Dg.new w5 x5 y5 A5 n5 c5
      replace hB5 := hB5.trans ((below_alloc (Below.refl _ _) (.cells #[.int .i64 x5, .int .i64 y5, .slice A5 n5 c5] 24)).mono hB5.size)
      replace h2 := h2.below hB5
      replace t5 := t5.alloc (.cells #[.int .i64 x5, .int .i64 y5, .slice A5 n5 c5] 24)
      replace hB := below_step2 hB hB5
      clear hB5
      have hb2 := h2.byt
      have hl2 := h2.len
      by_cases hF : dgErr bs (bytesOf s) (bytesOf d) = 0
      · rw [if_pos hF] at ex5 ey5 ez5
        subst ez5
        obtain ⟨q1, q2, q3, q8⟩ := dg_back_ok bs _ _ hb2 hF
        have hback := Lib.hid (dgBytes_back bs _ _ hb2 (byt_bytesOf s) (byt_bytesOf d) hF)
        rw [hF]
        rw [bytesOf_length, bytesOf_length] at q2
        have hn5 := t5.len
        have hE : dgLayErr (dgSrc bs) (dgDst bs) n5 s.size d.size = 0 := dgLayErr_zero.2 ⟨q1, q2, by omega⟩
        have hsr : I64 (dgSrc bs) := by unfold I64; omega
        have hds : I64 (dgDst bs) := by unfold I64; omega
        clear q1 q2 q3 hF hn5
        have c0 := D5.c0
        have c1 := D5.c1
        have c2 := D5.c2
        rw [← ex5] at hE hsr hback
        rw [← ey5] at hE hds hback
        clear ex5 ey5
        replace hE := Lib.hid hE
        go_wp2_with fail
        generalize w5.alloc (.cells #[.int .i64 x5, .int .i64 y5, .slice A5 n5 c5] 24) = w6 at c0 c1 c2 h2 t5 hB D5 ⊢
        refine (udp_Bytes x5 y5 A5 n5 c5 _ s d w6 hsr hds hs hd t5).mono ?_
        rintro e w7 ⟨A7, n7, k7, rfl, o7, hB7⟩
        rw [hE.out] at o7 ⊢
        rw [if_pos rfl] at o7
        replace h2 := h2.below hB7
        replace hB := below_step2 hB hB7
        clear hB7 c0 c1 c2 D5 t5 hE hsr hds
        go_wp2_with fail
        refine (awake05 _).mono ?_
        rintro e w8 ⟨rfl, hB2⟩
        replace hB2 := below_step2 (w := w7) (by repeat (first | exact Below.refl _ _ | apply below_alloc | apply below_drew | apply pw_below_drewN)) hB2
        replace o7 := o7.below hB2
        replace h2 := h2.below hB2
        replace hB := below_step2 hB hB2
        clear hB2
        obtain ⟨ad, rfl, _, aa⟩ := h2.lit (by omega)
        have a6 := aa 6 (by omega) (by omega)
        have a7 := aa 7 (by omega) (by omega)
        have i6 : (6 : Int) < (m : Int) := by omega
        have i7 : (7 : Int) < (m : Int) := by omega
        have r1 := o7.sl.run_string (P := Try.prog) 22 9 Try.underlying22 Try.underlying5 Try.underlying9
        have r2 := h2.run_string (P := Try.prog) 22 9 Try.underlying22 Try.underlying5 Try.underlying9
        have hN : Hid (dgNone bs ↔ bs.getD 6 0 = 0 ∧ bs.getD 7 0 = 0) := Iff.rfl
        clear aa hl2 hb2 q8
        generalize bs.getD 6 0 = x6 at a6 hN
        generalize bs.getD 7 0 = x7 at a7 hN
        replace hB := Lib.hid hB
        clear o7 h2
        by_cases h6 : x6 = 0
        · by_cases h7 : x7 = 0
          · subst h6 h7
            clear r1 r2
            go_wp2
            go_ret
            exact ⟨rfl, hB.out⟩
          · have e7 : (x7 == 0) = false := beq_eq_false_iff_ne.mpr h7
            have e6 : (x6 == 0) = true := by rw [beq_iff_eq]; exact h6
            rw [hback.out (fun q => h7 (hN.out.1 q).2)] at r1
            clear h6 h7 hN
            go_wp2
            go_ret
            exact ⟨rfl, hB.out⟩
        · have e6 : (x6 == 0) = false := beq_eq_false_iff_ne.mpr h6
          rw [hback.out (fun q => h6 (hN.out.1 q).1)] at r1
          clear h6 hN
          go_wp2
          go_ret
          exact ⟨rfl, hB.out⟩
      · rw [if_neg hF] at ex5 ey5 ez5
        subst ex5 ey5 ez5
        have e5 : (dgErr bs (bytesOf s) (bytesOf d) != 0) = true := bne_iff_ne.mpr hF
        generalize dgErr bs (bytesOf s) (bytesOf d) = F at e5 ⊢
        clear hF hb2 hl2 h2
        go_wp2_with fail
        generalize w5.alloc (.cells #[.int .i64 0, .int .i64 0, .slice A5 n5 c5] 24) = w5' at D5 t5 hB ⊢
        refine (awake05 _).mono ?_
        rintro e w6 ⟨rfl, hB6⟩
        replace D5 := D5.below hB6
        replace t5 := t5.below hB6
        replace hB := below_step2 hB hB6
        clear hB6
        have c0 := D5.c0
        have c1 := D5.c1
        have c2 := D5.c2
        go_wp2_with fail
        refine (ref05_Same _ _ _ _ _ _ _ _ _ _ _ _ _ t5 (Bts.nil_ none 0 _ (by omega))).mono ?_
        rintro e w7 ⟨rfl, hB7⟩
        rw [decide_eq_true (⟨rfl, rfl, rfl⟩ : (0 : Int) = 0 ∧ (0 : Int) = 0 ∧ ([] : List Int) = [])]
        replace hB := below_step2 hB hB7
        clear hB7 c0 c1 c2 D5 t5
        go_wp2
        go_ret
        exact ⟨rfl, hB⟩
    · have e6 : (C / 256 == 0) = false := beq_eq_false_iff_ne.mpr h6
      generalize C / 256 = C6 at a6 e6
      generalize C % 256 = C7 at a7
      clear h6 hC
      go_wp2_with fail
      refine (udp_Parse B m k bs s d w4c hs hd h2).mono ?_
      intro e w5 hp
      obtain ⟨x5, y5, A5, n5, c5, z5, rfl, t5, hB5, ex5, ey5, ez5⟩ := hp.view
      clear hp
      have D5 := Dg.new w5 x5 y5 A5 n5 c5
      replace hB5 := hB5.trans ((below_alloc (Below.refl _ _) (.cells #[.int .i64 x5, .int .i64 y5, .slice A5 n5 c5] 24)).mono hB5.size)
      replace h2 := h2.below hB5
      replace t5 := t5.alloc (.cells #[.int .i64 x5, .int .i64 y5, .slice A5 n5 c5] 24)
      replace hB := below_step2 hB hB5
      clear hB5
      have hb2 := h2.byt
      have hl2 := h2.len
      by_cases hF : dgErr bs (bytesOf s) (bytesOf d) = 0
      · rw [if_pos hF] at ex5 ey5 ez5
        subst ez5
        obtain ⟨q1, q2, q3, q8⟩ := dg_back_ok bs _ _ hb2 hF
        have hback := Lib.hid (dgBytes_back bs _ _ hb2 (byt_bytesOf s) (byt_bytesOf d) hF)
        rw [hF]
        rw [bytesOf_length, bytesOf_length] at q2
        have hn5 := t5.len
        have hE : dgLayErr (dgSrc bs) (dgDst bs) n5 s.size d.size = 0 := dgLayErr_zero.2 ⟨q1, q2, by omega⟩
        have hsr : I64 (dgSrc bs) := by unfold I64; omega
        have hds : I64 (dgDst bs) := by unfold I64; omega
        clear q1 q2 q3 hF hn5
        have c0 := D5.c0
        have c1 := D5.c1
        have c2 := D5.c2
        rw [← ex5] at hE hsr hback
        rw [← ey5] at hE hds hback
        clear ex5 ey5
        replace hE := Lib.hid hE
        go_wp2_with fail
        generalize w5.alloc (.cells #[.int .i64 x5, .int .i64 y5, .slice A5 n5 c5] 24) = w6 at c0 c1 c2 h2 t5 hB D5 ⊢
        refine (udp_Bytes x5 y5 A5 n5 c5 _ s d w6 hsr hds hs hd t5).mono ?_
        rintro e w7 ⟨A7, n7, k7, rfl, o7, hB7⟩
        rw [hE.out] at o7 ⊢
        rw [if_pos rfl] at o7
        replace h2 := h2.below hB7
        replace hB := below_step2 hB hB7
        clear hB7 c0 c1 c2 D5 t5 hE hsr hds
        go_wp2_with fail
        refine (awake05 _).mono ?_
        rintro e w8 ⟨rfl, hB2⟩
        replace hB2 := below_step2 (w := w7) (by repeat (first | exact Below.refl _ _ | apply below_alloc | apply below_drew | apply pw_below_drewN)) hB2
        replace o7 := o7.below hB2
        replace h2 := h2.below hB2
        replace hB := below_step2 hB hB2
        clear hB2
        obtain ⟨ad, rfl, _, aa⟩ := h2.lit (by omega)
        have a6 := aa 6 (by omega) (by omega)
        have a7 := aa 7 (by omega) (by omega)
        have i6 : (6 : Int) < (m : Int) := by omega
        have i7 : (7 : Int) < (m : Int) := by omega
        have r1 := o7.sl.run_string (P := Try.prog) 22 9 Try.underlying22 Try.underlying5 Try.underlying9
        have r2 := h2.run_string (P := Try.prog) 22 9 Try.underlying22 Try.underlying5 Try.underlying9
        have hN : Hid (dgNone bs ↔ bs.getD 6 0 = 0 ∧ bs.getD 7 0 = 0) := Iff.rfl
        clear aa hl2 hb2 q8
        generalize bs.getD 6 0 = x6 at a6 hN
        generalize bs.getD 7 0 = x7 at a7 hN
        replace hB := Lib.hid hB
        clear o7 h2
        by_cases h6 : x6 = 0
        · by_cases h7 : x7 = 0
          · subst h6 h7
            clear r1 r2
            go_wp2
            go_ret
            exact ⟨rfl, hB.out⟩
          · have e7 : (x7 == 0) = false := beq_eq_false_iff_ne.mpr h7
            have e6 : (x6 == 0) = true := by rw [beq_iff_eq]; exact h6
            rw [hback.out (fun q => h7 (hN.out.1 q).2)] at r1
            clear h6 h7 hN
            go_wp2
            go_ret
            exact ⟨rfl, hB.out⟩
        · have e6 : (x6 == 0) = false := beq_eq_false_iff_ne.mpr h6
          rw [hback.out (fun q => h6 (hN.out.1 q).1)] at r1
          clear h6 hN
          go_wp2
          go_ret
          exact ⟨rfl, hB.out⟩
      · rw [if_neg hF] at ex5 ey5 ez5
        subst ex5 ey5 ez5
        have e5 : (dgErr bs (bytesOf s) (bytesOf d) != 0) = true := bne_iff_ne.mpr hF
        generalize dgErr bs (bytesOf s) (bytesOf d) = F at e5 ⊢
        clear hF hb2 hl2 h2
        go_wp2_with fail
        generalize w5.alloc (.cells #[.int .i64 0, .int .i64 0, .slice A5 n5 c5] 24) = w5' at D5 t5 hB ⊢
        refine (awake05 _).mono ?_
        rintro e w6 ⟨rfl, hB6⟩
        replace D5 := D5.below hB6
        replace t5 := t5.below hB6
        replace hB := below_step2 hB hB6
        clear hB6
        have c0 := D5.c0
        have c1 := D5.c1
        have c2 := D5.c2
        go_wp2_with fail
        refine (ref05_Same _ _ _ _ _ _ _ _ _ _ _ _ _ t5 (Bts.nil_ none 0 _ (by omega))).mono ?_
        rintro e w7 ⟨rfl, hB7⟩
        rw [decide_eq_true (⟨rfl, rfl, rfl⟩ : (0 : Int) = 0 ∧ (0 : Int) = 0 ∧ ([] : List Int) = [])]
        replace hB := below_step2 hB hB7
        clear hB7 c0 c1 c2 D5 t5
        go_wp2
        go_ret
        exact ⟨rfl, hB⟩
  · have e0 : (dgLayErr x y n s.size d.size == 0) = false := beq_eq_false_iff_ne.mpr hE
    generalize dgLayErr x y n s.size d.size = E at e0 o2 ⊢
    clear hE U h o2
    go_wp2_with fail
    refine (udp_Parse B m k bs s d w2 hs hd h2).mono ?_
    intro e w5 hp
    obtain ⟨x5, y5, A5, n5, c5, z5, rfl, t5, hB5, ex5, ey5, ez5⟩ := hp.view
    clear hp
    have D5 := Dg.new w5 x5 y5 A5 n5 c5
    replace hB5 := hB5.trans ((below_alloc (Below.refl _ _) (.cells #[.int .i64 x5, .int .i64 y5, .slice A5 n5 c5] 24)).mono hB5.size)
    replace h2 := h2.below hB5
    replace t5 := t5.alloc (.cells #[.int .i64 x5, .int .i64 y5, .slice A5 n5 c5] 24)
    replace hB := below_step2 hB hB5
    clear hB5
    have hb2 := h2.byt
    have hl2 := h2.len
    by_cases hF : dgErr bs (bytesOf s) (bytesOf d) = 0
    · rw [if_pos hF] at ex5 ey5 ez5
      subst ez5
      obtain ⟨q1, q2, q3, q8⟩ := dg_back_ok bs _ _ hb2 hF
      have hback := Lib.hid (dgBytes_back bs _ _ hb2 (byt_bytesOf s) (byt_bytesOf d) hF)
      rw [hF]
      rw [bytesOf_length, bytesOf_length] at q2
      have hn5 := t5.len
      have hE : dgLayErr (dgSrc bs) (dgDst bs) n5 s.size d.size = 0 := dgLayErr_zero.2 ⟨q1, q2, by omega⟩
      have hsr : I64 (dgSrc bs) := by unfold I64; omega
      have hds : I64 (dgDst bs) := by unfold I64; omega
      clear q1 q2 q3 hF hn5
      have c0 := D5.c0
      have c1 := D5.c1
      have c2 := D5.c2
      rw [← ex5] at hE hsr hback
      rw [← ey5] at hE hds hback
      clear ex5 ey5
      replace hE := Lib.hid hE
      go_wp2_with fail
      generalize w5.alloc (.cells #[.int .i64 x5, .int .i64 y5, .slice A5 n5 c5] 24) = w6 at c0 c1 c2 h2 t5 hB D5 ⊢
      refine (udp_Bytes x5 y5 A5 n5 c5 _ s d w6 hsr hds hs hd t5).mono ?_
      rintro e w7 ⟨A7, n7, k7, rfl, o7, hB7⟩
      rw [hE.out] at o7 ⊢
      rw [if_pos rfl] at o7
      replace h2 := h2.below hB7
      replace hB := below_step2 hB hB7
      clear hB7 c0 c1 c2 D5 t5 hE hsr hds
      go_wp2_with fail
      refine (awake05 _).mono ?_
      rintro e w8 ⟨rfl, hB2⟩
      replace hB2 := below_step2 (w := w7) (by repeat (first | exact Below.refl _ _ | apply below_alloc | apply below_drew | apply pw_below_drewN)) hB2
      replace o7 := o7.below hB2
      replace h2 := h2.below hB2
      replace hB := below_step2 hB hB2
      clear hB2
      obtain ⟨ad, rfl, _, aa⟩ := h2.lit (by omega)
      have a6 := aa 6 (by omega) (by omega)
      have a7 := aa 7 (by omega) (by omega)
      have i6 : (6 : Int) < (m : Int) := by omega
      have i7 : (7 : Int) < (m : Int) := by omega
      have r1 := o7.sl.run_string (P := Try.prog) 22 9 Try.underlying22 Try.underlying5 Try.underlying9
      have r2 := h2.run_string (P := Try.prog) 22 9 Try.underlying22 Try.underlying5 Try.underlying9
      have hN : Hid (dgNone bs ↔ bs.getD 6 0 = 0 ∧ bs.getD 7 0 = 0) := Iff.rfl
      clear aa hl2 hb2 q8
      generalize bs.getD 6 0 = x6 at a6 hN
      generalize bs.getD 7 0 = x7 at a7 hN
      replace hB := Lib.hid hB
      clear o7 h2
      by_cases h6 : x6 = 0
      · by_cases h7 : x7 = 0
        · subst h6 h7
          clear r1 r2
          go_wp2
          go_ret
          exact ⟨rfl, hB.out⟩
        · have e7 : (x7 == 0) = false := beq_eq_false_iff_ne.mpr h7
          have e6 : (x6 == 0) = true := by rw [beq_iff_eq]; exact h6
          rw [hback.out (fun q => h7 (hN.out.1 q).2)] at r1
          clear h6 h7 hN
          go_wp2
          go_ret
          exact ⟨rfl, hB.out⟩
      · have e6 : (x6 == 0) = false := beq_eq_false_iff_ne.mpr h6
        rw [hback.out (fun q => h6 (hN.out.1 q).1)] at r1
        clear h6 hN
        go_wp2
        go_ret
        exact ⟨rfl, hB.out⟩
    · rw [if_neg hF] at ex5 ey5 ez5
      subst ex5 ey5 ez5
      have e5 : (dgErr bs (bytesOf s) (bytesOf d) != 0) = true := bne_iff_ne.mpr hF
      generalize dgErr bs (bytesOf s) (bytesOf d) = F at e5 ⊢
      clear hF hb2 hl2 h2
      go_wp2_with fail
      generalize w5.alloc (.cells #[.int .i64 0, .int .i64 0, .slice A5 n5 c5] 24) = w5' at D5 t5 hB ⊢
      refine (awake05 _).mono ?_
      rintro e w6 ⟨rfl, hB6⟩
      replace D5 := D5.below hB6
      replace t5 := t5.below hB6
      replace hB := below_step2 hB hB6
      clear hB6
      have c0 := D5.c0
      have c1 := D5.c1
      have c2 := D5.c2
      go_wp2_with fail
      refine (ref05_Same _ _ _ _ _ _ _ _ _ _ _ _ _ t5 (Bts.nil_ none 0 _ (by omega))).mono ?_
      rintro e w7 ⟨rfl, hB7⟩
      rw [decide_eq_true (⟨rfl, rfl, rfl⟩ : (0 : Int) = 0 ∧ (0 : Int) = 0 ∧ ([] : List Int) = [])]
      replace hB := below_step2 hB hB7
      clear hB7 c0 c1 c2 D5 t5
      go_wp2
      go_ret
      exact ⟨rfl, hB⟩
end Go.Proofs.Ytbmlbomildfmcaa

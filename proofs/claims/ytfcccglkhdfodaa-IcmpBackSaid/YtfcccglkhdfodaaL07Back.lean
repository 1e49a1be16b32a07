/- IcmpBack holds: what is laid down is read as itself; what is made is of its kind, laid down and read, too. Conditions: none beside the row's own reach. -/
import Derived.Test.YtfcccglkhdfodaaFew07
namespace Go.Proofs.Ytfcccglkhdfodaa
open Go.RowKit Go.Proofs.YtfcccglkhdfodaaW.PrintWords

/-- What is made of a kind and laid down is read as it was. -/
theorem made_back {k r : Int} {wide : Bool} {xs s d : List Int} {t c q : Int} {zs : List Int} {n : Nat} (hb : Byt zs) (hs : Byt s) (hd : Byt d) (hn : zs.length = n)
    (hM : icMakeErr k r = 0) (ht : t = if icMakeErr k r = 0 then icType k wide else 0) (hc : c = if icMakeErr k r = 0 then icCode k wide else 0) (hq : q = if icMakeErr k r = 0 then r else 0) (hz : zs = if icMakeErr k r = 0 then xs else [])
    (hL : icLayErr t c q n s.length d.length = 0) :
    icErr (icBytes t c q zs s d) s d = 0 ∧ icKind ((icBytes t c q zs s d).getD 0 0) ((icBytes t c q zs s d).getD 1 0) wide = k ∧ icRest (icBytes t c q zs s d) = r ∧ (icBytes t c q zs s d).drop 8 = xs := by
  obtain ⟨h1, h2, h3, h4⟩ := icMakeErr_zero.1 hM
  obtain ⟨q1, q2, q3⟩ := icLayErr_zero.1 hL
  obtain ⟨g0, g1, g2, g3⟩ := icBytes_get t c q zs s d
  rw [g0, g1, g2, g3]
  refine ⟨icBytes_err t c q zs s d q1 hb hs hd (by omega) q2, ?_, ?_, ?_⟩
  · rw [ht, hc, if_pos hM, if_pos hM]; exact icMake_kind k wide h1 h2
  · rw [hq, if_pos hM]
  · rw [hz, if_pos hM]
theorem icType_i64 {k r t : Int} {wide : Bool} (h : t = if icMakeErr k r = 0 then icType k wide else 0) : I64 t := by
  subst h
  unfold I64
  split
  · next q =>
    have := icMake_ok k r wide (icMakeErr_zero.1 q).1 (icMakeErr_zero.1 q).2.1 (icMakeErr_zero.1 q).2.2.1 (icMakeErr_zero.1 q).2.2.2
    unfold icOk at this
    omega
  · omega
theorem icCode_i64 {k r t : Int} {wide : Bool} (h : t = if icMakeErr k r = 0 then icCode k wide else 0) : I64 t := by
  subst h
  unfold I64
  split
  · next q =>
    have := icMake_ok k r wide (icMakeErr_zero.1 q).1 (icMakeErr_zero.1 q).2.1 (icMakeErr_zero.1 q).2.2.1 (icMakeErr_zero.1 q).2.2.2
    unfold icOk at this
    omega
  · omega
theorem icRest_i64 {k r t : Int} (hr : I64 r) (h : t = if icMakeErr k r = 0 then r else 0) : I64 t := by
  subst h
  unfold I64 at *
  split <;> omega


set_option maxHeartbeats 4000000 in
theorem IcmpBack_any (t o r : Int) (A : Option Addr) (n c : Nat) (xs : List Int) (s d : ByteArray) (k : Int) (w : World) (ht : I64 t) (ho : I64 o) (hr : I64 r) (h : Bts w A n c xs) (hs : s.size ≤ 140737488351232) (hd : d.size ≤ 140737488351232) (_hk : I64 k) :
    Calls Try.prog 6 #[.agg #[.int .i64 t, .int .i64 o, .int .i64 r, .slice A n c], .string s, .string d, .int .i64 k] w fun e w' => e = .returned (.bool true) ∧ Below w.heap.size w w' := by
  have hm := h.max
  have hl := h.len
  go_enter Try.func6, Try.ntmps6
  go_wp2_with fail
  refine (law07_few t o r A n c s d _ hs hd hm).mono ?_
  rintro e w1 ⟨rfl, hB1⟩
  have U := (Mg.new w t o r A n c).below hB1
  have hB := below_step2 (w := w) (below_alloc (Below.refl _ _) _) hB1
  replace h := h.below hB
  clear hB1
  by_cases hf : fewOk s.size d.size n
  case neg =>
    rw [decide_eq_false hf]
    go_wp2
    go_ret
    exact ⟨rfl, hB⟩
  rw [decide_eq_true hf]
  have hn : n ≤ 70000 := by unfold fewOk at hf; omega
  have c0 := U.c0
  have c1 := U.c1
  have c2 := U.c2
  have c3 := U.c3
  clear hf
  go_wp2_with fail
  refine (icmp_Bytes t o r A n c xs s d w1 ht ho hr hs hd h).mono ?_
  rintro e w2 ⟨A2, n2, k2, rfl, o2, hB2⟩
  replace U := U.below hB2
  replace h := h.below hB2
  replace hB := below_step2 hB hB2
  clear hB2 c0 c1 c2 c3
  by_cases hE : icLayErr t o r n s.size d.size = 0
  · obtain ⟨hz, hp, hn8⟩ := icLayErr_zero.1 hE
    rw [hE] at o2 ⊢
    rw [if_pos rfl] at o2
    have hp' : pairOk (bytesOf s).length (bytesOf d).length := by rw [bytesOf_length, bytesOf_length]; exact hp
    have hE1 := Lib.hid (icBytes_err t o r xs (bytesOf s) (bytesOf d) hz h.byt (byt_bytesOf s) (byt_bytesOf d) (by omega) hp')
    have hg' := Lib.hid (icBytes_get t o r xs (bytesOf s) (bytesOf d))
    have t2 := o2.sl
    have hn2 : Hid (n2 = 8 + n) := Lib.hid (by have := t2.len; rw [icBytes_length] at this; omega)
    clear o2 hz hp hp'
    generalize icBytes t o r xs (bytesOf s) (bytesOf d) = bs at t2 hE1 hg'
    go_wp2_with fail
    refine (icmp_Parse A2 n2 k2 bs s d w2 hs hd t2).mono ?_
    intro e w3 hp
    obtain ⟨x3, y3, q3, A3, n3, c3, z3, rfl, t3, hB3, ex, ey, eq, ez⟩ := hp.view
    clear hp t2
    rw [if_pos hE1.out] at ex ey eq ez
    rw [hg'.out.1] at ex
    rw [hg'.out.2.1] at ey
    rw [hg'.out.2.2.1] at eq
    rw [hg'.out.2.2.2] at ez
    rw [ex, ey, eq, hE1.out]
    rw [ez] at t3
    clear ex ey eq ez hE1 hg'
    have D3 := Mg.new w3 t o r A3 n3 c3
    replace hB3 := hB3.alloc hB3.size (.cells #[.int .i64 t, .int .i64 o, .int .i64 r, .slice A3 n3 c3] 24)
    replace t3 := t3.alloc (.cells #[.int .i64 t, .int .i64 o, .int .i64 r, .slice A3 n3 c3] 24)
    replace U := U.below hB3
    replace h := h.below hB3
    replace hB := below_step2 hB hB3
    clear hB3
    have c0 := U.c0
    have c1 := U.c1
    have c2 := U.c2
    have c3 := U.c3
    have b0 := D3.c0
    have b1 := D3.c1
    have b2 := D3.c2
    have b3 := D3.c3
    go_wp2_with fail
    generalize w3.alloc (.cells #[.int .i64 t, .int .i64 o, .int .i64 r, .slice A3 n3 _] 24) = w3' at U h hB D3 t3 c0 c1 c2 c3 b0 b1 b2 b3 ⊢
    refine (ref07_Same _ _ _ _ _ _ _ _ _ _ _ _ _ _ _ h t3).mono ?_
    rintro e w4 ⟨rfl, hB4⟩
    rw [decide_eq_true (⟨rfl, rfl, rfl, rfl⟩ : t = t ∧ o = o ∧ r = r ∧ xs = xs)]
    replace U := U.below hB4
    replace h := h.below hB4
    replace hB := below_step2 hB hB4
    clear hB4 c0 c1 c2 c3 b0 b1 b2 b3 D3 t3
    have c3 := U.c3
    have w8 : IntKind.i64.wrap (8 + (n : Int)) = 8 + (n : Int) := IntWalk.i64_in _ (by omega)
    have e8 : ((n2 : Int) != 8 + (n : Int)) = false := by rw [hn2.out]; simp
    clear hl hm hn hn8 hn2 hE ht ho
    have c2 := U.c2
    have c3 := U.c3
    go_wp2_with fail
    generalize ((s.size : Int) == 16) = wide
    refine (icmp_Make k r wide A n c xs w4 hr h).mono ?_
    intro e w5 hp
    obtain ⟨x5, y5, q5, A5, n5, c5, z5, rfl, t5, hB5, ex, ey, eq, ez⟩ := hp.view
    clear hp c2 c3
    have D5 := Mg.new w5 x5 y5 q5 A5 n5 c5
    replace hB5 := hB5.alloc hB5.size (.cells #[.int .i64 x5, .int .i64 y5, .int .i64 q5, .slice A5 n5 c5] 24)
    replace t5 := t5.alloc (.cells #[.int .i64 x5, .int .i64 y5, .int .i64 q5, .slice A5 n5 c5] 24)
    replace U := U.below hB5
    replace h := h.below hB5
    replace hB := below_step2 hB hB5
    clear hB5
    have hx5 := icType_i64 ex
    have hy5 := icCode_i64 ey
    have hq5 := icRest_i64 hr eq
    have hbk := fun (h1 : icMakeErr k r = 0) (h2 : icLayErr x5 y5 q5 n5 (bytesOf s).length (bytesOf d).length = 0) => made_back (s := bytesOf s) (d := bytesOf d) t5.byt (byt_bytesOf s) (byt_bytesOf d) t5.len h1 ex ey eq ez h2
    clear ex ey eq ez
    rw [bytesOf_length, bytesOf_length] at hbk
    replace hbk := Lib.hid hbk
    have c0 := D5.c0
    have c1 := D5.c1
    have c2 := D5.c2
    have c3 := D5.c3
    go_wp2_with fail
    generalize w5.alloc (.cells #[.int .i64 x5, .int .i64 y5, .int .i64 q5, .slice A5 n5 c5] 24) = w6 at D5 t5 U h hB c0 c1 c2 c3 ⊢
    refine (icmp_Bytes x5 y5 q5 A5 n5 c5 _ s d w6 hx5 hy5 hq5 hs hd t5).mono ?_
    rintro e w7 ⟨A7, n7, k7, rfl, o7, hB7⟩
    replace U := U.below hB7
    replace h := h.below hB7
    replace hB := below_step2 hB hB7
    clear hB7 c0 c1 c2 c3 D5 t5 hx5 hy5 hq5
    generalize icMakeErr k r = E at hbk ⊢
    generalize icLayErr x5 y5 q5 n5 s.size d.size = F at o7 hbk ⊢
    by_cases hE : E = 0
    case neg =>
      have e1 : (E != 0) = true := bne_iff_ne.mpr hE
      clear o7 hbk hE U h
      go_wp2_with fail
      refine (awake07 _).mono ?_
      rintro e w8 ⟨rfl, hB8⟩
      replace hB := below_step2 hB hB8
      clear hB8
      go_wp2
      go_ret
      exact ⟨rfl, hB⟩
    by_cases hF : F = 0
    case neg =>
      subst hE
      have e1 : (F != 0) = true := bne_iff_ne.mpr hF
      clear o7 hbk hF U h
      go_wp2_with fail
      refine (awake07 _).mono ?_
      rintro e w8 ⟨rfl, hB8⟩
      replace hB := below_step2 hB hB8
      clear hB8
      go_wp2
      go_ret
      exact ⟨rfl, hB⟩
    subst hE hF
    rw [if_pos rfl] at o7
    have hb := Lib.hid (hbk.out rfl rfl)
    clear hbk
    have t7 := o7.sl
    clear o7
    generalize icBytes x5 y5 q5 z5 (bytesOf s) (bytesOf d) = bs at t7 hb
    go_wp2_with fail
    refine (icmp_Parse A7 n7 k7 bs s d w7 hs hd t7).mono ?_
    intro e w8 hp
    obtain ⟨x8, y8, q8, A8, n8, c8, z8, rfl, t8, hB8, ex, ey, eq, ez⟩ := hp.view
    clear hp t7
    rw [if_pos hb.out.1] at ex ey eq ez
    rw [hb.out.2.2.1] at eq
    rw [hb.out.2.2.2] at ez
    have hkd := hb.out.2.1
    rw [← ex, ← ey] at hkd
    rw [hb.out.1]
    rw [ez] at t8
    rw [eq]
    clear ex ey eq ez hb
    replace hkd := Lib.hid hkd
    have D8 := Mg.new w8 x8 y8 r A8 n8 c8
    replace hB8 := hB8.alloc hB8.size (.cells #[.int .i64 x8, .int .i64 y8, .int .i64 r, .slice A8 n8 c8] 24)
    replace t8 := t8.alloc (.cells #[.int .i64 x8, .int .i64 y8, .int .i64 r, .slice A8 n8 c8] 24)
    replace U := U.below hB8
    replace h := h.below hB8
    replace hB := below_step2 hB hB8
    clear hB8
    go_wp2_with fail
    generalize w8.alloc (.cells #[.int .i64 x8, .int .i64 y8, .int .i64 r, .slice A8 n8 c8] 24) = w9 at D8 t8 U h hB ⊢
    refine (awake07 _).mono ?_
    rintro e w10 ⟨rfl, hB10⟩
    replace D8 := D8.below hB10
    replace t8 := t8.below hB10
    replace U := U.below hB10
    replace h := h.below hB10
    replace hB := below_step2 hB hB10
    clear hB10
    have c0 := D8.c0
    have c1 := D8.c1
    have c2 := D8.c2
    have c3 := D8.c3
    go_wp2_with fail
    refine (icmp_Kind x8 y8 r A8 n8 c8 wide w10).mono ?_
    rintro e w11 ⟨rfl, hB11⟩
    rw [hkd.out]
    replace D8 := D8.below hB11
    replace t8 := t8.below hB11
    replace U := U.below hB11
    replace h := h.below hB11
    replace hB := below_step2 hB hB11
    clear hB11 c0 c1 c2 c3 hkd
    have c2 := D8.c2
    have c3 := D8.c3
    have c2' := U.c2
    have c3' := U.c3
    have r1 := t8.run_string (P := Try.prog) 22 9 Try.underlying22 Try.underlying5 Try.underlying9
    have r2 := h.run_string (P := Try.prog) 22 9 Try.underlying22 Try.underlying5 Try.underlying9
    clear D8 U h t8
    go_wp2
    go_ret
    exact ⟨rfl, hB⟩
  · have e0 : (icLayErr t o r n s.size d.size == 0) = false := beq_eq_false_iff_ne.mpr hE
    generalize icLayErr t o r n s.size d.size = E at e0 o2 ⊢
    clear hE o2 hl hm hn ht ho
    have c2 := U.c2
    have c3 := U.c3
    go_wp2_with fail
    generalize ((s.size : Int) == 16) = wide
    refine (icmp_Make k r wide A n c xs w2 hr h).mono ?_
    intro e w5 hp
    obtain ⟨x5, y5, q5, A5, n5, c5, z5, rfl, t5, hB5, ex, ey, eq, ez⟩ := hp.view
    clear hp c2 c3
    have D5 := Mg.new w5 x5 y5 q5 A5 n5 c5
    replace hB5 := hB5.alloc hB5.size (.cells #[.int .i64 x5, .int .i64 y5, .int .i64 q5, .slice A5 n5 c5] 24)
    replace t5 := t5.alloc (.cells #[.int .i64 x5, .int .i64 y5, .int .i64 q5, .slice A5 n5 c5] 24)
    replace U := U.below hB5
    replace h := h.below hB5
    replace hB := below_step2 hB hB5
    clear hB5
    have hx5 := icType_i64 ex
    have hy5 := icCode_i64 ey
    have hq5 := icRest_i64 hr eq
    have hbk := fun (h1 : icMakeErr k r = 0) (h2 : icLayErr x5 y5 q5 n5 (bytesOf s).length (bytesOf d).length = 0) => made_back (s := bytesOf s) (d := bytesOf d) t5.byt (byt_bytesOf s) (byt_bytesOf d) t5.len h1 ex ey eq ez h2
    clear ex ey eq ez
    rw [bytesOf_length, bytesOf_length] at hbk
    replace hbk := Lib.hid hbk
    have c0 := D5.c0
    have c1 := D5.c1
    have c2 := D5.c2
    have c3 := D5.c3
    go_wp2_with fail
    generalize w5.alloc (.cells #[.int .i64 x5, .int .i64 y5, .int .i64 q5, .slice A5 n5 c5] 24) = w6 at D5 t5 U h hB c0 c1 c2 c3 ⊢
    refine (icmp_Bytes x5 y5 q5 A5 n5 c5 _ s d w6 hx5 hy5 hq5 hs hd t5).mono ?_
    rintro e w7 ⟨A7, n7, k7, rfl, o7, hB7⟩
    replace U := U.below hB7
    replace h := h.below hB7
    replace hB := below_step2 hB hB7
    clear hB7 c0 c1 c2 c3 D5 t5 hx5 hy5 hq5
    generalize icMakeErr k r = E at hbk ⊢
    generalize icLayErr x5 y5 q5 n5 s.size d.size = F at o7 hbk ⊢
    by_cases hE : E = 0
    case neg =>
      have e1 : (E != 0) = true := bne_iff_ne.mpr hE
      clear o7 hbk hE U h
      go_wp2_with fail
      refine (awake07 _).mono ?_
      rintro e w8 ⟨rfl, hB8⟩
      replace hB := below_step2 hB hB8
      clear hB8
      go_wp2
      go_ret
      exact ⟨rfl, hB⟩
    by_cases hF : F = 0
    case neg =>
      subst hE
      have e1 : (F != 0) = true := bne_iff_ne.mpr hF
      clear o7 hbk hF U h
      go_wp2_with fail
      refine (awake07 _).mono ?_
      rintro e w8 ⟨rfl, hB8⟩
      replace hB := below_step2 hB hB8
      clear hB8
      go_wp2
      go_ret
      exact ⟨rfl, hB⟩
    subst hE hF
    rw [if_pos rfl] at o7
    have hb := Lib.hid (hbk.out rfl rfl)
    clear hbk
    have t7 := o7.sl
    clear o7
    generalize icBytes x5 y5 q5 z5 (bytesOf s) (bytesOf d) = bs at t7 hb
    go_wp2_with fail
    refine (icmp_Parse A7 n7 k7 bs s d w7 hs hd t7).mono ?_
    intro e w8 hp
    obtain ⟨x8, y8, q8, A8, n8, c8, z8, rfl, t8, hB8, ex, ey, eq, ez⟩ := hp.view
    clear hp t7
    rw [if_pos hb.out.1] at ex ey eq ez
    rw [hb.out.2.2.1] at eq
    rw [hb.out.2.2.2] at ez
    have hkd := hb.out.2.1
    rw [← ex, ← ey] at hkd
    rw [hb.out.1]
    rw [ez] at t8
    rw [eq]
    clear ex ey eq ez hb
    replace hkd := Lib.hid hkd
    have D8 := Mg.new w8 x8 y8 r A8 n8 c8
    replace hB8 := hB8.alloc hB8.size (.cells #[.int .i64 x8, .int .i64 y8, .int .i64 r, .slice A8 n8 c8] 24)
    replace t8 := t8.alloc (.cells #[.int .i64 x8, .int .i64 y8, .int .i64 r, .slice A8 n8 c8] 24)
    replace U := U.below hB8
    replace h := h.below hB8
    replace hB := below_step2 hB hB8
    clear hB8
    go_wp2_with fail
    generalize w8.alloc (.cells #[.int .i64 x8, .int .i64 y8, .int .i64 r, .slice A8 n8 c8] 24) = w9 at D8 t8 U h hB ⊢
    refine (awake07 _).mono ?_
    rintro e w10 ⟨rfl, hB10⟩
    replace D8 := D8.below hB10
    replace t8 := t8.below hB10
    replace U := U.below hB10
    replace h := h.below hB10
    replace hB := below_step2 hB hB10
    clear hB10
    have c0 := D8.c0
    have c1 := D8.c1
    have c2 := D8.c2
    have c3 := D8.c3
    go_wp2_with fail
    refine (icmp_Kind x8 y8 r A8 n8 c8 wide w10).mono ?_
    rintro e w11 ⟨rfl, hB11⟩
    rw [hkd.out]
    replace D8 := D8.below hB11
    replace t8 := t8.below hB11
    replace U := U.below hB11
    replace h := h.below hB11
    replace hB := below_step2 hB hB11
    clear hB11 c0 c1 c2 c3 hkd
    have c2 := D8.c2
    have c3 := D8.c3
    have c2' := U.c2
    have c3' := U.c3
    have r1 := t8.run_string (P := Try.prog) 22 9 Try.underlying22 Try.underlying5 Try.underlying9
    have r2 := h.run_string (P := Try.prog) 22 9 Try.underlying22 Try.underlying5 Try.underlying9
    clear D8 U h t8
    go_wp2
    go_ret
    exact ⟨rfl, hB⟩
end Go.Proofs.Ytfcccglkhdfodaa

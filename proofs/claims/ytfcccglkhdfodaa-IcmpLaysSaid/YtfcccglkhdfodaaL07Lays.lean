/- IcmpLays holds: a message has just these bytes, or is refused; it stays. Conditions: none beside the row's own reach. -/
import Derived.Test.YtfcccglkhdfodaaFew07
import Derived.Test.YtfcccglkhdfodaaCIcmpF
import Derived.Deep.RegionWith
namespace Go.Proofs.Ytfcccglkhdfodaa
open Go.RowKit Go.Proofs.YtfcccglkhdfodaaW.PrintWords

set_option maxHeartbeats 4000000 in
theorem IcmpLays_any (x y r : Int) (A : Option Addr) (n c : Nat) (xs : List Int) (s d : ByteArray) (w : World) (hx : I64 x) (hy : I64 y) (hr : I64 r) (h : Bts w A n c xs) (hs : s.size ≤ 140737488351232) (hd : d.size ≤ 140737488351232) :
    Calls Try.prog 3 #[.agg #[.int .i64 x, .int .i64 y, .int .i64 r, .slice A n c], .string s, .string d] w fun e w' => e = .returned (.bool true) ∧ Below w.heap.size w w' := by
  have hm := h.max
  have hl := h.len
  go_enter Try.func3, Try.ntmps3
  go_wp2_with fail
  refine (law07_few x y r A n c s d _ hs hd hm).mono ?_
  rintro e w1 ⟨rfl, hB1⟩
  have U := (Mg.new w x y r A n c).below hB1
  have hB := below_step2 (w := w) (below_alloc (Below.refl _ _) _) hB1
  have hlt := below_size_lt hB1
  have h1 := h.below hB
  clear hB1
  by_cases hf : fewOk s.size d.size n
  case neg =>
    rw [decide_eq_false hf]
    go_wp2
    go_ret
    exact ⟨rfl, hB⟩
  rw [decide_eq_true hf]
  have hn : n ≤ 70000 := by unfold fewOk at hf; omega
  have c0 := U.c0
  have c1 := U.c1
  have c2 := U.c2
  have c3 := U.c3
  clear hf
  have V := Mg.new w1 x y r A n c
  replace U := U.alloc (.cells #[.int .i64 x, .int .i64 y, .int .i64 r, .slice A n c] 24)
  replace h1 := h1.alloc (.cells #[.int .i64 x, .int .i64 y, .int .i64 r, .slice A n c] 24)
  replace hB := below_alloc hB (.cells #[.int .i64 x, .int .i64 y, .int .i64 r, .slice A n c] 24)
  have c3' := U.c3
  go_wp2_with fail
  refine (ref01_Both _ _ _ [xs] _ (Rws.one _ _ _ (by simp) h1) (by simp; omega)).mono ?_
  rintro e w2 ⟨v2, rfl, o2, hB2⟩
  clear h1 c0 c1 c2 c3 c3'
  simp only [List.flatten_cons, List.flatten_nil, List.append_nil] at o2
  replace hB2 := below_step2 (w := w1.alloc (.cells #[.int .i64 x, .int .i64 y, .int .i64 r, .slice A n c] 24)) (below_alloc (Below.refl _ _) _) hB2
  replace U := U.below hB2
  replace V := V.below hB2
  replace hB := below_step2 hB hB2
  clear hB2
  obtain ⟨A2, n2, k2, rfl, t2⟩ := o2.bts
  obtain rfl : n2 = n := by have := t2.len; omega
  clear t2
  have V2 := V.data A2 n2 k2
  have U2 := U.far (p := ⟨w1.heap.size, 3, none⟩) (by simp; omega) (.slice A2 n2 k2)
  have t2 := (o2.far (p := ⟨w1.heap.size, 3, none⟩) (by simp; omega) (.slice A2 n2 k2)).sl
  replace hB := below_set hB (p := ⟨w1.heap.size, 3, none⟩) (by simp; omega) (.slice A2 n2 k2)
  have f2 := V.f 3
  have a2 := V.c3
  have b0 := V2.c0
  have b1 := V2.c1
  have b2 := V2.c2
  have b3 := V2.c3
  clear o2 V U
  go_wp2_with fail
  generalize w2.setCell ⟨w1.heap.size, 3, none⟩ (.slice A2 n2 k2) = w3 at V2 U2 hB t2 b0 b1 b2 b3 ⊢
  clear f2 a2
  refine (icmp_Bytes x y r A2 n2 k2 xs s d w3 hx hy hr hs hd t2).mono ?_
  rintro e w4 ⟨A4, n4, k4, rfl, o4, hB4⟩
  replace U2 := U2.below hB4
  replace V2 := V2.below hB4
  replace t2 := t2.below hB4
  replace hB := below_step2 hB hB4
  clear hB4 b0 b1 b2 b3
  have c0 := U2.c0
  have c1 := U2.c1
  have c2 := U2.c2
  have c3 := U2.c3
  generalize hE : icLayErr x y r n2 s.size d.size = E at o4 ⊢
  go_wp2_with fail
  refine (ref07_Check x y r A n2 c s d w4 hm).mono ?_
  rintro e w5 ⟨rfl, hB5⟩
  rw [hE]
  replace U2 := U2.below hB5
  replace V2 := V2.below hB5
  replace t2 := t2.below hB5
  replace o4 := o4.below hB5
  replace hB := below_step2 hB hB5
  clear hB5 c0 c1 c2 c3
  have c0 := U2.c0
  have c1 := U2.c1
  have c2 := U2.c2
  have c3 := U2.c3
  have b0 := V2.c0
  have b1 := V2.c1
  have b2 := V2.c2
  have b3 := V2.c3
  have h5 := h.below hB
  replace hE := Lib.hid hE
  go_wp2_with fail
  refine (ref07_Same _ _ _ _ _ _ _ _ _ _ _ _ _ _ _ t2 h5).mono ?_
  rintro e w6 ⟨rfl, hB6⟩
  rw [decide_eq_true (⟨rfl, rfl, rfl, rfl⟩ : x = x ∧ y = y ∧ r = r ∧ xs = xs)]
  replace U2 := U2.below hB6
  replace o4 := o4.below hB6
  replace hB := below_step2 hB hB6
  clear hB6 c0 c1 c2 c3 b0 b1 b2 b3 h5 V2 t2
  by_cases h0 : E = 0
  · subst h0
    rw [if_pos rfl] at o4
    obtain ⟨hz, hp, hn8⟩ := icLayErr_zero.1 hE.out
    have UD := Lib.hid (U2.below (below_drew (Below.refl _ _)))
    have OD := Lib.hid (o4.below (below_drew (Below.refl _ _)))
    have BD := Lib.hid (below_drew hB)
    have H := Lib.hid h
    clear U2 o4 hB h hE
    go_wp2
    go_region_with
      (first
        | (go_at_call 14
           refine (ref07_Bytes x y r A n2 c xs s d _ hs hd (H.out.below B7.out) hz hp hn8).mono ?_
           rintro e w8 ⟨v8, rfl, o8, hB8⟩
           have U8 := Lib.hid (U7.out.below hB8)
           have B8 := Lib.hid (below_step2 B7.out hB8)
           have j8 := (O7.out.below hB8).sl.run_string (P := Try.prog) 22 9 Try.underlying22 Try.underlying5 Try.underlying9
           obtain ⟨A8, n8, c8, rfl, t8⟩ := o8.bts
           have k8 := t8.run_string (P := Try.prog) 22 9 Try.underlying22 Try.underlying5 Try.underlying9
           clear hB8 o8 t8)
        | (go_at_call 13
           refine (awake07 _).mono ?_
           rintro e w7 ⟨rfl, hB7⟩
           have U7 := Lib.hid (UD.out.below hB7)
           have O7 := Lib.hid (OD.out.below hB7)
           have B7 := Lib.hid (below_step2 BD.out hB7)
           have u0 := U7.out.c0
           have u1 := U7.out.c1
           have u2 := U7.out.c2
           have u3 := U7.out.c3
           have j7 := O7.out.sl.run_string (P := Try.prog) 22 9 Try.underlying22 Try.underlying5 Try.underlying9
           clear hB7))
    all_goals
      go_wp2
      go_ret
      exact ⟨rfl, B8.out⟩
  · have e0 : (E != 0) = true := bne_iff_ne.mpr h0
    rw [if_neg h0] at o4
    obtain rfl : n4 = 0 := by have := o4.sl.len; simpa using this.symm
    clear h0
    go_wp2_with fail
    refine (awake07 _).mono ?_
    rintro e w7 ⟨rfl, hB2⟩
    replace hB2 := below_step2 (w := w6) (by repeat (first | exact Below.refl _ _ | apply below_alloc | apply below_drew | apply pw_below_drewN)) hB2
    replace hB := below_step2 hB hB2
    clear hB2
    go_wp2
    go_ret
    exact ⟨rfl, hB⟩
end Go.Proofs.Ytfcccglkhdfodaa

/- UdpTurned holds: a datagram of which one byte is another one is refused, but for its ports and Data where the check says that there is none. Conditions: none beside the row's own reach. -/
import Derived.Test.YtbmlbomildfmcaaL05Parses
import Derived.Test.YtbmlbomildfmcaaCUdpG
namespace Go.Proofs.Ytbmlbomildfmcaa
open Go.RowKit Go.Proofs.YtbmlbomildfmcaaW.PrintWords


set_option maxHeartbeats 4000000 in
theorem UdpTurned_any (x y : Int) (A : Option Addr) (n c : Nat) (xs : List Int) (s d : ByteArray) (i q : Int) (w : World) (hx : I64 x) (hy : I64 y) (h : Bts w A n c xs) (hs : s.size ≤ 140737488351232) (hd : d.size ≤ 140737488351232) (hi : I64 i) (hq : 0 ≤ q ∧ q ≤ 255) :
    Calls Try.prog 6 #[.agg #[.int .i64 x, .int .i64 y, .slice A n c], .string s, .string d, .int .i64 i, .int .u8 q] w fun e w' => e = .returned (.bool true) ∧ Below w.heap.size w w' := by
  have hm := h.max
  have hl := h.len
  go_enter Try.func6, Try.ntmps6
  go_wp2_with fail
  refine (law05_few x y A n c s d _ hs hd hm).mono ?_
  rintro e w1 ⟨rfl, hB1⟩
  have U := (Dg.new w x y A n c).below hB1
  have hB := below_step2 (w := w) (below_alloc (Below.refl _ _) _) hB1
  replace h := h.below hB
  clear hB1
  by_cases hf : fewOk s.size d.size n
  case neg =>
    rw [decide_eq_false hf]
    go_wp2
    go_ret
    exact ⟨rfl, hB⟩
  rw [decide_eq_true hf]
  have hn : n ≤ 70000 := by unfold fewOk at hf; omega
  have c0 := U.c0
  have c1 := U.c1
  have c2 := U.c2
  clear hf
  have hbx := h.byt
  go_wp2_with fail
  refine (udp_Bytes x y A n c xs s d w1 hx hy hs hd h).mono ?_
  rintro e w2 ⟨A2, n2, k2, rfl, o2, hB2⟩
  have hB0 := hB.size
  replace hB := below_step2 hB hB2
  clear hB2 c0 c1 c2 U h
  by_cases hE : dgLayErr x y n s.size d.size = 0
  case neg =>
    have e0 : (dgLayErr x y n s.size d.size != 0) = true := bne_iff_ne.mpr hE
    generalize dgLayErr x y n s.size d.size = E at e0 o2 ⊢
    clear hE o2
    go_wp2_with fail
    refine (awake05 _).mono ?_
    rintro e w3 ⟨rfl, hB2⟩
    replace hB2 := below_step2 (w := w2) (by repeat (first | exact Below.refl _ _ | apply below_alloc | apply below_drew | apply pw_below_drewN)) hB2
    replace hB := below_step2 hB hB2
    clear hB2
    go_wp2
    go_ret
    exact ⟨rfl, hB⟩
  case pos =>
  obtain ⟨hz, hp, hn8⟩ := dgLayErr_zero.1 hE
  rw [hE] at o2 ⊢
  rw [if_pos rfl] at o2
  clear hE
  unfold I64 at hi
  by_cases h0 : i < 0
  · have d0 : decide (i < 0) = true := decide_eq_true h0
    clear o2
    go_wp2_with fail
    refine (awake05 _).mono ?_
    rintro e w3 ⟨rfl, hB2⟩
    replace hB2 := below_step2 (w := w2) (by repeat (first | exact Below.refl _ _ | apply below_alloc | apply below_drew | apply pw_below_drewN)) hB2
    replace hB := below_step2 hB hB2
    clear hB2
    go_wp2
    go_ret
    exact ⟨rfl, hB⟩
  have d0 : decide (i < 0) = false := decide_eq_false h0
  obtain ⟨k, rfl⟩ := Int.eq_ofNat_of_zero_le (show 0 ≤ i by omega)
  have hlB := o2.sl.len
  have hm2 := o2.max
  rw [dgBytes_length] at hlB
  by_cases h1 : n2 ≤ k
  · have d1 : decide ((n2 : Int) ≤ (k : Int)) = true := decide_eq_true (by omega)
    have d1' : decide (n2 ≤ k) = true := decide_eq_true h1
    clear o2 hlB
    go_wp2_with fail
    refine (awake05 _).mono ?_
    rintro e w3 ⟨rfl, hB2⟩
    replace hB2 := below_step2 (w := w2) (by repeat (first | exact Below.refl _ _ | apply below_alloc | apply below_drew | apply pw_below_drewN)) hB2
    replace hB := below_step2 hB hB2
    clear hB2
    go_wp2
    go_ret
    exact ⟨rfl, hB⟩
  have d1 : decide ((n2 : Int) ≤ (k : Int)) = false := decide_eq_false (by omega)
  have d1' : decide (n2 ≤ k) = false := decide_eq_false h1
  have g := dgBytes_get x y xs (bytesOf s) (bytesOf d)
  have hp' : pairOk (bytesOf s).length (bytesOf d).length := by rw [bytesOf_length, bytesOf_length]; exact hp
  have hE1 := dgBytes_err x y xs (bytesOf s) (bytesOf d) ⟨hz.1, hz.2.1⟩ ⟨hz.2.2.1, hz.2.2.2⟩ (by omega) hbx (byt_bytesOf s) (byt_bytesOf d) hp'
  have hN := dgBytes_some x y xs (bytesOf s) (bytesOf d)
  obtain ⟨gg, m, cc, e1, r⟩ := o2.row (by rw [dgBytes_length]; omega)
  injection e1 with e1 e2 e3
  subst e1 e2 e3
  clear o2 g
  have hb2 := r.byt
  have hl2 := r.len
  generalize dgBytes x y xs (bytesOf s) (bytesOf d) = bs at *
  have ck := r.cell k (by omega)
  have fk := r.free k (by omega)
  have ht := Lib.hid (dg_turned bs _ _ k q hb2 (byt_bytesOf s) (byt_bytesOf d) hE1 hN (by omega) hq)
  have r' := r.set k q hq
  have i0 : (0 : Int) ≤ (k : Int) := by omega
  have i1 : (k : Int) < (n2 : Int) := by omega
  by_cases hc : bs.getD k 0 = q
  · have e0 : (bs.getD k 0 == q) = true := by rw [beq_iff_eq]; exact hc
    generalize bs.getD k 0 = v at ck e0
    clear hc r r' ht fk hE1 hN
    go_wp2_with fail
    refine (awake05 _).mono ?_
    rintro e w3 ⟨rfl, hB2⟩
    replace hB2 := below_step2 (w := w2) (by repeat (first | exact Below.refl _ _ | apply below_alloc | apply below_drew | apply pw_below_drewN)) hB2
    replace hB := below_step2 hB hB2
    clear hB2
    go_wp2
    go_ret
    exact ⟨rfl, hB⟩
  have e0 : (bs.getD k 0 == q) = false := beq_eq_false_iff_ne.mpr hc
  have ht' := Lib.hid (ht.out hc)
  generalize bs.getD k 0 = v at ck e0
  clear ht hc
  have hgw : w.heap.size ≤ gg := Nat.le_trans hB0 r.base_
  replace hB := below_set hB (p := ⟨gg, k, none⟩) hgw (.int .u8 q)
  have a6 := r'.cell 6 (by omega)
  have a7 := r'.cell 7 (by omega)
  have i6 : (6 : Int) < (n2 : Int) := by omega
  have i7 : (7 : Int) < (n2 : Int) := by omega
  have t := r'.bts
  have hN2 : Hid (dgNone (bs.set k q) ↔ (bs.set k q).getD 6 0 = 0 ∧ (bs.set k q).getD 7 0 = 0) := Iff.rfl
  replace ht' := ht'.out
  clear hE1 hN hlB hz hb2 hl2 r' r
  generalize bs.set k q = zs at a6 a7 t hN2 ht'
  generalize zs.getD 6 0 = x6 at a6 hN2
  generalize zs.getD 7 0 = x7 at a7 hN2
  by_cases hno : x6 = 0 ∧ x7 = 0
  · obtain ⟨h6, h7⟩ := hno
    subst h6 h7
    clear hN2 ht'
    go_wp2_with fail
    refine (udp_Parse _ _ _ _ _ _ _ hs hd t).mono ?_
    intro e w5 hp5
    obtain ⟨x5, y5, A5, n5, c5, z5, rfl, t5, hB5, ex5, ey5, ez5⟩ := hp5.view
    clear hp5 t5 ex5 ey5 ez5
    replace hB5 := hB5.trans ((below_alloc (Below.refl _ _) (.cells #[.int .i64 x5, .int .i64 y5, .slice A5 n5 c5] 24)).mono hB5.size)
    replace hB := below_step2 hB hB5
    clear hB5 t ck fk a6 a7
    generalize dgErr zs (bytesOf s) (bytesOf d) = F
    go_wp2_with fail
    refine (awake05 _).mono ?_
    rintro e w6 ⟨rfl, hB2⟩
    replace hB2 := below_step2 (w := (w5.alloc (.cells #[.int .i64 x5, .int .i64 y5, .slice A5 n5 c5] 24))) (by repeat (first | exact Below.refl _ _ | apply below_alloc | apply below_drew | apply pw_below_drewN)) hB2
    replace hB := below_step2 hB hB2
    clear hB2
    by_cases hF : F = 0
    · subst hF
      go_wp2
      go_ret
      exact ⟨rfl, hB⟩
    · have e5 : (F != 0) = true := bne_iff_ne.mpr hF
      clear hF
      go_wp2
      go_ret
      exact ⟨rfl, hB⟩
  · have hF := ht'.resolve_right (fun z => hno (hN2.out.1 z))
    clear hN2 ht'
    by_cases h6 : x6 = 0
    · have e7 : (x7 == 0) = false := beq_eq_false_iff_ne.mpr (fun z => hno ⟨h6, z⟩)
      have e6 : (x6 == 0) = true := by rw [beq_iff_eq]; exact h6
      clear hno h6
      go_wp2_with fail
      refine (udp_Parse _ _ _ _ _ _ _ hs hd t).mono ?_
      intro e w5 hp5
      obtain ⟨x5, y5, A5, n5, c5, z5, rfl, t5, hB5, ex5, ey5, ez5⟩ := hp5.view
      clear hp5 t5 ex5 ey5 ez5
      replace hB5 := hB5.trans ((below_alloc (Below.refl _ _) (.cells #[.int .i64 x5, .int .i64 y5, .slice A5 n5 c5] 24)).mono hB5.size)
      replace hB := below_step2 hB hB5
      have e5 : (dgErr zs (bytesOf s) (bytesOf d) != 0) = true := bne_iff_ne.mpr hF
      clear hB5 t ck fk a6 a7 hF
      generalize dgErr zs (bytesOf s) (bytesOf d) = F at e5 ⊢
      go_wp2_with fail
      refine (awake05 _).mono ?_
      rintro e w6 ⟨rfl, hB2⟩
      replace hB2 := below_step2 (w := (w5.alloc (.cells #[.int .i64 x5, .int .i64 y5, .slice A5 n5 c5] 24))) (by repeat (first | exact Below.refl _ _ | apply below_alloc | apply below_drew | apply pw_below_drewN)) hB2
      replace hB := below_step2 hB hB2
      clear hB2
      go_wp2
      go_ret
      exact ⟨rfl, hB⟩
    · have e6 : (x6 == 0) = false := beq_eq_false_iff_ne.mpr h6
      clear hno h6
      go_wp2_with fail
      refine (udp_Parse _ _ _ _ _ _ _ hs hd t).mono ?_
      intro e w5 hp5
      obtain ⟨x5, y5, A5, n5, c5, z5, rfl, t5, hB5, ex5, ey5, ez5⟩ := hp5.view
      clear hp5 t5 ex5 ey5 ez5
      replace hB5 := hB5.trans ((below_alloc (Below.refl _ _) (.cells #[.int .i64 x5, .int .i64 y5, .slice A5 n5 c5] 24)).mono hB5.size)
      replace hB := below_step2 hB hB5
      have e5 : (dgErr zs (bytesOf s) (bytesOf d) != 0) = true := bne_iff_ne.mpr hF
      clear hB5 t ck fk a6 a7 hF
      generalize dgErr zs (bytesOf s) (bytesOf d) = F at e5 ⊢
      go_wp2_with fail
      refine (awake05 _).mono ?_
      rintro e w6 ⟨rfl, hB2⟩
      replace hB2 := below_step2 (w := (w5.alloc (.cells #[.int .i64 x5, .int .i64 y5, .slice A5 n5 c5] 24))) (by repeat (first | exact Below.refl _ _ | apply below_alloc | apply below_drew | apply pw_below_drewN)) hB2
      replace hB := below_step2 hB hB2
      clear hB2
      go_wp2
      go_ret
      exact ⟨rfl, hB⟩
end Go.Proofs.Ytbmlbomildfmcaa

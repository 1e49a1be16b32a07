/- IcmpParses holds: any bytes are read as the message that the document says, or refused. Conditions: none beside the row's own reach. -/
import Derived.Test.YtfcccglkhdfodaaAwake07
import Derived.Test.YtfcccglkhdfodaaCIcmpG
namespace Go.Proofs.Ytfcccglkhdfodaa
open Go.RowKit Go.Proofs.YtfcccglkhdfodaaW.PrintWords

set_option maxHeartbeats 4000000 in
theorem IcmpParses_any (A : Option Addr) (n c : Nat) (xs : List Int) (s d : ByteArray) (w : World) (h : Bts w A n c xs) (hs : s.size ≤ 140737488351232) (hd : d.size ≤ 140737488351232) :
    Calls Try.prog 4 #[.slice A n c, .string s, .string d] w fun e w' => e = .returned (.bool true) ∧ Below w.heap.size w w' := by
  by_cases q1 : 3000 < n
  · go_enter Try.func4, Try.ntmps4
    go_wp2
    go_ret
    exact ⟨rfl, Below.refl _ _⟩
  have d1 : decide ((3000 : Int) < (n : Int)) = false := decide_eq_false (by omega)
  by_cases q2 : 300 < s.size + d.size
  · have d2 : decide ((300 : Int) < (s.size : Int) + (d.size : Int)) = true := decide_eq_true (by omega)
    go_enter Try.func4, Try.ntmps4
    go_wp2
    go_ret
    exact ⟨rfl, Below.refl _ _⟩
  have d2 : decide ((300 : Int) < (s.size : Int) + (d.size : Int)) = false := decide_eq_false (by omega)
  have hl := h.len
  have hB := Below.refl w.heap.size w
  go_enter Try.func4, Try.ntmps4
  go_wp2_with fail
  refine (ref01_Both _ _ _ [xs] _ (Rws.one _ _ _ rfl h) (by simp; omega)).mono ?_
  rintro e w1 ⟨vw1, rfl, ok, hB2⟩
  obtain ⟨B, m, p, rfl, k⟩ := ok.bts
  replace ok := Lib.hid ok
  replace hB2 := below_step2 (w := w) (by repeat (first | exact Below.refl _ _ | apply below_alloc | apply below_drew | apply pw_below_drewN)) hB2
  replace h := h.below hB2
  replace hB := below_step2 hB hB2
  clear hB2
  simp only [List.flatten_cons, List.flatten_nil, List.append_nil] at k ok
  clear ok
  go_wp2_with fail
  refine (icmp_Parse _ _ _ _ _ _ _ hs hd k).mono ?_
  intro e w2 hp
  obtain ⟨x2, y2, r2, A2, n2, c2, z2, rfl, t2, hB2, ex2, ey2, er2, ez2⟩ := hp.view
  clear hp
  replace ex2 := Lib.hid ex2
  replace ey2 := Lib.hid ey2
  replace ez2 := Lib.hid ez2
  replace er2 := Lib.hid er2
  have U2 := (Mg.new w2 x2 y2 r2 A2 n2 c2)
  replace hB2 := hB2.trans ((below_alloc (Below.refl _ _) (.cells #[.int .i64 x2, .int .i64 y2, .int .i64 r2, .slice A2 n2 c2] 24)).mono hB2.size)
  replace k := k.below hB2
  replace h := h.below hB2
  replace t2 := t2.alloc (.cells #[.int .i64 x2, .int .i64 y2, .int .i64 r2, .slice A2 n2 c2] 24)
  replace hB := below_step2 hB hB2
  clear hB2
  go_wp2_with fail
  obtain ⟨g2, hg2⟩ : ∃ g, w2.heap.size = g := ⟨_, rfl⟩
  rw [hg2] at U2 ⊢
  generalize w2.alloc (.cells #[.int .i64 x2, .int .i64 y2, .int .i64 r2, .slice A2 n2 c2] 24) = w3 at U2 k h t2 hB ⊢
  clear hg2
  refine (ref07_Parse _ _ _ _ _ _ _ hs hd h).mono ?_
  intro e w4 hp
  obtain ⟨x4, y4, r4, A4, n4, c4, z4, rfl, t4, hB4, ex4, ey4, er4, ez4⟩ := hp.view
  clear hp
  replace ex4 := Lib.hid ex4
  replace ey4 := Lib.hid ey4
  replace ez4 := Lib.hid ez4
  replace er4 := Lib.hid er4
  have U4 := (Mg.new w4 x4 y4 r4 A4 n4 c4)
  replace hB4 := hB4.trans ((below_alloc (Below.refl _ _) (.cells #[.int .i64 x4, .int .i64 y4, .int .i64 r4, .slice A4 n4 c4] 24)).mono hB4.size)
  replace k := k.below hB4
  replace h := h.below hB4
  replace t2 := t2.below hB4
  replace U2 := U2.below hB4
  replace t4 := t4.alloc (.cells #[.int .i64 x4, .int .i64 y4, .int .i64 r4, .slice A4 n4 c4] 24)
  replace hB := below_step2 hB hB4
  clear hB4
  go_wp2_with fail
  obtain ⟨g4, hg4⟩ : ∃ g, w4.heap.size = g := ⟨_, rfl⟩
  rw [hg4] at U4 ⊢
  generalize w4.alloc (.cells #[.int .i64 x4, .int .i64 y4, .int .i64 r4, .slice A4 n4 c4] 24) = w5 at U2 U4 k h t2 t4 hB ⊢
  clear hg4
  obtain rfl : x4 = x2 := by rw [ex4.out, ex2.out]
  obtain rfl : y4 = y2 := by rw [ey4.out, ey2.out]
  obtain rfl : r4 = r2 := by rw [er4.out, er2.out]
  obtain rfl : z4 = z2 := by rw [ez4.out, ez2.out]
  clear ex2 ex4 ey2 ey4 er2 er4 ez2 ez4
  go_wp2_with fail
  refine (awake07 _).mono ?_
  rintro e w6 ⟨rfl, hB2⟩
  replace hB2 := below_step2 (w := w5) (by repeat (first | exact Below.refl _ _ | apply below_alloc | apply below_drew | apply pw_below_drewN)) hB2
  replace k := k.below hB2
  replace h := h.below hB2
  replace t2 := t2.below hB2
  replace t4 := t4.below hB2
  replace U2 := U2.below hB2
  replace U4 := U4.below hB2
  replace hB := below_step2 hB hB2
  clear hB2
  have r1 := k.run_string (P := Try.prog) 22 9 Try.underlying22 Try.underlying5 Try.underlying9
  have r2 := h.run_string (P := Try.prog) 22 9 Try.underlying22 Try.underlying5 Try.underlying9
  have a0 := U2.c0
  have a1 := U2.c1
  have a2 := U2.c2
  have a3 := U2.c3
  have b0 := U4.c0
  have b1 := U4.c1
  have b2 := U4.c2
  have b3 := U4.c3
  go_wp2_with fail
  refine (ref07_Same _ _ _ _ _ _ _ _ _ _ _ _ _ _ _ t2 t4).mono ?_
  rintro e w7 ⟨rfl, hB7⟩
  rw [decide_eq_true (⟨rfl, rfl, rfl, rfl⟩ : x4 = x4 ∧ y4 = y4 ∧ r4 = r4 ∧ z4 = z4)]
  replace hB := below_step2 hB hB7
  clear hB7 a0 a1 a2 a3 b0 b1 b2 b3 r1 r2 k h t2 t4 U2 U4
  go_wp2
  go_ret
  exact ⟨rfl, hB⟩
end Go.Proofs.Ytfcccglkhdfodaa

/- SegParses holds: any bytes are read as the segment that the document says, or refused. Conditions: none beside the row's own reach. -/
import Derived.Test.YtljdkfgnoalgpaaAwake06
import Derived.Test.YtljdkfgnoalgpaaCSegR
namespace Go.Proofs.Ytljdkfgnoalgpaa
open Go.RowKit Go.Proofs.YtljdkfgnoalgpaaW.PrintWords

set_option maxHeartbeats 4000000 in
theorem SegParses_any (A : Option Addr) (n c : Nat) (xs : List Int) (s d : ByteArray) (w : World) (h : Bts w A n c xs) (hs : s.size ≤ 140737488351232) (hd : d.size ≤ 140737488351232) :
    Calls Try.prog 4 #[.slice A n c, .string s, .string d] w fun e w' => e = .returned (.bool true) ∧ Below w.heap.size w w' := by
  by_cases q1 : 3000 < n
  · go_enter Try.func4, Try.ntmps4
    go_wp2
    go_ret
    exact ⟨rfl, Below.refl _ _⟩
  have d1 : decide ((3000 : Int) < (n : Int)) = false := decide_eq_false (by omega)
  by_cases q2 : 300 < s.size + d.size
  · have d2 : decide ((300 : Int) < (s.size : Int) + (d.size : Int)) = true := decide_eq_true (by omega)
    go_enter Try.func4, Try.ntmps4
    go_wp2
    go_ret
    exact ⟨rfl, Below.refl _ _⟩
  have d2 : decide ((300 : Int) < (s.size : Int) + (d.size : Int)) = false := decide_eq_false (by omega)
  have hl := h.len
  have hB := Below.refl w.heap.size w
  go_enter Try.func4, Try.ntmps4
  go_wp2_with fail
  refine (ref01_Both _ _ _ [xs] _ (Rws.one _ _ _ rfl h) (by simp; omega)).mono ?_
  rintro e w1 ⟨vw1, rfl, ok, hB2⟩
  obtain ⟨B, m, p, rfl, k⟩ := ok.bts
  replace ok := Lib.hid ok
  replace hB2 := below_step2 (w := w) (by repeat (first | exact Below.refl _ _ | apply below_alloc | apply below_drew | apply pw_below_drewN)) hB2
  replace h := h.below hB2
  replace hB := below_step2 hB hB2
  clear hB2
  simp only [List.flatten_cons, List.flatten_nil, List.append_nil] at k ok
  clear ok
  go_wp2_with fail
  refine (seg_Parse _ _ _ _ _ _ _ hs hd k).mono ?_
  intro e w2 hp
  obtain ⟨S2, o2, A2, n2, c2, z2, rfl, t2, hB2, eS2, eo2, ez2⟩ := hp.view
  clear hp
  replace eS2 := Lib.hid eS2
  replace eo2 := Lib.hid eo2
  replace ez2 := Lib.hid ez2
  have U2 := Sb.new w2 S2 o2 A2 n2 c2
  replace hB2 := hB2.trans ((below_alloc (Below.refl _ _) (.cells #[.int .i64 S2.p, .int .i64 S2.q, .int .i64 S2.s, .int .i64 S2.a, .int .i64 S2.f, .int .i64 S2.w, .int .i64 S2.u, .string o2, .slice A2 n2 c2] 24)).mono hB2.size)
  replace k := k.below hB2
  replace h := h.below hB2
  replace t2 := t2.alloc (.cells #[.int .i64 S2.p, .int .i64 S2.q, .int .i64 S2.s, .int .i64 S2.a, .int .i64 S2.f, .int .i64 S2.w, .int .i64 S2.u, .string o2, .slice A2 n2 c2] 24)
  replace hB := below_step2 hB hB2
  clear hB2
  go_wp2_with fail
  obtain ⟨g2, hg2⟩ : ∃ g, w2.heap.size = g := ⟨_, rfl⟩
  rw [hg2] at U2 ⊢
  generalize w2.alloc (.cells #[.int .i64 S2.p, .int .i64 S2.q, .int .i64 S2.s, .int .i64 S2.a, .int .i64 S2.f, .int .i64 S2.w, .int .i64 S2.u, .string o2, .slice A2 n2 c2] 24) = w3 at U2 k h t2 hB ⊢
  clear hg2
  refine (ref06_Parse _ _ _ _ _ _ _ hs hd h).mono ?_
  intro e w4 hp
  obtain ⟨S4, o4, A4, n4, c4, z4, rfl, t4, hB4, eS4, eo4, ez4⟩ := hp.view
  clear hp
  obtain rfl : S4 = S2 := by rw [eS4, eS2.out]
  obtain rfl : o4 = o2 := by rw [eo4, eo2.out]
  obtain rfl : z4 = z2 := by rw [ez4, ez2.out]
  clear eS4 eo4 ez4 eS2 eo2 ez2
  have U4 := Sb.new w4 S4 o4 A4 n4 c4
  replace hB4 := hB4.trans ((below_alloc (Below.refl _ _) (.cells #[.int .i64 S4.p, .int .i64 S4.q, .int .i64 S4.s, .int .i64 S4.a, .int .i64 S4.f, .int .i64 S4.w, .int .i64 S4.u, .string o4, .slice A4 n4 c4] 24)).mono hB4.size)
  replace k := k.below hB4
  replace h := h.below hB4
  replace t2 := t2.below hB4
  replace U2 := U2.below hB4
  replace t4 := t4.alloc (.cells #[.int .i64 S4.p, .int .i64 S4.q, .int .i64 S4.s, .int .i64 S4.a, .int .i64 S4.f, .int .i64 S4.w, .int .i64 S4.u, .string o4, .slice A4 n4 c4] 24)
  replace hB := below_step2 hB hB4
  clear hB4
  go_wp2_with fail
  obtain ⟨g4, hg4⟩ : ∃ g, w4.heap.size = g := ⟨_, rfl⟩
  rw [hg4] at U4 ⊢
  generalize w4.alloc (.cells #[.int .i64 S4.p, .int .i64 S4.q, .int .i64 S4.s, .int .i64 S4.a, .int .i64 S4.f, .int .i64 S4.w, .int .i64 S4.u, .string o4, .slice A4 n4 c4] 24) = w5 at U2 U4 k h t2 t4 hB ⊢
  clear hg4
  refine (awake06 _).mono ?_
  rintro e w6 ⟨rfl, hB2⟩
  replace hB2 := below_step2 (w := w5) (by repeat (first | exact Below.refl _ _ | apply below_alloc | apply below_drew | apply pw_below_drewN)) hB2
  replace k := k.below hB2
  replace h := h.below hB2
  replace t2 := t2.below hB2
  replace t4 := t4.below hB2
  replace U2 := U2.below hB2
  replace U4 := U4.below hB2
  replace hB := below_step2 hB hB2
  clear hB2
  have r1 := k.run_string (P := Try.prog) 22 9 Try.underlying22 Try.underlying5 Try.underlying9
  have r2 := h.run_string (P := Try.prog) 22 9 Try.underlying22 Try.underlying5 Try.underlying9
  have a0 := U2.c0
  have a1 := U2.c1
  have a2 := U2.c2
  have a3 := U2.c3
  have a4 := U2.c4
  have a5 := U2.c5
  have a6 := U2.c6
  have a7 := U2.c7
  have a8 := U2.c8
  have b0 := U4.c0
  have b1 := U4.c1
  have b2 := U4.c2
  have b3 := U4.c3
  have b4 := U4.c4
  have b5 := U4.c5
  have b6 := U4.c6
  have b7 := U4.c7
  have b8 := U4.c8
  go_wp2_with fail
  refine (ref06_Same S4 o4 _ _ _ _ _ _ _ _ t2 t4).mono ?_
  rintro e w7 ⟨rfl, hB7⟩
  replace hB := below_step2 hB hB7
  clear hB7 a0 b0 a1 b1 a2 b2 a3 b3 a4 b4 a5 b5 a6 b6 a7 b7 a8 b8 r1 r2 k h t2 t4 U2 U4
  go_wp2
  go_ret
  exact ⟨rfl, hB⟩
end Go.Proofs.Ytljdkfgnoalgpaa

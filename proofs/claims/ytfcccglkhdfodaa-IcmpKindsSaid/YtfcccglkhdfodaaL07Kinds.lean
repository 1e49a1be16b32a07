/- IcmpKinds holds: a message is of just this kind; of a kind just this one is made, or it is refused. Conditions: none beside the row's own reach. -/
import Derived.Test.YtfcccglkhdfodaaIcmpK
import Derived.Deep.RegionHeld3
import Derived.Deep.RegionWith
namespace Go.Proofs.Ytfcccglkhdfodaa
open Go.RowKit Go.Proofs.YtfcccglkhdfodaaW.PrintWords

/-- Three messages in memory. -/
structure M3 (w : World) (g1 g2 g3 : Nat) (t o r x1 y1 r1 x2 y2 r2 : Int) (A1 : Option Addr) (n1 c1 : Nat) (A2 : Option Addr) (n2 c2 : Nat) (A3 : Option Addr) (n3 c3 : Nat) : Prop where
  a : Mg w g1 t o r A1 n1 c1
  b : Mg w g2 x1 y1 r1 A2 n2 c2
  c : Mg w g3 x2 y2 r2 A3 n3 c3
section
variable {w w1 : World} {g1 g2 g3 : Nat} {t o r x1 y1 r1 x2 y2 r2 : Int} {A1 A2 A3 : Option Addr} {n1 c1 n2 c2 n3 c3 : Nat}
theorem M3.below (h : M3 w g1 g2 g3 t o r x1 y1 r1 x2 y2 r2 A1 n1 c1 A2 n2 c2 A3 n3 c3) (hb : Below w.heap.size w w1) : M3 w1 g1 g2 g3 t o r x1 y1 r1 x2 y2 r2 A1 n1 c1 A2 n2 c2 A3 n3 c3 := ⟨h.a.below hb, h.b.below hb, h.c.below hb⟩
theorem M3.cs (h : M3 w g1 g2 g3 t o r x1 y1 r1 x2 y2 r2 A1 n1 c1 A2 n2 c2 A3 n3 c3) : w.cell? ⟨g1, 0, none⟩ = some (.int .i64 t) ∧ w.cell? ⟨g1, 1, none⟩ = some (.int .i64 o) ∧ w.cell? ⟨g1, 2, none⟩ = some (.int .i64 r) ∧ w.cell? ⟨g1, 3, none⟩ = some (.slice A1 n1 c1) ∧ w.cell? ⟨g2, 0, none⟩ = some (.int .i64 x1) ∧ w.cell? ⟨g2, 1, none⟩ = some (.int .i64 y1) ∧ w.cell? ⟨g2, 2, none⟩ = some (.int .i64 r1) ∧ w.cell? ⟨g2, 3, none⟩ = some (.slice A2 n2 c2) ∧ w.cell? ⟨g3, 0, none⟩ = some (.int .i64 x2) ∧ w.cell? ⟨g3, 1, none⟩ = some (.int .i64 y2) ∧ w.cell? ⟨g3, 2, none⟩ = some (.int .i64 r2) ∧ w.cell? ⟨g3, 3, none⟩ = some (.slice A3 n3 c3) :=
  ⟨h.a.c0, h.a.c1, h.a.c2, h.a.c3, h.b.c0, h.b.c1, h.b.c2, h.b.c3, h.c.c0, h.c.c1, h.c.c2, h.c.c3⟩
end

set_option maxHeartbeats 4000000 in
theorem IcmpKinds_any (t o r : Int) (A : Option Addr) (n c : Nat) (xs : List Int) (wide : Bool) (k rest : Int) (w : World) (_ht : I64 t) (_ho : I64 o) (_hr : I64 r) (h : Bts w A n c xs) (_hk : I64 k) (hq : I64 rest) :
    Calls Try.prog 5 #[.agg #[.int .i64 t, .int .i64 o, .int .i64 r, .slice A n c], .bool wide, .int .i64 k, .int .i64 rest] w fun e w' => e = .returned (.bool true) ∧ Below w.heap.size w w' := by
  have U := Mg.new w t o r A n c
  have hB := below_alloc (Below.refl w.heap.size w) (.cells #[.int .i64 t, .int .i64 o, .int .i64 r, .slice A n c] 24)
  replace h := h.below hB
  go_enter Try.func5, Try.ntmps5
  by_cases h0 : 2000 < n
  · have d0 : decide (2000 < (n : Int)) = true := decide_eq_true (by omega)
    replace hB := Lib.hid hB
    clear h0 U h
    go_wp2
    go_ret
    exact ⟨rfl, hB.out⟩
  have d0 : decide (2000 < (n : Int)) = false := decide_eq_false (by omega)
  go_wp2_with fail
  generalize w.alloc (.cells #[.int .i64 t, .int .i64 o, .int .i64 r, .slice A n c] 24) = w1 at h U hB ⊢
  refine (icmp_Make k rest wide A n c xs w1 hq h).mono ?_
  intro e w2 hp
  obtain ⟨x2, y2, r2, A2, n2, c2, z2, rfl, t2, hB2, ex2, ey2, er2, ez2⟩ := hp.view
  clear hp
  replace ex2 := Lib.hid ex2
  replace ey2 := Lib.hid ey2
  replace er2 := Lib.hid er2
  replace ez2 := Lib.hid ez2
  have U2 := (Mg.new w2 x2 y2 r2 A2 n2 c2)
  replace hB2 := hB2.alloc hB2.size (.cells #[.int .i64 x2, .int .i64 y2, .int .i64 r2, .slice A2 n2 c2] 24)
  replace h := h.below hB2
  replace U := U.below hB2
  replace t2 := t2.alloc (.cells #[.int .i64 x2, .int .i64 y2, .int .i64 r2, .slice A2 n2 c2] 24)
  replace hB := below_step2 hB hB2
  clear hB2
  have c3 := U.c3
  go_wp2_with fail
  obtain ⟨g2, hg2⟩ : ∃ g, w2.heap.size = g := ⟨_, rfl⟩
  rw [hg2] at U2 ⊢
  generalize w2.alloc (.cells #[.int .i64 x2, .int .i64 y2, .int .i64 r2, .slice A2 n2 c2] 24) = w3 at U U2 h t2 hB c3 ⊢
  clear hg2
  refine (ref07_Make k rest wide A n c xs w3 h (by omega)).mono ?_
  rintro e w4 ⟨x4, y4, r4, A4, n4, c4, z4, rfl, t4, hB4, ex4, ey4, er4, ez4⟩
  replace ex4 := Lib.hid ex4
  replace ey4 := Lib.hid ey4
  replace er4 := Lib.hid er4
  replace ez4 := Lib.hid ez4
  have U4 := (Mg.new w4 x4 y4 r4 A4 n4 c4)
  replace hB4 := hB4.alloc hB4.size (.cells #[.int .i64 x4, .int .i64 y4, .int .i64 r4, .slice A4 n4 c4] 24)
  replace h := h.below hB4
  replace t2 := t2.below hB4
  replace U := U.below hB4
  replace U2 := U2.below hB4
  replace t4 := t4.alloc (.cells #[.int .i64 x4, .int .i64 y4, .int .i64 r4, .slice A4 n4 c4] 24)
  replace hB := below_step2 hB hB4
  clear hB4 c3
  go_wp2_with fail
  obtain ⟨g4, hg4⟩ : ∃ g, w4.heap.size = g := ⟨_, rfl⟩
  rw [hg4] at U4 ⊢
  generalize w4.alloc (.cells #[.int .i64 x4, .int .i64 y4, .int .i64 r4, .slice A4 n4 c4] 24) = w5 at U U2 U4 h t2 t4 hB ⊢
  clear hg4
  obtain rfl : x4 = x2 := by rw [ex4.out, ex2.out]
  obtain rfl : y4 = y2 := by rw [ey4.out, ey2.out]
  obtain rfl : r4 = r2 := by rw [er4.out, er2.out]
  obtain rfl : z4 = z2 := by rw [ez4.out, ez2.out]
  clear ex2 ex4 ey2 ey4 ez2 ez4 er2 er4
  have MD := Lib.hid ((⟨U, U2, U4⟩ : M3 w5 w.heap.size g2 g4 t o r x4 y4 r4 x4 y4 r4 A n c A2 n2 c2 A4 n4 c4).below (below_drew (Below.refl _ _)))
  have HD := Lib.hid (h.below (below_drew (Below.refl _ _)))
  have TD := Lib.hid (t2.below (below_drew (Below.refl _ _)))
  have SD := Lib.hid (t4.below (below_drew (Below.refl _ _)))
  have BD := Lib.hid (below_drew hB)
  clear U U2 U4 h t2 t4 hB
  go_wp2
  go_region_held3 (fun w' => w'.cell? ⟨w.heap.size, 0, none⟩ = some (.int .i64 t) ∧ w'.cell? ⟨w.heap.size, 1, none⟩ = some (.int .i64 o) ∧ w'.cell? ⟨w.heap.size, 2, none⟩ = some (.int .i64 r) ∧ w'.cell? ⟨w.heap.size, 3, none⟩ = some (.slice A n c) ∧ w'.cell? ⟨g2, 0, none⟩ = some (.int .i64 x4) ∧ w'.cell? ⟨g2, 1, none⟩ = some (.int .i64 y4) ∧ w'.cell? ⟨g2, 2, none⟩ = some (.int .i64 r4) ∧ w'.cell? ⟨g2, 3, none⟩ = some (.slice A2 n2 c2) ∧ w'.cell? ⟨g4, 0, none⟩ = some (.int .i64 x4) ∧ w'.cell? ⟨g4, 1, none⟩ = some (.int .i64 y4) ∧ w'.cell? ⟨g4, 2, none⟩ = some (.int .i64 r4) ∧ w'.cell? ⟨g4, 3, none⟩ = some (.slice A4 n4 c4))
    ((refine M3.cs ?_; first | exact M11.out | exact M9.out | exact M8.out | exact M7.out | exact M6.out | exact MD.out))
    (first
      | (go_at_call 22
         refine (ref07_Error k _).mono ?_
         rintro e w11 ⟨rfl, hB11⟩
         have M11 := Lib.hid (M9.out.below hB11)
         have BE := Lib.hid (below_step2 B9.out hB11)
         clear hB11)
      | (go_at_call 21
         refine (icmp_Error k _).mono ?_
         rintro e w10 ⟨rfl, rfl⟩)
      | (go_at_call 12
         refine (ref07_Same _ _ _ _ _ _ _ _ _ _ _ _ _ _ _ T8.out S8.out).mono ?_
         rintro e w9 ⟨rfl, hB9⟩
         have M9 := Lib.hid (M8.out.below hB9)
         have B9 := Lib.hid (below_step2 B8.out hB9)
         clear hB9)
      | (go_at_call 20
         refine (ref07_Kind t o r A n c xs wide _ H7.out).mono ?_
         rintro e w8 ⟨rfl, hB8⟩
         have M8 := Lib.hid (M7.out.below hB8)
         have T8 := Lib.hid (T7.out.below hB8)
         have S8 := Lib.hid (S7.out.below hB8)
         have B8 := Lib.hid (below_step2 B7.out hB8)
         clear hB8)
      | (go_at_call 19
         refine (icmp_Kind t o r A n c wide _).mono ?_
         rintro e w7 ⟨rfl, hB7⟩
         have M7 := Lib.hid (M6.out.below hB7)
         have H7 := Lib.hid (H6.out.below hB7)
         have T7 := Lib.hid (T6.out.below hB7)
         have S7 := Lib.hid (S6.out.below hB7)
         have B7 := Lib.hid (below_step2 B6.out hB7)
         clear hB7)
      | (go_at_call 13
         refine (awake07 _).mono ?_
         rintro e w6 ⟨rfl, hB6⟩
         have M6 := Lib.hid (MD.out.below hB6)
         have H6 := Lib.hid (HD.out.below hB6)
         have T6 := Lib.hid (TD.out.below hB6)
         have S6 := Lib.hid (SD.out.below hB6)
         have B6 := Lib.hid (below_step2 BD.out hB6)
         clear hB6))
  all_goals
    go_wp2
    go_ret
    exact ⟨by simp, BE.out⟩
end Go.Proofs.Ytfcccglkhdfodaa

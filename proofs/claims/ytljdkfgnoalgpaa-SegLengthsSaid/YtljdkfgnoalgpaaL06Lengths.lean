/- SegLengths holds: a segment in two parts takes as many numbers as the parts do. Conditions: none beside the row's own reach. -/
import Derived.Test.YtljdkfgnoalgpaaAwake06
import Derived.Deep.RegionHeld3
import Derived.Deep.RegionWith
namespace Go.Proofs.Ytljdkfgnoalgpaa
open Go.RowKit Go.Proofs.YtljdkfgnoalgpaaW.PrintWords

/-- Three segments in memory, one behind the other. -/
structure Sb3 (w : World) (g1 g2 g3 : Nat) (S1 S2 S3 : Sg) (o : ByteArray) (A1 : Option Addr) (n1 k1 : Nat) (A2 : Option Addr) (n2 k2 : Nat) (A3 : Option Addr) (n3 k3 : Nat) : Prop where
  a : Sb w g1 S1 o A1 n1 k1
  b : Sb w g2 S2 o A2 n2 k2
  c : Sb w g3 S3 o A3 n3 k3
section
variable {w w1 : World} {g1 g2 g3 : Nat} {S1 S2 S3 : Sg} {o : ByteArray} {A1 A2 A3 : Option Addr} {n1 k1 n2 k2 n3 k3 : Nat}
theorem Sb3.below (h : Sb3 w g1 g2 g3 S1 S2 S3 o A1 n1 k1 A2 n2 k2 A3 n3 k3) (hb : Below w.heap.size w w1) : Sb3 w1 g1 g2 g3 S1 S2 S3 o A1 n1 k1 A2 n2 k2 A3 n3 k3 := ⟨h.a.below hb, h.b.below hb, h.c.below hb⟩
end
theorem Sb3.cs {w : World} {g1 g2 g3 : Nat} {x y z : Int} {A1 A2 A3 : Option Addr} {n1 k1 n2 k2 n3 k3 : Nat} (h : Sb3 w g1 g2 g3 ⟨0, 0, 0, 0, x, 0, 0⟩ ⟨0, 0, 0, 0, y, 0, 0⟩ ⟨0, 0, 0, 0, z, 0, 0⟩ ⟨#[]⟩ A1 n1 k1 A2 n2 k2 A3 n3 k3) : w.cell? ⟨g1, 0, none⟩ = some (.int .i64 0) ∧ w.cell? ⟨g1, 1, none⟩ = some (.int .i64 0) ∧ w.cell? ⟨g1, 2, none⟩ = some (.int .i64 0) ∧ w.cell? ⟨g1, 3, none⟩ = some (.int .i64 0) ∧ w.cell? ⟨g1, 4, none⟩ = some (.int .i64 x) ∧ w.cell? ⟨g1, 5, none⟩ = some (.int .i64 0) ∧ w.cell? ⟨g1, 6, none⟩ = some (.int .i64 0) ∧ w.cell? ⟨g1, 7, none⟩ = some (.string ⟨#[]⟩) ∧ w.cell? ⟨g1, 8, none⟩ = some (.slice A1 n1 k1) ∧ w.cell? ⟨g2, 0, none⟩ = some (.int .i64 0) ∧ w.cell? ⟨g2, 1, none⟩ = some (.int .i64 0) ∧ w.cell? ⟨g2, 2, none⟩ = some (.int .i64 0) ∧ w.cell? ⟨g2, 3, none⟩ = some (.int .i64 0) ∧ w.cell? ⟨g2, 4, none⟩ = some (.int .i64 y) ∧ w.cell? ⟨g2, 5, none⟩ = some (.int .i64 0) ∧ w.cell? ⟨g2, 6, none⟩ = some (.int .i64 0) ∧ w.cell? ⟨g2, 7, none⟩ = some (.string ⟨#[]⟩) ∧ w.cell? ⟨g2, 8, none⟩ = some (.slice A2 n2 k2) ∧ w.cell? ⟨g3, 0, none⟩ = some (.int .i64 0) ∧ w.cell? ⟨g3, 1, none⟩ = some (.int .i64 0) ∧ w.cell? ⟨g3, 2, none⟩ = some (.int .i64 0) ∧ w.cell? ⟨g3, 3, none⟩ = some (.int .i64 0) ∧ w.cell? ⟨g3, 4, none⟩ = some (.int .i64 z) ∧ w.cell? ⟨g3, 5, none⟩ = some (.int .i64 0) ∧ w.cell? ⟨g3, 6, none⟩ = some (.int .i64 0) ∧ w.cell? ⟨g3, 7, none⟩ = some (.string ⟨#[]⟩) ∧ w.cell? ⟨g3, 8, none⟩ = some (.slice A3 n3 k3) := by
  have a := h.a
  have b := h.b
  have c := h.c
  exact ⟨a.c0, a.c1, a.c2, a.c3, a.c4, a.c5, a.c6, a.c7, a.c8, b.c0, b.c1, b.c2, b.c3, b.c4, b.c5, b.c6, b.c7, b.c8, c.c0, c.c1, c.c2, c.c3, c.c4, c.c5, c.c6, c.c7, c.c8⟩
theorem len_at (S : Sg) (o : ByteArray) (A : Option Addr) (n c : Nat) (l : Int) (hl : lenS S.f n = l) (hn : n ≤ 140737488355328) (w : World) :
    Calls Try.prog 14 #[.agg #[.int .i64 S.p, .int .i64 S.q, .int .i64 S.s, .int .i64 S.a, .int .i64 S.f, .int .i64 S.w, .int .i64 S.u, .string o, .slice A n c]] w fun e w' => e = .returned (.int .i64 l) ∧ Below w.heap.size w w' := by
  subst hl
  exact seg_Length S o A n c w hn
theorem three_len {fx fy fz : Int} (a m : Nat) (ha : a + m ≤ 140737488355328) (h : fz / 2 % 2 = fx / 2 % 2 + fy / 2 % 2 ∧ fz % 2 = fx % 2 + fy % 2) (_h2 : 0 ≤ fx ∧ 0 ≤ fy) : IntKind.i64.wrap (lenS fx a + lenS fy m) = lenS fz (a + m) := by
  unfold lenS
  rw [IntWalk.i64_in _ (by omega)]
  omega


set_option maxHeartbeats 8000000 in
theorem SegLengths_any (A : Option Addr) (n c : Nat) (xs : List Int) (i : Int) (syn fin : Bool) (w : World) (h : Bts w A n c xs) (hi : I64 i) :
    Calls Try.prog 7 #[.slice A n c, .int .i64 i, .bool syn, .bool fin] w fun e w' => e = .returned (.bool true) ∧ Below w.heap.size w w' := by
  have hB := Below.refl w.heap.size w
  have hnc := h.le
  clear h
  go_enter Try.func7, Try.ntmps7
  by_cases h0 : 2000 < n ∨ i < 0 ∨ (n : Int) < i
  · by_cases d0 : 2000 < n
    · have e0 : decide (2000 < (n : Int)) = true := decide_eq_true (by omega)
      go_wp2_with fail
      refine (awake06 _).mono ?_
      rintro e w1 ⟨rfl, hB1⟩
      replace hB := below_step2 hB hB1
      clear hB1
      go_wp2
      go_ret
      exact ⟨rfl, hB⟩
    · have e0 : decide (2000 < (n : Int)) = false := decide_eq_false (by omega)
      by_cases d1 : i < 0
      · have e1 : decide (i < 0) = true := decide_eq_true d1
        go_wp2_with fail
        refine (awake06 _).mono ?_
        rintro e w1 ⟨rfl, hB1⟩
        replace hB := below_step2 hB hB1
        clear hB1
        go_wp2
        go_ret
        exact ⟨rfl, hB⟩
      · have e1 : decide (i < 0) = false := decide_eq_false d1
        have e2 : decide ((n : Int) < i) = true := decide_eq_true (by omega)
        go_wp2_with fail
        refine (awake06 _).mono ?_
        rintro e w1 ⟨rfl, hB1⟩
        replace hB := below_step2 hB hB1
        clear hB1
        go_wp2
        go_ret
        exact ⟨rfl, hB⟩
  obtain ⟨a, rfl⟩ : ∃ a : Nat, i = a := ⟨i.toNat, by omega⟩
  obtain ⟨m, rfl⟩ : ∃ m, n = a + m := ⟨n - a, by omega⟩
  have e0 : decide (2000 < (a : Int) + m) = false := decide_eq_false (by omega)
  have e1 : decide ((a : Int) < 0) = false := decide_eq_false (by omega)
  have e2 : decide (((a + m : Nat) : Int) < a) = false := decide_eq_false (by omega)
  -- MARK
  by_cases hca : c = a
  · cases syn <;> cases fin <;> go_wp2_with fail
    · generalize hw3 : World.alloc _ _ = w3
      have MD : Sb3 w3 w.heap.size (w.heap.size + 1) (w.heap.size + 1 + 1) ⟨0, 0, 0, 0, 0, 0, 0⟩ ⟨0, 0, 0, 0, 0, 0, 0⟩ ⟨0, 0, 0, 0, 16, 0, 0⟩ ⟨#[]⟩ A a a A m 0 A (a + m) a := by rw [← hw3]; exact ⟨((Sb.new w ⟨0, 0, 0, 0, 0, 0, 0⟩ ⟨#[]⟩ A a a).alloc (.cells #[.int .i64 0, .int .i64 0, .int .i64 0, .int .i64 0, .int .i64 0, .int .i64 0, .int .i64 0, .string ⟨#[]⟩, .slice A m 0] 24)).alloc (.cells #[.int .i64 0, .int .i64 0, .int .i64 0, .int .i64 0, .int .i64 16, .int .i64 0, .int .i64 0, .string ⟨#[]⟩, .slice A (a + m) a] 24), (Sb.at (w.alloc (.cells #[.int .i64 0, .int .i64 0, .int .i64 0, .int .i64 0, .int .i64 0, .int .i64 0, .int .i64 0, .string ⟨#[]⟩, .slice A a a] 24)) (w.heap.size + 1) ⟨0, 0, 0, 0, 0, 0, 0⟩ ⟨#[]⟩ A m 0 (by simp only [World.size_alloc])).alloc (.cells #[.int .i64 0, .int .i64 0, .int .i64 0, .int .i64 0, .int .i64 16, .int .i64 0, .int .i64 0, .string ⟨#[]⟩, .slice A (a + m) a] 24), Sb.at ((w.alloc (.cells #[.int .i64 0, .int .i64 0, .int .i64 0, .int .i64 0, .int .i64 0, .int .i64 0, .int .i64 0, .string ⟨#[]⟩, .slice A a a] 24)).alloc (.cells #[.int .i64 0, .int .i64 0, .int .i64 0, .int .i64 0, .int .i64 0, .int .i64 0, .int .i64 0, .string ⟨#[]⟩, .slice A m 0] 24)) (w.heap.size + 1 + 1) ⟨0, 0, 0, 0, 16, 0, 0⟩ ⟨#[]⟩ A (a + m) a (by simp only [World.size_alloc])⟩
      have BD : Below w.heap.size w w3 := by rw [← hw3]; exact below_alloc (below_alloc (below_alloc hB (.cells #[.int .i64 0, .int .i64 0, .int .i64 0, .int .i64 0, .int .i64 0, .int .i64 0, .int .i64 0, .string ⟨#[]⟩, .slice A a a] 24)) (.cells #[.int .i64 0, .int .i64 0, .int .i64 0, .int .i64 0, .int .i64 0, .int .i64 0, .int .i64 0, .string ⟨#[]⟩, .slice A m 0] 24)) (.cells #[.int .i64 0, .int .i64 0, .int .i64 0, .int .i64 0, .int .i64 16, .int .i64 0, .int .i64 0, .string ⟨#[]⟩, .slice A (a + m) a] 24)
      clear hw3
      generalize w.heap.size + 1 + 1 = g3 at MD ⊢
      generalize w.heap.size + 1 = g2 at MD ⊢
      generalize hg1 : w.heap.size = g1 at MD ⊢
      obtain ⟨lx, hlx⟩ : ∃ l, lenS 0 a = l := ⟨_, rfl⟩
      obtain ⟨ly, hly⟩ : ∃ l, lenS 0 m = l := ⟨_, rfl⟩
      obtain ⟨lz, hlz⟩ : ∃ l, lenS 16 (a + m) = l := ⟨_, rfl⟩
      have hw : IntKind.i64.wrap (lx + ly) = lz := by rw [← hlx, ← hly, ← hlz]; exact three_len a m (by omega) (by decide) (by decide)
      have N1 := Lib.hid (len_at ⟨0, 0, 0, 0, 0, 0, 0⟩ ⟨#[]⟩ A a a lx hlx (by omega))
      have N2 := Lib.hid (len_at ⟨0, 0, 0, 0, 0, 0, 0⟩ ⟨#[]⟩ A m 0 ly hly (by omega))
      have N3 := Lib.hid (len_at ⟨0, 0, 0, 0, 16, 0, 0⟩ ⟨#[]⟩ A (a + m) a lz hlz (by omega))
      have N4 := Lib.hid (len_at ⟨0, 0, 0, 0, 44, 0, 0⟩ ⟨#[]⟩ none 0 0 0 (by decide) (by omega))
      replace MD := Lib.hid (MD.below (below_drew (Below.refl _ _)))
      replace BD := Lib.hid (below_drew BD)
      clear hB hlx hly hlz h0 e0 e1 e2 hi hnc hca
      go_region_held3 (fun w' => w'.cell? ⟨g1, 0, none⟩ = some (.int .i64 0) ∧ w'.cell? ⟨g1, 1, none⟩ = some (.int .i64 0) ∧ w'.cell? ⟨g1, 2, none⟩ = some (.int .i64 0) ∧ w'.cell? ⟨g1, 3, none⟩ = some (.int .i64 0) ∧ w'.cell? ⟨g1, 4, none⟩ = some (.int .i64 0) ∧ w'.cell? ⟨g1, 5, none⟩ = some (.int .i64 0) ∧ w'.cell? ⟨g1, 6, none⟩ = some (.int .i64 0) ∧ w'.cell? ⟨g1, 7, none⟩ = some (.string ⟨#[]⟩) ∧ w'.cell? ⟨g1, 8, none⟩ = some (.slice A a a) ∧ w'.cell? ⟨g2, 0, none⟩ = some (.int .i64 0) ∧ w'.cell? ⟨g2, 1, none⟩ = some (.int .i64 0) ∧ w'.cell? ⟨g2, 2, none⟩ = some (.int .i64 0) ∧ w'.cell? ⟨g2, 3, none⟩ = some (.int .i64 0) ∧ w'.cell? ⟨g2, 4, none⟩ = some (.int .i64 0) ∧ w'.cell? ⟨g2, 5, none⟩ = some (.int .i64 0) ∧ w'.cell? ⟨g2, 6, none⟩ = some (.int .i64 0) ∧ w'.cell? ⟨g2, 7, none⟩ = some (.string ⟨#[]⟩) ∧ w'.cell? ⟨g2, 8, none⟩ = some (.slice A m 0) ∧ w'.cell? ⟨g3, 0, none⟩ = some (.int .i64 0) ∧ w'.cell? ⟨g3, 1, none⟩ = some (.int .i64 0) ∧ w'.cell? ⟨g3, 2, none⟩ = some (.int .i64 0) ∧ w'.cell? ⟨g3, 3, none⟩ = some (.int .i64 0) ∧ w'.cell? ⟨g3, 4, none⟩ = some (.int .i64 16) ∧ w'.cell? ⟨g3, 5, none⟩ = some (.int .i64 0) ∧ w'.cell? ⟨g3, 6, none⟩ = some (.int .i64 0) ∧ w'.cell? ⟨g3, 7, none⟩ = some (.string ⟨#[]⟩) ∧ w'.cell? ⟨g3, 8, none⟩ = some (.slice A (a + m) a))
        ((refine Sb3.cs ?_; first | with_reducible exact M9.out | with_reducible exact M8.out | with_reducible exact M7.out | with_reducible exact M6.out | with_reducible exact M5.out | exact MD.out))
        (first
          | (go_at_call 16
             refine (awake06 _).mono ?_
             rintro e w5 ⟨rfl, hB5⟩
             have M5 := Lib.hid (MD.out.below hB5)
             have B5 := Lib.hid (below_step2 BD.out hB5)
             clear hB5)
          | (go_at_call 14
             with_reducible refine (N4.out _).mono ?_
             rintro e w9 ⟨rfl, hB9⟩
             have M9 := Lib.hid (M8.out.below hB9)
             have B9 := Lib.hid (below_step2 B8.out hB9)
             clear hB9)
          | (go_at_call 14
             with_reducible refine (N2.out _).mono ?_
             rintro e w8 ⟨rfl, hB8⟩
             have M8 := Lib.hid (M7.out.below hB8)
             have B8 := Lib.hid (below_step2 B7.out hB8)
             clear hB8)
          | (go_at_call 14
             with_reducible refine (N1.out _).mono ?_
             rintro e w7 ⟨rfl, hB7⟩
             have M7 := Lib.hid (M6.out.below hB7)
             have B7 := Lib.hid (below_step2 B6.out hB7)
             clear hB7)
          | (go_at_call 14
             with_reducible refine (N3.out _).mono ?_
             rintro e w6 ⟨rfl, hB6⟩
             have M6 := Lib.hid (M5.out.below hB6)
             have B6 := Lib.hid (below_step2 B5.out hB6)
             clear hB6))
      all_goals
        go_wp2
        go_ret
        exact ⟨by simp [*], B9.out⟩
    · generalize hw3 : World.alloc _ _ = w3
      have MD : Sb3 w3 w.heap.size (w.heap.size + 1) (w.heap.size + 1 + 1) ⟨0, 0, 0, 0, 0, 0, 0⟩ ⟨0, 0, 0, 0, 1, 0, 0⟩ ⟨0, 0, 0, 0, 17, 0, 0⟩ ⟨#[]⟩ A a a A m 0 A (a + m) a := by rw [← hw3]; exact ⟨((Sb.new w ⟨0, 0, 0, 0, 0, 0, 0⟩ ⟨#[]⟩ A a a).alloc (.cells #[.int .i64 0, .int .i64 0, .int .i64 0, .int .i64 0, .int .i64 1, .int .i64 0, .int .i64 0, .string ⟨#[]⟩, .slice A m 0] 24)).alloc (.cells #[.int .i64 0, .int .i64 0, .int .i64 0, .int .i64 0, .int .i64 17, .int .i64 0, .int .i64 0, .string ⟨#[]⟩, .slice A (a + m) a] 24), (Sb.at (w.alloc (.cells #[.int .i64 0, .int .i64 0, .int .i64 0, .int .i64 0, .int .i64 0, .int .i64 0, .int .i64 0, .string ⟨#[]⟩, .slice A a a] 24)) (w.heap.size + 1) ⟨0, 0, 0, 0, 1, 0, 0⟩ ⟨#[]⟩ A m 0 (by simp only [World.size_alloc])).alloc (.cells #[.int .i64 0, .int .i64 0, .int .i64 0, .int .i64 0, .int .i64 17, .int .i64 0, .int .i64 0, .string ⟨#[]⟩, .slice A (a + m) a] 24), Sb.at ((w.alloc (.cells #[.int .i64 0, .int .i64 0, .int .i64 0, .int .i64 0, .int .i64 0, .int .i64 0, .int .i64 0, .string ⟨#[]⟩, .slice A a a] 24)).alloc (.cells #[.int .i64 0, .int .i64 0, .int .i64 0, .int .i64 0, .int .i64 1, .int .i64 0, .int .i64 0, .string ⟨#[]⟩, .slice A m 0] 24)) (w.heap.size + 1 + 1) ⟨0, 0, 0, 0, 17, 0, 0⟩ ⟨#[]⟩ A (a + m) a (by simp only [World.size_alloc])⟩
      have BD : Below w.heap.size w w3 := by rw [← hw3]; exact below_alloc (below_alloc (below_alloc hB (.cells #[.int .i64 0, .int .i64 0, .int .i64 0, .int .i64 0, .int .i64 0, .int .i64 0, .int .i64 0, .string ⟨#[]⟩, .slice A a a] 24)) (.cells #[.int .i64 0, .int .i64 0, .int .i64 0, .int .i64 0, .int .i64 1, .int .i64 0, .int .i64 0, .string ⟨#[]⟩, .slice A m 0] 24)) (.cells #[.int .i64 0, .int .i64 0, .int .i64 0, .int .i64 0, .int .i64 17, .int .i64 0, .int .i64 0, .string ⟨#[]⟩, .slice A (a + m) a] 24)
      clear hw3
      generalize w.heap.size + 1 + 1 = g3 at MD ⊢
      generalize w.heap.size + 1 = g2 at MD ⊢
      generalize hg1 : w.heap.size = g1 at MD ⊢
      obtain ⟨lx, hlx⟩ : ∃ l, lenS 0 a = l := ⟨_, rfl⟩
      obtain ⟨ly, hly⟩ : ∃ l, lenS 1 m = l := ⟨_, rfl⟩
      obtain ⟨lz, hlz⟩ : ∃ l, lenS 17 (a + m) = l := ⟨_, rfl⟩
      have hw : IntKind.i64.wrap (lx + ly) = lz := by rw [← hlx, ← hly, ← hlz]; exact three_len a m (by omega) (by decide) (by decide)
      have N1 := Lib.hid (len_at ⟨0, 0, 0, 0, 0, 0, 0⟩ ⟨#[]⟩ A a a lx hlx (by omega))
      have N2 := Lib.hid (len_at ⟨0, 0, 0, 0, 1, 0, 0⟩ ⟨#[]⟩ A m 0 ly hly (by omega))
      have N3 := Lib.hid (len_at ⟨0, 0, 0, 0, 17, 0, 0⟩ ⟨#[]⟩ A (a + m) a lz hlz (by omega))
      have N4 := Lib.hid (len_at ⟨0, 0, 0, 0, 44, 0, 0⟩ ⟨#[]⟩ none 0 0 0 (by decide) (by omega))
      replace MD := Lib.hid (MD.below (below_drew (Below.refl _ _)))
      replace BD := Lib.hid (below_drew BD)
      clear hB hlx hly hlz h0 e0 e1 e2 hi hnc hca
      go_region_held3 (fun w' => w'.cell? ⟨g1, 0, none⟩ = some (.int .i64 0) ∧ w'.cell? ⟨g1, 1, none⟩ = some (.int .i64 0) ∧ w'.cell? ⟨g1, 2, none⟩ = some (.int .i64 0) ∧ w'.cell? ⟨g1, 3, none⟩ = some (.int .i64 0) ∧ w'.cell? ⟨g1, 4, none⟩ = some (.int .i64 0) ∧ w'.cell? ⟨g1, 5, none⟩ = some (.int .i64 0) ∧ w'.cell? ⟨g1, 6, none⟩ = some (.int .i64 0) ∧ w'.cell? ⟨g1, 7, none⟩ = some (.string ⟨#[]⟩) ∧ w'.cell? ⟨g1, 8, none⟩ = some (.slice A a a) ∧ w'.cell? ⟨g2, 0, none⟩ = some (.int .i64 0) ∧ w'.cell? ⟨g2, 1, none⟩ = some (.int .i64 0) ∧ w'.cell? ⟨g2, 2, none⟩ = some (.int .i64 0) ∧ w'.cell? ⟨g2, 3, none⟩ = some (.int .i64 0) ∧ w'.cell? ⟨g2, 4, none⟩ = some (.int .i64 1) ∧ w'.cell? ⟨g2, 5, none⟩ = some (.int .i64 0) ∧ w'.cell? ⟨g2, 6, none⟩ = some (.int .i64 0) ∧ w'.cell? ⟨g2, 7, none⟩ = some (.string ⟨#[]⟩) ∧ w'.cell? ⟨g2, 8, none⟩ = some (.slice A m 0) ∧ w'.cell? ⟨g3, 0, none⟩ = some (.int .i64 0) ∧ w'.cell? ⟨g3, 1, none⟩ = some (.int .i64 0) ∧ w'.cell? ⟨g3, 2, none⟩ = some (.int .i64 0) ∧ w'.cell? ⟨g3, 3, none⟩ = some (.int .i64 0) ∧ w'.cell? ⟨g3, 4, none⟩ = some (.int .i64 17) ∧ w'.cell? ⟨g3, 5, none⟩ = some (.int .i64 0) ∧ w'.cell? ⟨g3, 6, none⟩ = some (.int .i64 0) ∧ w'.cell? ⟨g3, 7, none⟩ = some (.string ⟨#[]⟩) ∧ w'.cell? ⟨g3, 8, none⟩ = some (.slice A (a + m) a))
        ((refine Sb3.cs ?_; first | with_reducible exact M9.out | with_reducible exact M8.out | with_reducible exact M7.out | with_reducible exact M6.out | with_reducible exact M5.out | exact MD.out))
        (first
          | (go_at_call 16
             refine (awake06 _).mono ?_
             rintro e w5 ⟨rfl, hB5⟩
             have M5 := Lib.hid (MD.out.below hB5)
             have B5 := Lib.hid (below_step2 BD.out hB5)
             clear hB5)
          | (go_at_call 14
             with_reducible refine (N4.out _).mono ?_
             rintro e w9 ⟨rfl, hB9⟩
             have M9 := Lib.hid (M8.out.below hB9)
             have B9 := Lib.hid (below_step2 B8.out hB9)
             clear hB9)
          | (go_at_call 14
             with_reducible refine (N2.out _).mono ?_
             rintro e w8 ⟨rfl, hB8⟩
             have M8 := Lib.hid (M7.out.below hB8)
             have B8 := Lib.hid (below_step2 B7.out hB8)
             clear hB8)
          | (go_at_call 14
             with_reducible refine (N1.out _).mono ?_
             rintro e w7 ⟨rfl, hB7⟩
             have M7 := Lib.hid (M6.out.below hB7)
             have B7 := Lib.hid (below_step2 B6.out hB7)
             clear hB7)
          | (go_at_call 14
             with_reducible refine (N3.out _).mono ?_
             rintro e w6 ⟨rfl, hB6⟩
             have M6 := Lib.hid (M5.out.below hB6)
             have B6 := Lib.hid (below_step2 B5.out hB6)
             clear hB6))
      all_goals
        go_wp2
        go_ret
        exact ⟨by simp [*], B9.out⟩
    · generalize hw3 : World.alloc _ _ = w3
      have MD : Sb3 w3 w.heap.size (w.heap.size + 1) (w.heap.size + 1 + 1) ⟨0, 0, 0, 0, 2, 0, 0⟩ ⟨0, 0, 0, 0, 0, 0, 0⟩ ⟨0, 0, 0, 0, 18, 0, 0⟩ ⟨#[]⟩ A a a A m 0 A (a + m) a := by rw [← hw3]; exact ⟨((Sb.new w ⟨0, 0, 0, 0, 2, 0, 0⟩ ⟨#[]⟩ A a a).alloc (.cells #[.int .i64 0, .int .i64 0, .int .i64 0, .int .i64 0, .int .i64 0, .int .i64 0, .int .i64 0, .string ⟨#[]⟩, .slice A m 0] 24)).alloc (.cells #[.int .i64 0, .int .i64 0, .int .i64 0, .int .i64 0, .int .i64 18, .int .i64 0, .int .i64 0, .string ⟨#[]⟩, .slice A (a + m) a] 24), (Sb.at (w.alloc (.cells #[.int .i64 0, .int .i64 0, .int .i64 0, .int .i64 0, .int .i64 2, .int .i64 0, .int .i64 0, .string ⟨#[]⟩, .slice A a a] 24)) (w.heap.size + 1) ⟨0, 0, 0, 0, 0, 0, 0⟩ ⟨#[]⟩ A m 0 (by simp only [World.size_alloc])).alloc (.cells #[.int .i64 0, .int .i64 0, .int .i64 0, .int .i64 0, .int .i64 18, .int .i64 0, .int .i64 0, .string ⟨#[]⟩, .slice A (a + m) a] 24), Sb.at ((w.alloc (.cells #[.int .i64 0, .int .i64 0, .int .i64 0, .int .i64 0, .int .i64 2, .int .i64 0, .int .i64 0, .string ⟨#[]⟩, .slice A a a] 24)).alloc (.cells #[.int .i64 0, .int .i64 0, .int .i64 0, .int .i64 0, .int .i64 0, .int .i64 0, .int .i64 0, .string ⟨#[]⟩, .slice A m 0] 24)) (w.heap.size + 1 + 1) ⟨0, 0, 0, 0, 18, 0, 0⟩ ⟨#[]⟩ A (a + m) a (by simp only [World.size_alloc])⟩
      have BD : Below w.heap.size w w3 := by rw [← hw3]; exact below_alloc (below_alloc (below_alloc hB (.cells #[.int .i64 0, .int .i64 0, .int .i64 0, .int .i64 0, .int .i64 2, .int .i64 0, .int .i64 0, .string ⟨#[]⟩, .slice A a a] 24)) (.cells #[.int .i64 0, .int .i64 0, .int .i64 0, .int .i64 0, .int .i64 0, .int .i64 0, .int .i64 0, .string ⟨#[]⟩, .slice A m 0] 24)) (.cells #[.int .i64 0, .int .i64 0, .int .i64 0, .int .i64 0, .int .i64 18, .int .i64 0, .int .i64 0, .string ⟨#[]⟩, .slice A (a + m) a] 24)
      clear hw3
      generalize w.heap.size + 1 + 1 = g3 at MD ⊢
      generalize w.heap.size + 1 = g2 at MD ⊢
      generalize hg1 : w.heap.size = g1 at MD ⊢
      obtain ⟨lx, hlx⟩ : ∃ l, lenS 2 a = l := ⟨_, rfl⟩
      obtain ⟨ly, hly⟩ : ∃ l, lenS 0 m = l := ⟨_, rfl⟩
      obtain ⟨lz, hlz⟩ : ∃ l, lenS 18 (a + m) = l := ⟨_, rfl⟩
      have hw : IntKind.i64.wrap (lx + ly) = lz := by rw [← hlx, ← hly, ← hlz]; exact three_len a m (by omega) (by decide) (by decide)
      have N1 := Lib.hid (len_at ⟨0, 0, 0, 0, 2, 0, 0⟩ ⟨#[]⟩ A a a lx hlx (by omega))
      have N2 := Lib.hid (len_at ⟨0, 0, 0, 0, 0, 0, 0⟩ ⟨#[]⟩ A m 0 ly hly (by omega))
      have N3 := Lib.hid (len_at ⟨0, 0, 0, 0, 18, 0, 0⟩ ⟨#[]⟩ A (a + m) a lz hlz (by omega))
      have N4 := Lib.hid (len_at ⟨0, 0, 0, 0, 44, 0, 0⟩ ⟨#[]⟩ none 0 0 0 (by decide) (by omega))
      replace MD := Lib.hid (MD.below (below_drew (Below.refl _ _)))
      replace BD := Lib.hid (below_drew BD)
      clear hB hlx hly hlz h0 e0 e1 e2 hi hnc hca
      go_region_held3 (fun w' => w'.cell? ⟨g1, 0, none⟩ = some (.int .i64 0) ∧ w'.cell? ⟨g1, 1, none⟩ = some (.int .i64 0) ∧ w'.cell? ⟨g1, 2, none⟩ = some (.int .i64 0) ∧ w'.cell? ⟨g1, 3, none⟩ = some (.int .i64 0) ∧ w'.cell? ⟨g1, 4, none⟩ = some (.int .i64 2) ∧ w'.cell? ⟨g1, 5, none⟩ = some (.int .i64 0) ∧ w'.cell? ⟨g1, 6, none⟩ = some (.int .i64 0) ∧ w'.cell? ⟨g1, 7, none⟩ = some (.string ⟨#[]⟩) ∧ w'.cell? ⟨g1, 8, none⟩ = some (.slice A a a) ∧ w'.cell? ⟨g2, 0, none⟩ = some (.int .i64 0) ∧ w'.cell? ⟨g2, 1, none⟩ = some (.int .i64 0) ∧ w'.cell? ⟨g2, 2, none⟩ = some (.int .i64 0) ∧ w'.cell? ⟨g2, 3, none⟩ = some (.int .i64 0) ∧ w'.cell? ⟨g2, 4, none⟩ = some (.int .i64 0) ∧ w'.cell? ⟨g2, 5, none⟩ = some (.int .i64 0) ∧ w'.cell? ⟨g2, 6, none⟩ = some (.int .i64 0) ∧ w'.cell? ⟨g2, 7, none⟩ = some (.string ⟨#[]⟩) ∧ w'.cell? ⟨g2, 8, none⟩ = some (.slice A m 0) ∧ w'.cell? ⟨g3, 0, none⟩ = some (.int .i64 0) ∧ w'.cell? ⟨g3, 1, none⟩ = some (.int .i64 0) ∧ w'.cell? ⟨g3, 2, none⟩ = some (.int .i64 0) ∧ w'.cell? ⟨g3, 3, none⟩ = some (.int .i64 0) ∧ w'.cell? ⟨g3, 4, none⟩ = some (.int .i64 18) ∧ w'.cell? ⟨g3, 5, none⟩ = some (.int .i64 0) ∧ w'.cell? ⟨g3, 6, none⟩ = some (.int .i64 0) ∧ w'.cell? ⟨g3, 7, none⟩ = some (.string ⟨#[]⟩) ∧ w'.cell? ⟨g3, 8, none⟩ = some (.slice A (a + m) a))
        ((refine Sb3.cs ?_; first | with_reducible exact M9.out | with_reducible exact M8.out | with_reducible exact M7.out | with_reducible exact M6.out | with_reducible exact M5.out | exact MD.out))
        (first
          | (go_at_call 16
             refine (awake06 _).mono ?_
             rintro e w5 ⟨rfl, hB5⟩
             have M5 := Lib.hid (MD.out.below hB5)
             have B5 := Lib.hid (below_step2 BD.out hB5)
             clear hB5)
          | (go_at_call 14
             with_reducible refine (N4.out _).mono ?_
             rintro e w9 ⟨rfl, hB9⟩
             have M9 := Lib.hid (M8.out.below hB9)
             have B9 := Lib.hid (below_step2 B8.out hB9)
             clear hB9)
          | (go_at_call 14
             with_reducible refine (N2.out _).mono ?_
             rintro e w8 ⟨rfl, hB8⟩
             have M8 := Lib.hid (M7.out.below hB8)
             have B8 := Lib.hid (below_step2 B7.out hB8)
             clear hB8)
          | (go_at_call 14
             with_reducible refine (N1.out _).mono ?_
             rintro e w7 ⟨rfl, hB7⟩
             have M7 := Lib.hid (M6.out.below hB7)
             have B7 := Lib.hid (below_step2 B6.out hB7)
             clear hB7)
          | (go_at_call 14
             with_reducible refine (N3.out _).mono ?_
             rintro e w6 ⟨rfl, hB6⟩
             have M6 := Lib.hid (M5.out.below hB6)
             have B6 := Lib.hid (below_step2 B5.out hB6)
             clear hB6))
      all_goals
        go_wp2
        go_ret
        exact ⟨by simp [*], B9.out⟩
    · generalize hw3 : World.alloc _ _ = w3
      have MD : Sb3 w3 w.heap.size (w.heap.size + 1) (w.heap.size + 1 + 1) ⟨0, 0, 0, 0, 2, 0, 0⟩ ⟨0, 0, 0, 0, 1, 0, 0⟩ ⟨0, 0, 0, 0, 19, 0, 0⟩ ⟨#[]⟩ A a a A m 0 A (a + m) a := by rw [← hw3]; exact ⟨((Sb.new w ⟨0, 0, 0, 0, 2, 0, 0⟩ ⟨#[]⟩ A a a).alloc (.cells #[.int .i64 0, .int .i64 0, .int .i64 0, .int .i64 0, .int .i64 1, .int .i64 0, .int .i64 0, .string ⟨#[]⟩, .slice A m 0] 24)).alloc (.cells #[.int .i64 0, .int .i64 0, .int .i64 0, .int .i64 0, .int .i64 19, .int .i64 0, .int .i64 0, .string ⟨#[]⟩, .slice A (a + m) a] 24), (Sb.at (w.alloc (.cells #[.int .i64 0, .int .i64 0, .int .i64 0, .int .i64 0, .int .i64 2, .int .i64 0, .int .i64 0, .string ⟨#[]⟩, .slice A a a] 24)) (w.heap.size + 1) ⟨0, 0, 0, 0, 1, 0, 0⟩ ⟨#[]⟩ A m 0 (by simp only [World.size_alloc])).alloc (.cells #[.int .i64 0, .int .i64 0, .int .i64 0, .int .i64 0, .int .i64 19, .int .i64 0, .int .i64 0, .string ⟨#[]⟩, .slice A (a + m) a] 24), Sb.at ((w.alloc (.cells #[.int .i64 0, .int .i64 0, .int .i64 0, .int .i64 0, .int .i64 2, .int .i64 0, .int .i64 0, .string ⟨#[]⟩, .slice A a a] 24)).alloc (.cells #[.int .i64 0, .int .i64 0, .int .i64 0, .int .i64 0, .int .i64 1, .int .i64 0, .int .i64 0, .string ⟨#[]⟩, .slice A m 0] 24)) (w.heap.size + 1 + 1) ⟨0, 0, 0, 0, 19, 0, 0⟩ ⟨#[]⟩ A (a + m) a (by simp only [World.size_alloc])⟩
      have BD : Below w.heap.size w w3 := by rw [← hw3]; exact below_alloc (below_alloc (below_alloc hB (.cells #[.int .i64 0, .int .i64 0, .int .i64 0, .int .i64 0, .int .i64 2, .int .i64 0, .int .i64 0, .string ⟨#[]⟩, .slice A a a] 24)) (.cells #[.int .i64 0, .int .i64 0, .int .i64 0, .int .i64 0, .int .i64 1, .int .i64 0, .int .i64 0, .string ⟨#[]⟩, .slice A m 0] 24)) (.cells #[.int .i64 0, .int .i64 0, .int .i64 0, .int .i64 0, .int .i64 19, .int .i64 0, .int .i64 0, .string ⟨#[]⟩, .slice A (a + m) a] 24)
      clear hw3
      generalize w.heap.size + 1 + 1 = g3 at MD ⊢
      generalize w.heap.size + 1 = g2 at MD ⊢
      generalize hg1 : w.heap.size = g1 at MD ⊢
      obtain ⟨lx, hlx⟩ : ∃ l, lenS 2 a = l := ⟨_, rfl⟩
      obtain ⟨ly, hly⟩ : ∃ l, lenS 1 m = l := ⟨_, rfl⟩
      obtain ⟨lz, hlz⟩ : ∃ l, lenS 19 (a + m) = l := ⟨_, rfl⟩
      have hw : IntKind.i64.wrap (lx + ly) = lz := by rw [← hlx, ← hly, ← hlz]; exact three_len a m (by omega) (by decide) (by decide)
      have N1 := Lib.hid (len_at ⟨0, 0, 0, 0, 2, 0, 0⟩ ⟨#[]⟩ A a a lx hlx (by omega))
      have N2 := Lib.hid (len_at ⟨0, 0, 0, 0, 1, 0, 0⟩ ⟨#[]⟩ A m 0 ly hly (by omega))
      have N3 := Lib.hid (len_at ⟨0, 0, 0, 0, 19, 0, 0⟩ ⟨#[]⟩ A (a + m) a lz hlz (by omega))
      have N4 := Lib.hid (len_at ⟨0, 0, 0, 0, 44, 0, 0⟩ ⟨#[]⟩ none 0 0 0 (by decide) (by omega))
      replace MD := Lib.hid (MD.below (below_drew (Below.refl _ _)))
      replace BD := Lib.hid (below_drew BD)
      clear hB hlx hly hlz h0 e0 e1 e2 hi hnc hca
      go_region_held3 (fun w' => w'.cell? ⟨g1, 0, none⟩ = some (.int .i64 0) ∧ w'.cell? ⟨g1, 1, none⟩ = some (.int .i64 0) ∧ w'.cell? ⟨g1, 2, none⟩ = some (.int .i64 0) ∧ w'.cell? ⟨g1, 3, none⟩ = some (.int .i64 0) ∧ w'.cell? ⟨g1, 4, none⟩ = some (.int .i64 2) ∧ w'.cell? ⟨g1, 5, none⟩ = some (.int .i64 0) ∧ w'.cell? ⟨g1, 6, none⟩ = some (.int .i64 0) ∧ w'.cell? ⟨g1, 7, none⟩ = some (.string ⟨#[]⟩) ∧ w'.cell? ⟨g1, 8, none⟩ = some (.slice A a a) ∧ w'.cell? ⟨g2, 0, none⟩ = some (.int .i64 0) ∧ w'.cell? ⟨g2, 1, none⟩ = some (.int .i64 0) ∧ w'.cell? ⟨g2, 2, none⟩ = some (.int .i64 0) ∧ w'.cell? ⟨g2, 3, none⟩ = some (.int .i64 0) ∧ w'.cell? ⟨g2, 4, none⟩ = some (.int .i64 1) ∧ w'.cell? ⟨g2, 5, none⟩ = some (.int .i64 0) ∧ w'.cell? ⟨g2, 6, none⟩ = some (.int .i64 0) ∧ w'.cell? ⟨g2, 7, none⟩ = some (.string ⟨#[]⟩) ∧ w'.cell? ⟨g2, 8, none⟩ = some (.slice A m 0) ∧ w'.cell? ⟨g3, 0, none⟩ = some (.int .i64 0) ∧ w'.cell? ⟨g3, 1, none⟩ = some (.int .i64 0) ∧ w'.cell? ⟨g3, 2, none⟩ = some (.int .i64 0) ∧ w'.cell? ⟨g3, 3, none⟩ = some (.int .i64 0) ∧ w'.cell? ⟨g3, 4, none⟩ = some (.int .i64 19) ∧ w'.cell? ⟨g3, 5, none⟩ = some (.int .i64 0) ∧ w'.cell? ⟨g3, 6, none⟩ = some (.int .i64 0) ∧ w'.cell? ⟨g3, 7, none⟩ = some (.string ⟨#[]⟩) ∧ w'.cell? ⟨g3, 8, none⟩ = some (.slice A (a + m) a))
        ((refine Sb3.cs ?_; first | with_reducible exact M9.out | with_reducible exact M8.out | with_reducible exact M7.out | with_reducible exact M6.out | with_reducible exact M5.out | exact MD.out))
        (first
          | (go_at_call 16
             refine (awake06 _).mono ?_
             rintro e w5 ⟨rfl, hB5⟩
             have M5 := Lib.hid (MD.out.below hB5)
             have B5 := Lib.hid (below_step2 BD.out hB5)
             clear hB5)
          | (go_at_call 14
             with_reducible refine (N4.out _).mono ?_
             rintro e w9 ⟨rfl, hB9⟩
             have M9 := Lib.hid (M8.out.below hB9)
             have B9 := Lib.hid (below_step2 B8.out hB9)
             clear hB9)
          | (go_at_call 14
             with_reducible refine (N2.out _).mono ?_
             rintro e w8 ⟨rfl, hB8⟩
             have M8 := Lib.hid (M7.out.below hB8)
             have B8 := Lib.hid (below_step2 B7.out hB8)
             clear hB8)
          | (go_at_call 14
             with_reducible refine (N1.out _).mono ?_
             rintro e w7 ⟨rfl, hB7⟩
             have M7 := Lib.hid (M6.out.below hB7)
             have B7 := Lib.hid (below_step2 B6.out hB7)
             clear hB7)
          | (go_at_call 14
             with_reducible refine (N3.out _).mono ?_
             rintro e w6 ⟨rfl, hB6⟩
             have M6 := Lib.hid (M5.out.below hB6)
             have B6 := Lib.hid (below_step2 B5.out hB6)
             clear hB6))
      all_goals
        go_wp2
        go_ret
        exact ⟨by simp [*], B9.out⟩
  · cases syn <;> cases fin <;> go_wp2_with fail
    · generalize hw3 : World.alloc _ _ = w3
      have MD : Sb3 w3 w.heap.size (w.heap.size + 1) (w.heap.size + 1 + 1) ⟨0, 0, 0, 0, 0, 0, 0⟩ ⟨0, 0, 0, 0, 0, 0, 0⟩ ⟨0, 0, 0, 0, 16, 0, 0⟩ ⟨#[]⟩ A a c (Option.map (fun x => x.add a) A) m (c - a) A (a + m) c := by rw [← hw3]; exact ⟨((Sb.new w ⟨0, 0, 0, 0, 0, 0, 0⟩ ⟨#[]⟩ A a c).alloc (.cells #[.int .i64 0, .int .i64 0, .int .i64 0, .int .i64 0, .int .i64 0, .int .i64 0, .int .i64 0, .string ⟨#[]⟩, .slice (Option.map (fun x => x.add a) A) m (c - a)] 24)).alloc (.cells #[.int .i64 0, .int .i64 0, .int .i64 0, .int .i64 0, .int .i64 16, .int .i64 0, .int .i64 0, .string ⟨#[]⟩, .slice A (a + m) c] 24), (Sb.at (w.alloc (.cells #[.int .i64 0, .int .i64 0, .int .i64 0, .int .i64 0, .int .i64 0, .int .i64 0, .int .i64 0, .string ⟨#[]⟩, .slice A a c] 24)) (w.heap.size + 1) ⟨0, 0, 0, 0, 0, 0, 0⟩ ⟨#[]⟩ (Option.map (fun x => x.add a) A) m (c - a) (by simp only [World.size_alloc])).alloc (.cells #[.int .i64 0, .int .i64 0, .int .i64 0, .int .i64 0, .int .i64 16, .int .i64 0, .int .i64 0, .string ⟨#[]⟩, .slice A (a + m) c] 24), Sb.at ((w.alloc (.cells #[.int .i64 0, .int .i64 0, .int .i64 0, .int .i64 0, .int .i64 0, .int .i64 0, .int .i64 0, .string ⟨#[]⟩, .slice A a c] 24)).alloc (.cells #[.int .i64 0, .int .i64 0, .int .i64 0, .int .i64 0, .int .i64 0, .int .i64 0, .int .i64 0, .string ⟨#[]⟩, .slice (Option.map (fun x => x.add a) A) m (c - a)] 24)) (w.heap.size + 1 + 1) ⟨0, 0, 0, 0, 16, 0, 0⟩ ⟨#[]⟩ A (a + m) c (by simp only [World.size_alloc])⟩
      have BD : Below w.heap.size w w3 := by rw [← hw3]; exact below_alloc (below_alloc (below_alloc hB (.cells #[.int .i64 0, .int .i64 0, .int .i64 0, .int .i64 0, .int .i64 0, .int .i64 0, .int .i64 0, .string ⟨#[]⟩, .slice A a c] 24)) (.cells #[.int .i64 0, .int .i64 0, .int .i64 0, .int .i64 0, .int .i64 0, .int .i64 0, .int .i64 0, .string ⟨#[]⟩, .slice (Option.map (fun x => x.add a) A) m (c - a)] 24)) (.cells #[.int .i64 0, .int .i64 0, .int .i64 0, .int .i64 0, .int .i64 16, .int .i64 0, .int .i64 0, .string ⟨#[]⟩, .slice A (a + m) c] 24)
      clear hw3
      generalize w.heap.size + 1 + 1 = g3 at MD ⊢
      generalize w.heap.size + 1 = g2 at MD ⊢
      generalize hg1 : w.heap.size = g1 at MD ⊢
      obtain ⟨lx, hlx⟩ : ∃ l, lenS 0 a = l := ⟨_, rfl⟩
      obtain ⟨ly, hly⟩ : ∃ l, lenS 0 m = l := ⟨_, rfl⟩
      obtain ⟨lz, hlz⟩ : ∃ l, lenS 16 (a + m) = l := ⟨_, rfl⟩
      have hw : IntKind.i64.wrap (lx + ly) = lz := by rw [← hlx, ← hly, ← hlz]; exact three_len a m (by omega) (by decide) (by decide)
      have N1 := Lib.hid (len_at ⟨0, 0, 0, 0, 0, 0, 0⟩ ⟨#[]⟩ A a c lx hlx (by omega))
      have N2 := Lib.hid (len_at ⟨0, 0, 0, 0, 0, 0, 0⟩ ⟨#[]⟩ (Option.map (fun x => x.add a) A) m (c - a) ly hly (by omega))
      have N3 := Lib.hid (len_at ⟨0, 0, 0, 0, 16, 0, 0⟩ ⟨#[]⟩ A (a + m) c lz hlz (by omega))
      have N4 := Lib.hid (len_at ⟨0, 0, 0, 0, 44, 0, 0⟩ ⟨#[]⟩ none 0 0 0 (by decide) (by omega))
      replace MD := Lib.hid (MD.below (below_drew (Below.refl _ _)))
      replace BD := Lib.hid (below_drew BD)
      clear hB hlx hly hlz h0 e0 e1 e2 hi hnc hca
      go_region_held3 (fun w' => w'.cell? ⟨g1, 0, none⟩ = some (.int .i64 0) ∧ w'.cell? ⟨g1, 1, none⟩ = some (.int .i64 0) ∧ w'.cell? ⟨g1, 2, none⟩ = some (.int .i64 0) ∧ w'.cell? ⟨g1, 3, none⟩ = some (.int .i64 0) ∧ w'.cell? ⟨g1, 4, none⟩ = some (.int .i64 0) ∧ w'.cell? ⟨g1, 5, none⟩ = some (.int .i64 0) ∧ w'.cell? ⟨g1, 6, none⟩ = some (.int .i64 0) ∧ w'.cell? ⟨g1, 7, none⟩ = some (.string ⟨#[]⟩) ∧ w'.cell? ⟨g1, 8, none⟩ = some (.slice A a c) ∧ w'.cell? ⟨g2, 0, none⟩ = some (.int .i64 0) ∧ w'.cell? ⟨g2, 1, none⟩ = some (.int .i64 0) ∧ w'.cell? ⟨g2, 2, none⟩ = some (.int .i64 0) ∧ w'.cell? ⟨g2, 3, none⟩ = some (.int .i64 0) ∧ w'.cell? ⟨g2, 4, none⟩ = some (.int .i64 0) ∧ w'.cell? ⟨g2, 5, none⟩ = some (.int .i64 0) ∧ w'.cell? ⟨g2, 6, none⟩ = some (.int .i64 0) ∧ w'.cell? ⟨g2, 7, none⟩ = some (.string ⟨#[]⟩) ∧ w'.cell? ⟨g2, 8, none⟩ = some (.slice (Option.map (fun x => x.add a) A) m (c - a)) ∧ w'.cell? ⟨g3, 0, none⟩ = some (.int .i64 0) ∧ w'.cell? ⟨g3, 1, none⟩ = some (.int .i64 0) ∧ w'.cell? ⟨g3, 2, none⟩ = some (.int .i64 0) ∧ w'.cell? ⟨g3, 3, none⟩ = some (.int .i64 0) ∧ w'.cell? ⟨g3, 4, none⟩ = some (.int .i64 16) ∧ w'.cell? ⟨g3, 5, none⟩ = some (.int .i64 0) ∧ w'.cell? ⟨g3, 6, none⟩ = some (.int .i64 0) ∧ w'.cell? ⟨g3, 7, none⟩ = some (.string ⟨#[]⟩) ∧ w'.cell? ⟨g3, 8, none⟩ = some (.slice A (a + m) c))
        ((refine Sb3.cs ?_; first | with_reducible exact M9.out | with_reducible exact M8.out | with_reducible exact M7.out | with_reducible exact M6.out | with_reducible exact M5.out | exact MD.out))
        (first
          | (go_at_call 16
             refine (awake06 _).mono ?_
             rintro e w5 ⟨rfl, hB5⟩
             have M5 := Lib.hid (MD.out.below hB5)
             have B5 := Lib.hid (below_step2 BD.out hB5)
             clear hB5)
          | (go_at_call 14
             with_reducible refine (N4.out _).mono ?_
             rintro e w9 ⟨rfl, hB9⟩
             have M9 := Lib.hid (M8.out.below hB9)
             have B9 := Lib.hid (below_step2 B8.out hB9)
             clear hB9)
          | (go_at_call 14
             with_reducible refine (N2.out _).mono ?_
             rintro e w8 ⟨rfl, hB8⟩
             have M8 := Lib.hid (M7.out.below hB8)
             have B8 := Lib.hid (below_step2 B7.out hB8)
             clear hB8)
          | (go_at_call 14
             with_reducible refine (N1.out _).mono ?_
             rintro e w7 ⟨rfl, hB7⟩
             have M7 := Lib.hid (M6.out.below hB7)
             have B7 := Lib.hid (below_step2 B6.out hB7)
             clear hB7)
          | (go_at_call 14
             with_reducible refine (N3.out _).mono ?_
             rintro e w6 ⟨rfl, hB6⟩
             have M6 := Lib.hid (M5.out.below hB6)
             have B6 := Lib.hid (below_step2 B5.out hB6)
             clear hB6))
      all_goals
        go_wp2
        go_ret
        exact ⟨by simp [*], B9.out⟩
    · generalize hw3 : World.alloc _ _ = w3
      have MD : Sb3 w3 w.heap.size (w.heap.size + 1) (w.heap.size + 1 + 1) ⟨0, 0, 0, 0, 0, 0, 0⟩ ⟨0, 0, 0, 0, 1, 0, 0⟩ ⟨0, 0, 0, 0, 17, 0, 0⟩ ⟨#[]⟩ A a c (Option.map (fun x => x.add a) A) m (c - a) A (a + m) c := by rw [← hw3]; exact ⟨((Sb.new w ⟨0, 0, 0, 0, 0, 0, 0⟩ ⟨#[]⟩ A a c).alloc (.cells #[.int .i64 0, .int .i64 0, .int .i64 0, .int .i64 0, .int .i64 1, .int .i64 0, .int .i64 0, .string ⟨#[]⟩, .slice (Option.map (fun x => x.add a) A) m (c - a)] 24)).alloc (.cells #[.int .i64 0, .int .i64 0, .int .i64 0, .int .i64 0, .int .i64 17, .int .i64 0, .int .i64 0, .string ⟨#[]⟩, .slice A (a + m) c] 24), (Sb.at (w.alloc (.cells #[.int .i64 0, .int .i64 0, .int .i64 0, .int .i64 0, .int .i64 0, .int .i64 0, .int .i64 0, .string ⟨#[]⟩, .slice A a c] 24)) (w.heap.size + 1) ⟨0, 0, 0, 0, 1, 0, 0⟩ ⟨#[]⟩ (Option.map (fun x => x.add a) A) m (c - a) (by simp only [World.size_alloc])).alloc (.cells #[.int .i64 0, .int .i64 0, .int .i64 0, .int .i64 0, .int .i64 17, .int .i64 0, .int .i64 0, .string ⟨#[]⟩, .slice A (a + m) c] 24), Sb.at ((w.alloc (.cells #[.int .i64 0, .int .i64 0, .int .i64 0, .int .i64 0, .int .i64 0, .int .i64 0, .int .i64 0, .string ⟨#[]⟩, .slice A a c] 24)).alloc (.cells #[.int .i64 0, .int .i64 0, .int .i64 0, .int .i64 0, .int .i64 1, .int .i64 0, .int .i64 0, .string ⟨#[]⟩, .slice (Option.map (fun x => x.add a) A) m (c - a)] 24)) (w.heap.size + 1 + 1) ⟨0, 0, 0, 0, 17, 0, 0⟩ ⟨#[]⟩ A (a + m) c (by simp only [World.size_alloc])⟩
      have BD : Below w.heap.size w w3 := by rw [← hw3]; exact below_alloc (below_alloc (below_alloc hB (.cells #[.int .i64 0, .int .i64 0, .int .i64 0, .int .i64 0, .int .i64 0, .int .i64 0, .int .i64 0, .string ⟨#[]⟩, .slice A a c] 24)) (.cells #[.int .i64 0, .int .i64 0, .int .i64 0, .int .i64 0, .int .i64 1, .int .i64 0, .int .i64 0, .string ⟨#[]⟩, .slice (Option.map (fun x => x.add a) A) m (c - a)] 24)) (.cells #[.int .i64 0, .int .i64 0, .int .i64 0, .int .i64 0, .int .i64 17, .int .i64 0, .int .i64 0, .string ⟨#[]⟩, .slice A (a + m) c] 24)
      clear hw3
      generalize w.heap.size + 1 + 1 = g3 at MD ⊢
      generalize w.heap.size + 1 = g2 at MD ⊢
      generalize hg1 : w.heap.size = g1 at MD ⊢
      obtain ⟨lx, hlx⟩ : ∃ l, lenS 0 a = l := ⟨_, rfl⟩
      obtain ⟨ly, hly⟩ : ∃ l, lenS 1 m = l := ⟨_, rfl⟩
      obtain ⟨lz, hlz⟩ : ∃ l, lenS 17 (a + m) = l := ⟨_, rfl⟩
      have hw : IntKind.i64.wrap (lx + ly) = lz := by rw [← hlx, ← hly, ← hlz]; exact three_len a m (by omega) (by decide) (by decide)
      have N1 := Lib.hid (len_at ⟨0, 0, 0, 0, 0, 0, 0⟩ ⟨#[]⟩ A a c lx hlx (by omega))
      have N2 := Lib.hid (len_at ⟨0, 0, 0, 0, 1, 0, 0⟩ ⟨#[]⟩ (Option.map (fun x => x.add a) A) m (c - a) ly hly (by omega))
      have N3 := Lib.hid (len_at ⟨0, 0, 0, 0, 17, 0, 0⟩ ⟨#[]⟩ A (a + m) c lz hlz (by omega))
      have N4 := Lib.hid (len_at ⟨0, 0, 0, 0, 44, 0, 0⟩ ⟨#[]⟩ none 0 0 0 (by decide) (by omega))
      replace MD := Lib.hid (MD.below (below_drew (Below.refl _ _)))
      replace BD := Lib.hid (below_drew BD)
      clear hB hlx hly hlz h0 e0 e1 e2 hi hnc hca
      go_region_held3 (fun w' => w'.cell? ⟨g1, 0, none⟩ = some (.int .i64 0) ∧ w'.cell? ⟨g1, 1, none⟩ = some (.int .i64 0) ∧ w'.cell? ⟨g1, 2, none⟩ = some (.int .i64 0) ∧ w'.cell? ⟨g1, 3, none⟩ = some (.int .i64 0) ∧ w'.cell? ⟨g1, 4, none⟩ = some (.int .i64 0) ∧ w'.cell? ⟨g1, 5, none⟩ = some (.int .i64 0) ∧ w'.cell? ⟨g1, 6, none⟩ = some (.int .i64 0) ∧ w'.cell? ⟨g1, 7, none⟩ = some (.string ⟨#[]⟩) ∧ w'.cell? ⟨g1, 8, none⟩ = some (.slice A a c) ∧ w'.cell? ⟨g2, 0, none⟩ = some (.int .i64 0) ∧ w'.cell? ⟨g2, 1, none⟩ = some (.int .i64 0) ∧ w'.cell? ⟨g2, 2, none⟩ = some (.int .i64 0) ∧ w'.cell? ⟨g2, 3, none⟩ = some (.int .i64 0) ∧ w'.cell? ⟨g2, 4, none⟩ = some (.int .i64 1) ∧ w'.cell? ⟨g2, 5, none⟩ = some (.int .i64 0) ∧ w'.cell? ⟨g2, 6, none⟩ = some (.int .i64 0) ∧ w'.cell? ⟨g2, 7, none⟩ = some (.string ⟨#[]⟩) ∧ w'.cell? ⟨g2, 8, none⟩ = some (.slice (Option.map (fun x => x.add a) A) m (c - a)) ∧ w'.cell? ⟨g3, 0, none⟩ = some (.int .i64 0) ∧ w'.cell? ⟨g3, 1, none⟩ = some (.int .i64 0) ∧ w'.cell? ⟨g3, 2, none⟩ = some (.int .i64 0) ∧ w'.cell? ⟨g3, 3, none⟩ = some (.int .i64 0) ∧ w'.cell? ⟨g3, 4, none⟩ = some (.int .i64 17) ∧ w'.cell? ⟨g3, 5, none⟩ = some (.int .i64 0) ∧ w'.cell? ⟨g3, 6, none⟩ = some (.int .i64 0) ∧ w'.cell? ⟨g3, 7, none⟩ = some (.string ⟨#[]⟩) ∧ w'.cell? ⟨g3, 8, none⟩ = some (.slice A (a + m) c))
        ((refine Sb3.cs ?_; first | with_reducible exact M9.out | with_reducible exact M8.out | with_reducible exact M7.out | with_reducible exact M6.out | with_reducible exact M5.out | exact MD.out))
        (first
          | (go_at_call 16
             refine (awake06 _).mono ?_
             rintro e w5 ⟨rfl, hB5⟩
             have M5 := Lib.hid (MD.out.below hB5)
             have B5 := Lib.hid (below_step2 BD.out hB5)
             clear hB5)
          | (go_at_call 14
             with_reducible refine (N4.out _).mono ?_
             rintro e w9 ⟨rfl, hB9⟩
             have M9 := Lib.hid (M8.out.below hB9)
             have B9 := Lib.hid (below_step2 B8.out hB9)
             clear hB9)
          | (go_at_call 14
             with_reducible refine (N2.out _).mono ?_
             rintro e w8 ⟨rfl, hB8⟩
             have M8 := Lib.hid (M7.out.below hB8)
             have B8 := Lib.hid (below_step2 B7.out hB8)
             clear hB8)
          | (go_at_call 14
             with_reducible refine (N1.out _).mono ?_
             rintro e w7 ⟨rfl, hB7⟩
             have M7 := Lib.hid (M6.out.below hB7)
             have B7 := Lib.hid (below_step2 B6.out hB7)
             clear hB7)
          | (go_at_call 14
             with_reducible refine (N3.out _).mono ?_
             rintro e w6 ⟨rfl, hB6⟩
             have M6 := Lib.hid (M5.out.below hB6)
             have B6 := Lib.hid (below_step2 B5.out hB6)
             clear hB6))
      all_goals
        go_wp2
        go_ret
        exact ⟨by simp [*], B9.out⟩
    · generalize hw3 : World.alloc _ _ = w3
      have MD : Sb3 w3 w.heap.size (w.heap.size + 1) (w.heap.size + 1 + 1) ⟨0, 0, 0, 0, 2, 0, 0⟩ ⟨0, 0, 0, 0, 0, 0, 0⟩ ⟨0, 0, 0, 0, 18, 0, 0⟩ ⟨#[]⟩ A a c (Option.map (fun x => x.add a) A) m (c - a) A (a + m) c := by rw [← hw3]; exact ⟨((Sb.new w ⟨0, 0, 0, 0, 2, 0, 0⟩ ⟨#[]⟩ A a c).alloc (.cells #[.int .i64 0, .int .i64 0, .int .i64 0, .int .i64 0, .int .i64 0, .int .i64 0, .int .i64 0, .string ⟨#[]⟩, .slice (Option.map (fun x => x.add a) A) m (c - a)] 24)).alloc (.cells #[.int .i64 0, .int .i64 0, .int .i64 0, .int .i64 0, .int .i64 18, .int .i64 0, .int .i64 0, .string ⟨#[]⟩, .slice A (a + m) c] 24), (Sb.at (w.alloc (.cells #[.int .i64 0, .int .i64 0, .int .i64 0, .int .i64 0, .int .i64 2, .int .i64 0, .int .i64 0, .string ⟨#[]⟩, .slice A a c] 24)) (w.heap.size + 1) ⟨0, 0, 0, 0, 0, 0, 0⟩ ⟨#[]⟩ (Option.map (fun x => x.add a) A) m (c - a) (by simp only [World.size_alloc])).alloc (.cells #[.int .i64 0, .int .i64 0, .int .i64 0, .int .i64 0, .int .i64 18, .int .i64 0, .int .i64 0, .string ⟨#[]⟩, .slice A (a + m) c] 24), Sb.at ((w.alloc (.cells #[.int .i64 0, .int .i64 0, .int .i64 0, .int .i64 0, .int .i64 2, .int .i64 0, .int .i64 0, .string ⟨#[]⟩, .slice A a c] 24)).alloc (.cells #[.int .i64 0, .int .i64 0, .int .i64 0, .int .i64 0, .int .i64 0, .int .i64 0, .int .i64 0, .string ⟨#[]⟩, .slice (Option.map (fun x => x.add a) A) m (c - a)] 24)) (w.heap.size + 1 + 1) ⟨0, 0, 0, 0, 18, 0, 0⟩ ⟨#[]⟩ A (a + m) c (by simp only [World.size_alloc])⟩
      have BD : Below w.heap.size w w3 := by rw [← hw3]; exact below_alloc (below_alloc (below_alloc hB (.cells #[.int .i64 0, .int .i64 0, .int .i64 0, .int .i64 0, .int .i64 2, .int .i64 0, .int .i64 0, .string ⟨#[]⟩, .slice A a c] 24)) (.cells #[.int .i64 0, .int .i64 0, .int .i64 0, .int .i64 0, .int .i64 0, .int .i64 0, .int .i64 0, .string ⟨#[]⟩, .slice (Option.map (fun x => x.add a) A) m (c - a)] 24)) (.cells #[.int .i64 0, .int .i64 0, .int .i64 0, .int .i64 0, .int .i64 18, .int .i64 0, .int .i64 0, .string ⟨#[]⟩, .slice A (a + m) c] 24)
      clear hw3
      generalize w.heap.size + 1 + 1 = g3 at MD ⊢
      generalize w.heap.size + 1 = g2 at MD ⊢
      generalize hg1 : w.heap.size = g1 at MD ⊢
      obtain ⟨lx, hlx⟩ : ∃ l, lenS 2 a = l := ⟨_, rfl⟩
      obtain ⟨ly, hly⟩ : ∃ l, lenS 0 m = l := ⟨_, rfl⟩
      obtain ⟨lz, hlz⟩ : ∃ l, lenS 18 (a + m) = l := ⟨_, rfl⟩
      have hw : IntKind.i64.wrap (lx + ly) = lz := by rw [← hlx, ← hly, ← hlz]; exact three_len a m (by omega) (by decide) (by decide)
      have N1 := Lib.hid (len_at ⟨0, 0, 0, 0, 2, 0, 0⟩ ⟨#[]⟩ A a c lx hlx (by omega))
      have N2 := Lib.hid (len_at ⟨0, 0, 0, 0, 0, 0, 0⟩ ⟨#[]⟩ (Option.map (fun x => x.add a) A) m (c - a) ly hly (by omega))
      have N3 := Lib.hid (len_at ⟨0, 0, 0, 0, 18, 0, 0⟩ ⟨#[]⟩ A (a + m) c lz hlz (by omega))
      have N4 := Lib.hid (len_at ⟨0, 0, 0, 0, 44, 0, 0⟩ ⟨#[]⟩ none 0 0 0 (by decide) (by omega))
      replace MD := Lib.hid (MD.below (below_drew (Below.refl _ _)))
      replace BD := Lib.hid (below_drew BD)
      clear hB hlx hly hlz h0 e0 e1 e2 hi hnc hca
      go_region_held3 (fun w' => w'.cell? ⟨g1, 0, none⟩ = some (.int .i64 0) ∧ w'.cell? ⟨g1, 1, none⟩ = some (.int .i64 0) ∧ w'.cell? ⟨g1, 2, none⟩ = some (.int .i64 0) ∧ w'.cell? ⟨g1, 3, none⟩ = some (.int .i64 0) ∧ w'.cell? ⟨g1, 4, none⟩ = some (.int .i64 2) ∧ w'.cell? ⟨g1, 5, none⟩ = some (.int .i64 0) ∧ w'.cell? ⟨g1, 6, none⟩ = some (.int .i64 0) ∧ w'.cell? ⟨g1, 7, none⟩ = some (.string ⟨#[]⟩) ∧ w'.cell? ⟨g1, 8, none⟩ = some (.slice A a c) ∧ w'.cell? ⟨g2, 0, none⟩ = some (.int .i64 0) ∧ w'.cell? ⟨g2, 1, none⟩ = some (.int .i64 0) ∧ w'.cell? ⟨g2, 2, none⟩ = some (.int .i64 0) ∧ w'.cell? ⟨g2, 3, none⟩ = some (.int .i64 0) ∧ w'.cell? ⟨g2, 4, none⟩ = some (.int .i64 0) ∧ w'.cell? ⟨g2, 5, none⟩ = some (.int .i64 0) ∧ w'.cell? ⟨g2, 6, none⟩ = some (.int .i64 0) ∧ w'.cell? ⟨g2, 7, none⟩ = some (.string ⟨#[]⟩) ∧ w'.cell? ⟨g2, 8, none⟩ = some (.slice (Option.map (fun x => x.add a) A) m (c - a)) ∧ w'.cell? ⟨g3, 0, none⟩ = some (.int .i64 0) ∧ w'.cell? ⟨g3, 1, none⟩ = some (.int .i64 0) ∧ w'.cell? ⟨g3, 2, none⟩ = some (.int .i64 0) ∧ w'.cell? ⟨g3, 3, none⟩ = some (.int .i64 0) ∧ w'.cell? ⟨g3, 4, none⟩ = some (.int .i64 18) ∧ w'.cell? ⟨g3, 5, none⟩ = some (.int .i64 0) ∧ w'.cell? ⟨g3, 6, none⟩ = some (.int .i64 0) ∧ w'.cell? ⟨g3, 7, none⟩ = some (.string ⟨#[]⟩) ∧ w'.cell? ⟨g3, 8, none⟩ = some (.slice A (a + m) c))
        ((refine Sb3.cs ?_; first | with_reducible exact M9.out | with_reducible exact M8.out | with_reducible exact M7.out | with_reducible exact M6.out | with_reducible exact M5.out | exact MD.out))
        (first
          | (go_at_call 16
             refine (awake06 _).mono ?_
             rintro e w5 ⟨rfl, hB5⟩
             have M5 := Lib.hid (MD.out.below hB5)
             have B5 := Lib.hid (below_step2 BD.out hB5)
             clear hB5)
          | (go_at_call 14
             with_reducible refine (N4.out _).mono ?_
             rintro e w9 ⟨rfl, hB9⟩
             have M9 := Lib.hid (M8.out.below hB9)
             have B9 := Lib.hid (below_step2 B8.out hB9)
             clear hB9)
          | (go_at_call 14
             with_reducible refine (N2.out _).mono ?_
             rintro e w8 ⟨rfl, hB8⟩
             have M8 := Lib.hid (M7.out.below hB8)
             have B8 := Lib.hid (below_step2 B7.out hB8)
             clear hB8)
          | (go_at_call 14
             with_reducible refine (N1.out _).mono ?_
             rintro e w7 ⟨rfl, hB7⟩
             have M7 := Lib.hid (M6.out.below hB7)
             have B7 := Lib.hid (below_step2 B6.out hB7)
             clear hB7)
          | (go_at_call 14
             with_reducible refine (N3.out _).mono ?_
             rintro e w6 ⟨rfl, hB6⟩
             have M6 := Lib.hid (M5.out.below hB6)
             have B6 := Lib.hid (below_step2 B5.out hB6)
             clear hB6))
      all_goals
        go_wp2
        go_ret
        exact ⟨by simp [*], B9.out⟩
    · generalize hw3 : World.alloc _ _ = w3
      have MD : Sb3 w3 w.heap.size (w.heap.size + 1) (w.heap.size + 1 + 1) ⟨0, 0, 0, 0, 2, 0, 0⟩ ⟨0, 0, 0, 0, 1, 0, 0⟩ ⟨0, 0, 0, 0, 19, 0, 0⟩ ⟨#[]⟩ A a c (Option.map (fun x => x.add a) A) m (c - a) A (a + m) c := by rw [← hw3]; exact ⟨((Sb.new w ⟨0, 0, 0, 0, 2, 0, 0⟩ ⟨#[]⟩ A a c).alloc (.cells #[.int .i64 0, .int .i64 0, .int .i64 0, .int .i64 0, .int .i64 1, .int .i64 0, .int .i64 0, .string ⟨#[]⟩, .slice (Option.map (fun x => x.add a) A) m (c - a)] 24)).alloc (.cells #[.int .i64 0, .int .i64 0, .int .i64 0, .int .i64 0, .int .i64 19, .int .i64 0, .int .i64 0, .string ⟨#[]⟩, .slice A (a + m) c] 24), (Sb.at (w.alloc (.cells #[.int .i64 0, .int .i64 0, .int .i64 0, .int .i64 0, .int .i64 2, .int .i64 0, .int .i64 0, .string ⟨#[]⟩, .slice A a c] 24)) (w.heap.size + 1) ⟨0, 0, 0, 0, 1, 0, 0⟩ ⟨#[]⟩ (Option.map (fun x => x.add a) A) m (c - a) (by simp only [World.size_alloc])).alloc (.cells #[.int .i64 0, .int .i64 0, .int .i64 0, .int .i64 0, .int .i64 19, .int .i64 0, .int .i64 0, .string ⟨#[]⟩, .slice A (a + m) c] 24), Sb.at ((w.alloc (.cells #[.int .i64 0, .int .i64 0, .int .i64 0, .int .i64 0, .int .i64 2, .int .i64 0, .int .i64 0, .string ⟨#[]⟩, .slice A a c] 24)).alloc (.cells #[.int .i64 0, .int .i64 0, .int .i64 0, .int .i64 0, .int .i64 1, .int .i64 0, .int .i64 0, .string ⟨#[]⟩, .slice (Option.map (fun x => x.add a) A) m (c - a)] 24)) (w.heap.size + 1 + 1) ⟨0, 0, 0, 0, 19, 0, 0⟩ ⟨#[]⟩ A (a + m) c (by simp only [World.size_alloc])⟩
      have BD : Below w.heap.size w w3 := by rw [← hw3]; exact below_alloc (below_alloc (below_alloc hB (.cells #[.int .i64 0, .int .i64 0, .int .i64 0, .int .i64 0, .int .i64 2, .int .i64 0, .int .i64 0, .string ⟨#[]⟩, .slice A a c] 24)) (.cells #[.int .i64 0, .int .i64 0, .int .i64 0, .int .i64 0, .int .i64 1, .int .i64 0, .int .i64 0, .string ⟨#[]⟩, .slice (Option.map (fun x => x.add a) A) m (c - a)] 24)) (.cells #[.int .i64 0, .int .i64 0, .int .i64 0, .int .i64 0, .int .i64 19, .int .i64 0, .int .i64 0, .string ⟨#[]⟩, .slice A (a + m) c] 24)
      clear hw3
      generalize w.heap.size + 1 + 1 = g3 at MD ⊢
      generalize w.heap.size + 1 = g2 at MD ⊢
      generalize hg1 : w.heap.size = g1 at MD ⊢
      obtain ⟨lx, hlx⟩ : ∃ l, lenS 2 a = l := ⟨_, rfl⟩
      obtain ⟨ly, hly⟩ : ∃ l, lenS 1 m = l := ⟨_, rfl⟩
      obtain ⟨lz, hlz⟩ : ∃ l, lenS 19 (a + m) = l := ⟨_, rfl⟩
      have hw : IntKind.i64.wrap (lx + ly) = lz := by rw [← hlx, ← hly, ← hlz]; exact three_len a m (by omega) (by decide) (by decide)
      have N1 := Lib.hid (len_at ⟨0, 0, 0, 0, 2, 0, 0⟩ ⟨#[]⟩ A a c lx hlx (by omega))
      have N2 := Lib.hid (len_at ⟨0, 0, 0, 0, 1, 0, 0⟩ ⟨#[]⟩ (Option.map (fun x => x.add a) A) m (c - a) ly hly (by omega))
      have N3 := Lib.hid (len_at ⟨0, 0, 0, 0, 19, 0, 0⟩ ⟨#[]⟩ A (a + m) c lz hlz (by omega))
      have N4 := Lib.hid (len_at ⟨0, 0, 0, 0, 44, 0, 0⟩ ⟨#[]⟩ none 0 0 0 (by decide) (by omega))
      replace MD := Lib.hid (MD.below (below_drew (Below.refl _ _)))
      replace BD := Lib.hid (below_drew BD)
      clear hB hlx hly hlz h0 e0 e1 e2 hi hnc hca
      go_region_held3 (fun w' => w'.cell? ⟨g1, 0, none⟩ = some (.int .i64 0) ∧ w'.cell? ⟨g1, 1, none⟩ = some (.int .i64 0) ∧ w'.cell? ⟨g1, 2, none⟩ = some (.int .i64 0) ∧ w'.cell? ⟨g1, 3, none⟩ = some (.int .i64 0) ∧ w'.cell? ⟨g1, 4, none⟩ = some (.int .i64 2) ∧ w'.cell? ⟨g1, 5, none⟩ = some (.int .i64 0) ∧ w'.cell? ⟨g1, 6, none⟩ = some (.int .i64 0) ∧ w'.cell? ⟨g1, 7, none⟩ = some (.string ⟨#[]⟩) ∧ w'.cell? ⟨g1, 8, none⟩ = some (.slice A a c) ∧ w'.cell? ⟨g2, 0, none⟩ = some (.int .i64 0) ∧ w'.cell? ⟨g2, 1, none⟩ = some (.int .i64 0) ∧ w'.cell? ⟨g2, 2, none⟩ = some (.int .i64 0) ∧ w'.cell? ⟨g2, 3, none⟩ = some (.int .i64 0) ∧ w'.cell? ⟨g2, 4, none⟩ = some (.int .i64 1) ∧ w'.cell? ⟨g2, 5, none⟩ = some (.int .i64 0) ∧ w'.cell? ⟨g2, 6, none⟩ = some (.int .i64 0) ∧ w'.cell? ⟨g2, 7, none⟩ = some (.string ⟨#[]⟩) ∧ w'.cell? ⟨g2, 8, none⟩ = some (.slice (Option.map (fun x => x.add a) A) m (c - a)) ∧ w'.cell? ⟨g3, 0, none⟩ = some (.int .i64 0) ∧ w'.cell? ⟨g3, 1, none⟩ = some (.int .i64 0) ∧ w'.cell? ⟨g3, 2, none⟩ = some (.int .i64 0) ∧ w'.cell? ⟨g3, 3, none⟩ = some (.int .i64 0) ∧ w'.cell? ⟨g3, 4, none⟩ = some (.int .i64 19) ∧ w'.cell? ⟨g3, 5, none⟩ = some (.int .i64 0) ∧ w'.cell? ⟨g3, 6, none⟩ = some (.int .i64 0) ∧ w'.cell? ⟨g3, 7, none⟩ = some (.string ⟨#[]⟩) ∧ w'.cell? ⟨g3, 8, none⟩ = some (.slice A (a + m) c))
        ((refine Sb3.cs ?_; first | with_reducible exact M9.out | with_reducible exact M8.out | with_reducible exact M7.out | with_reducible exact M6.out | with_reducible exact M5.out | exact MD.out))
        (first
          | (go_at_call 16
             refine (awake06 _).mono ?_
             rintro e w5 ⟨rfl, hB5⟩
             have M5 := Lib.hid (MD.out.below hB5)
             have B5 := Lib.hid (below_step2 BD.out hB5)
             clear hB5)
          | (go_at_call 14
             with_reducible refine (N4.out _).mono ?_
             rintro e w9 ⟨rfl, hB9⟩
             have M9 := Lib.hid (M8.out.below hB9)
             have B9 := Lib.hid (below_step2 B8.out hB9)
             clear hB9)
          | (go_at_call 14
             with_reducible refine (N2.out _).mono ?_
             rintro e w8 ⟨rfl, hB8⟩
             have M8 := Lib.hid (M7.out.below hB8)
             have B8 := Lib.hid (below_step2 B7.out hB8)
             clear hB8)
          | (go_at_call 14
             with_reducible refine (N1.out _).mono ?_
             rintro e w7 ⟨rfl, hB7⟩
             have M7 := Lib.hid (M6.out.below hB7)
             have B7 := Lib.hid (below_step2 B6.out hB7)
             clear hB7)
          | (go_at_call 14
             with_reducible refine (N3.out _).mono ?_
             rintro e w6 ⟨rfl, hB6⟩
             have M6 := Lib.hid (M5.out.below hB6)
             have B6 := Lib.hid (below_step2 B5.out hB6)
             clear hB6))
      all_goals
        go_wp2
        go_ret
        exact ⟨by simp [*], B9.out⟩
end Go.Proofs.Ytljdkfgnoalgpaa

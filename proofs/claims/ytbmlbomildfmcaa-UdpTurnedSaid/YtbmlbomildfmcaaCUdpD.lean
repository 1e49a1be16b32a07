/- The reference's bytes of a datagram. Conditions: a datagram that may be. -/
import Derived.Test.YtbmlbomildfmcaaCUdpC
import Derived.Deep.RegionHeld3
namespace Go.Proofs.Ytbmlbomildfmcaa
open Go.RowKit Go.Proofs.YtbmlbomildfmcaaW.PrintWords

set_option maxHeartbeats 600000 in
theorem ref05_Bytes (x y : Int) (A : Option Addr) (n c : Nat) (xs : List Int) (s d : ByteArray) (w : World) (hs : s.size ≤ 140737488351232) (hd : d.size ≤ 140737488351232) (h0 : Bts w A n c xs)
    (hx : 0 ≤ x ∧ x ≤ 65535) (hy : 0 ≤ y ∧ y ≤ 65535) (hp : pairOk s.size d.size) (h : 8 + n ≤ 65535) :
    Calls Try.prog 13 #[.agg #[.int .i64 x, .int .i64 y, .slice A n c], .string s, .string d] w fun e w' => ∃ v, e = .returned v ∧ OwnB w' w.heap.size v (dgBytes x y xs (bytesOf s) (bytesOf d)) ∧ Below w.heap.size w w' := by
  have hl := h0.len
  have G1 := Lib.hid ((Dg.new w x y A n c).below (below_drew (Below.refl _ _)))
  have B1 : Hid (Below w.heap.size w (w.alloc (.cells #[.int .i64 x, .int .i64 y, .slice A n c] 24)).drew) := Lib.hid (below_drew (below_alloc (Below.refl _ _) _))
  have H1 := Lib.hid (h0.below B1.out)
  clear h0
  have hw : IntKind.i64.wrap (8 + (n : Int)) = 8 + (n : Int) := IntWalk.i64_in _ (by omega)
  go_enter Try.func13, Try.ntmps13
  go_wp2
  go_region_held3 (fun w' => w'.cell? ⟨w.heap.size, 0, none⟩ = some (.int .i64 x) ∧ w'.cell? ⟨w.heap.size, 1, none⟩ = some (.int .i64 y) ∧ w'.cell? ⟨w.heap.size, 2, none⟩ = some (.slice A n c))
    ((refine Dg.cs ?_; first | exact G5.out | exact G4.out | exact G4.out.alloc _ | exact G3.out | exact G2.out | exact G1.out))
    (first
      | (go_at_call 20
         have _q := G3
         clear _q
         refine (ref01_Two _ _ (by omega) (by omega)).mono ?_
         rintro e w4 ⟨v4, rfl, o4, hB4⟩
         have G4 := Lib.hid (G3.out.below hB4)
         have H4 := Lib.hid (H3.out.below hB4)
         have B4 := Lib.hid (below_step2 B3.out hB4)
         obtain ⟨A2, n2, c2, rfl, t2⟩ := (o23.out.below hB4).bts
         obtain ⟨A3, n3, c3, rfl, t3⟩ := (o3.out.below hB4).bts
         obtain ⟨A4, n4, c4, rfl, t4⟩ := o4.bts
         replace t2 := Lib.hid t2
         replace t3 := Lib.hid t3
         replace t4 := Lib.hid t4
         clear hB4 o4)
      | (go_at_call 20
         have _q := G2
         clear _q
         refine (ref01_Two _ _ hy.1 hy.2).mono ?_
         rintro e w3 ⟨v3, rfl, o3, hB3⟩
         have G3 := Lib.hid (G2.out.below hB3)
         have H3 := Lib.hid (H2.out.below hB3)
         have B3 := Lib.hid (below_step2 B2.out hB3)
         have o23 := Lib.hid (o2.out.below hB3)
         replace o3 := Lib.hid o3
         clear hB3)
      | (go_at_call 20
         refine (ref01_Two _ _ hx.1 hx.2).mono ?_
         rintro e w2 ⟨v2, rfl, o2, hB2⟩
         have G2 := Lib.hid (G1.out.below hB2)
         have H2 := Lib.hid (H1.out.below hB2)
         have B2 := Lib.hid (below_step2 B1.out hB2)
         replace o2 := Lib.hid o2
         clear hB2)
      | (go_at_call 8
         refine (ref01_Both _ _ _ [[x / 256, x % 256], [y / 256, y % 256], [(8 + (n : Int)) / 256, (8 + (n : Int)) % 256]] _ (Rws.three w4 w4.heap.size 22 rfl t2.out t3.out t4.out) (by simp)).mono ?_
         rintro e w5 ⟨v5, rfl, o5, hB5⟩
         replace hB5 := below_step2 (w := w4) (below_alloc (Below.refl _ _) _) hB5
         have G5 := Lib.hid (G4.out.below hB5)
         have H5 := Lib.hid (H4.out.below hB5)
         have B5 := Lib.hid (below_step2 B4.out hB5)
         replace o5 := Lib.hid o5
         clear hB5))
  have ef : [[x / 256, x % 256], [y / 256, y % 256], [(8 + (n : Int)) / 256, (8 + (n : Int)) % 256]].flatten = dgFront x y xs := by simp [dgFront, hl]
  rw [ef] at o5
  clear ef t2 t3 t4 G1 G2 G3 G4 H1 H2 H3 H4 B1 B2 B3 B4 o2 o3 o23
  obtain ⟨A5, n5, c5, rfl, t5⟩ := o5.out.bts
  clear o5
  have cA := (G5.out.alloc (.cells #[.int .u8 0, .int .u8 0] 5)).c2
  have K5 := Lib.hid t5
  clear t5
  go_wp2_with fail
  refine (ref01_Both _ _ _ [dgFront x y xs, [0, 0], xs] _ (Rws.three (w5.alloc (.cells #[.int .u8 0, .int .u8 0] 5)) _ 22 (by simp) (K5.out.alloc _) (Bts.lit_at w5 w5.heap.size 5 [0, 0] rfl (by decide) (by simp)) (H5.out.alloc _)) (by simp [dgFront]; omega)).mono ?_
  rintro e w6 ⟨v6, rfl, o6, hB6⟩
  obtain ⟨A6, n6, c6, rfl, t6⟩ := o6.bts
  simp only [List.flatten_cons, List.flatten_nil, List.append_nil, ← List.append_assoc] at t6
  clear o6
  replace hB6 := below_step2 (w := w5) (below_alloc (below_alloc (Below.refl _ _) _) _) hB6
  have hn6 : n6 = 8 + n := by have := t6.len; simp [dgFront] at this; omega
  subst hn6
  have G6 := Lib.hid (G5.out.below hB6)
  have H6 := Lib.hid (H5.out.below hB6)
  have K6 := Lib.hid (K5.out.below hB6)
  have B6 := Lib.hid (below_step2 B5.out hB6)
  clear hB6 G5 H5 K5 B5 cA
  go_wp2_with fail
  refine (ref05_Sum _ _ _ _ _ _ _ hs hd t6 hp h).mono ?_
  rintro e w7 ⟨rfl, hB7⟩
  have G7 := Lib.hid (G6.out.below hB7)
  have H7 := Lib.hid (H6.out.below hB7)
  have t7 := Lib.hid (K6.out.below hB7)
  have B7 := Lib.hid (below_step2 B6.out hB7)
  clear hB7 t6 G6 H6 K6 B6
  have hD := dgSum_bd (dgFront x y xs ++ [0, 0] ++ xs) (bytesOf s) (bytesOf d)
  have hC : Hid (dgCheck x y xs (bytesOf s) (bytesOf d) = if 65535 - dgSum (dgFront x y xs ++ [0, 0] ++ xs) (bytesOf s) (bytesOf d) = 0 then 65535 else 65535 - dgSum (dgFront x y xs ++ [0, 0] ++ xs) (bytesOf s) (bytesOf d)) := rfl
  generalize dgSum (dgFront x y xs ++ [0, 0] ++ xs) (bytesOf s) (bytesOf d) = D at hD hC ⊢
  by_cases hD1 : D = 65535
  · subst hD1
    replace hC : Hid (dgCheck x y xs (bytesOf s) (bytesOf d) = 65535) := Lib.hid (by rw [hC.out, if_pos (by omega)])
    have D7 := Lib.hid (G7.out.below (below_drew (Below.refl _ _)))
    have E7 := Lib.hid (H7.out.below (below_drew (Below.refl _ _)))
    have F7 := Lib.hid (t7.out.below (below_drew (Below.refl _ _)))
    have C7 := Lib.hid (below_drew B7.out)
    clear G7 H7 t7 B7
    go_wp2
    go_region_held3 (fun w' => w'.cell? ⟨w.heap.size, 0, none⟩ = some (.int .i64 x) ∧ w'.cell? ⟨w.heap.size, 1, none⟩ = some (.int .i64 y) ∧ w'.cell? ⟨w.heap.size, 2, none⟩ = some (.slice A n c))
      ((refine Dg.cs ?_; first | exact G9.out | exact G8.out | exact G8.out.alloc _ | exact D7.out))
      (first
        | (go_at_call 20
           refine (ref01_Two _ _ (by omega) (by omega)).mono ?_
           rintro e w8 ⟨v8, rfl, o8, hB8⟩
           have G8 := Lib.hid (D7.out.below hB8)
           have H8 := Lib.hid (E7.out.below hB8)
           have B8 := Lib.hid (below_step2 C7.out hB8)
           have t8 := Lib.hid (F7.out.below hB8)
           obtain ⟨A8, n8, c8, rfl, u8⟩ := o8.bts
           replace u8 := Lib.hid u8
           clear hB8 o8)
        | (go_at_call 8
           refine (ref01_Both _ _ _ [dgFront x y xs, [65535 / 256, 65535 % 256], xs] _ (Rws.three w8 w8.heap.size 22 rfl t8.out u8.out H8.out) (by simp [dgFront]; omega)).mono ?_
           rintro e w9 ⟨v9, rfl, o9, hB9⟩
           have o9 := Lib.hid (o9.lower (base' := w.heap.size) (Nat.le_trans B8.out.size (below_alloc (Below.refl _ _) _).size))
           replace hB9 := below_step2 (w := w8) (below_alloc (Below.refl _ _) _) hB9
           have G9 := Lib.hid (G8.out.below hB9)
           have B9 := Lib.hid (below_step2 B8.out hB9)
           clear hB9))
    go_wp2
    go_ret
    refine ⟨_, rfl, ?_, B9.out⟩
    have q := o9.out
    simp only [List.flatten_cons, List.flatten_nil, List.append_nil, ← List.append_assoc] at q
    unfold dgBytes
    rw [hC.out]
    exact q
  · have e5 : (65535 - D == 0) = false := beq_eq_false_iff_ne.mpr (by omega)
    replace hC : Hid (dgCheck x y xs (bytesOf s) (bytesOf d) = 65535 - D) := Lib.hid (by rw [hC.out, if_neg (by omega)])
    have D7 := Lib.hid (G7.out.below (below_drew (Below.refl _ _)))
    have E7 := Lib.hid (H7.out.below (below_drew (Below.refl _ _)))
    have F7 := Lib.hid (t7.out.below (below_drew (Below.refl _ _)))
    have C7 := Lib.hid (below_drew B7.out)
    clear G7 H7 t7 B7
    go_wp2
    go_region_held3 (fun w' => w'.cell? ⟨w.heap.size, 0, none⟩ = some (.int .i64 x) ∧ w'.cell? ⟨w.heap.size, 1, none⟩ = some (.int .i64 y) ∧ w'.cell? ⟨w.heap.size, 2, none⟩ = some (.slice A n c))
      ((refine Dg.cs ?_; first | exact G9.out | exact G8.out | exact G8.out.alloc _ | exact D7.out))
      (first
        | (go_at_call 20
           refine (ref01_Two _ _ (by omega) (by omega)).mono ?_
           rintro e w8 ⟨v8, rfl, o8, hB8⟩
           have G8 := Lib.hid (D7.out.below hB8)
           have H8 := Lib.hid (E7.out.below hB8)
           have B8 := Lib.hid (below_step2 C7.out hB8)
           have t8 := Lib.hid (F7.out.below hB8)
           obtain ⟨A8, n8, c8, rfl, u8⟩ := o8.bts
           replace u8 := Lib.hid u8
           clear hB8 o8)
        | (go_at_call 8
           refine (ref01_Both _ _ _ [dgFront x y xs, [(65535 - D) / 256, (65535 - D) % 256], xs] _ (Rws.three w8 w8.heap.size 22 rfl t8.out u8.out H8.out) (by simp [dgFront]; omega)).mono ?_
           rintro e w9 ⟨v9, rfl, o9, hB9⟩
           have o9 := Lib.hid (o9.lower (base' := w.heap.size) (Nat.le_trans B8.out.size (below_alloc (Below.refl _ _) _).size))
           replace hB9 := below_step2 (w := w8) (below_alloc (Below.refl _ _) _) hB9
           have G9 := Lib.hid (G8.out.below hB9)
           have B9 := Lib.hid (below_step2 B8.out hB9)
           clear hB9))
    go_wp2
    go_ret
    refine ⟨_, rfl, ?_, B9.out⟩
    have q := o9.out
    simp only [List.flatten_cons, List.flatten_nil, List.append_nil, ← List.append_assoc] at q
    unfold dgBytes
    rw [hC.out]
    exact q
end Go.Proofs.Ytbmlbomildfmcaa

/- SegLays holds: a segment has just these bytes, or is refused; it stays; it takes just so much of a stream. Conditions: none beside the row's own reach. -/
import Derived.Test.YtljdkfgnoalgpaaAwake06
import Derived.Test.YtljdkfgnoalgpaaCSegY
import Derived.Deep.RegionWith
namespace Go.Proofs.Ytljdkfgnoalgpaa
open Go.RowKit Go.Proofs.YtljdkfgnoalgpaaW.PrintWords

theorem Sb.data {w : World} {g : Nat} {S : Sg} {o : ByteArray} {A : Option Addr} {n k : Nat} (h : Sb w g S o A n k) (A' : Option Addr) (n' k' : Nat) : Sb (w.setCell ⟨g, 8, none⟩ (.slice A' n' k')) g S o A' n' k' := ⟨blk_set h.blk 8 _⟩
/-- Two segments and what was laid down, in memory. -/
structure KL (w0 W : World) (g g2 : Nat) (S : Sg) (o : ByteArray) (A : Option Addr) (n c : Nat) (A2 : Option Addr) (k2 : Nat) (xs : List Int) (A4 : Option Addr) (n4 k4 : Nat) (ys : List Int) : Prop where
  U : Sb W g S o A n c
  V : Sb W g2 S o A2 n k2
  H : Bts W A n c xs
  T : Bts W A2 n k2 xs
  O : Bts W A4 n4 k4 ys
  B : Below w0.heap.size w0 W
theorem KL.step {w0 W X : World} {g g2 : Nat} {S : Sg} {o : ByteArray} {A : Option Addr} {n c : Nat} {A2 : Option Addr} {k2 : Nat} {xs : List Int} {A4 : Option Addr} {n4 k4 : Nat} {ys : List Int} (h : KL w0 W g g2 S o A n c A2 k2 xs A4 n4 k4 ys) (hb : Below W.heap.size W X) : KL w0 X g g2 S o A n c A2 k2 xs A4 n4 k4 ys :=
  ⟨h.U.below hb, h.V.below hb, h.H.below hb, h.T.below hb, h.O.below hb, below_step2 h.B hb⟩
theorem KL.cs {w0 w' : World} {g g2 : Nat} {S : Sg} {o : ByteArray} {A : Option Addr} {n c : Nat} {A2 : Option Addr} {k2 : Nat} {xs : List Int} {A4 : Option Addr} {n4 k4 : Nat} {ys : List Int} (h : KL w0 w' g g2 S o A n c A2 k2 xs A4 n4 k4 ys) :
    w'.cell? ⟨g, 0, none⟩ = some (.int .i64 S.p) ∧ w'.cell? ⟨g, 1, none⟩ = some (.int .i64 S.q) ∧ w'.cell? ⟨g, 2, none⟩ = some (.int .i64 S.s) ∧ w'.cell? ⟨g, 3, none⟩ = some (.int .i64 S.a) ∧ w'.cell? ⟨g, 4, none⟩ = some (.int .i64 S.f) ∧ w'.cell? ⟨g, 5, none⟩ = some (.int .i64 S.w) ∧ w'.cell? ⟨g, 6, none⟩ = some (.int .i64 S.u) ∧ w'.cell? ⟨g, 7, none⟩ = some (.string o) ∧ w'.cell? ⟨g, 8, none⟩ = some (.slice A n c) ∧ w'.cell? ⟨g2, 0, none⟩ = some (.int .i64 S.p) ∧ w'.cell? ⟨g2, 1, none⟩ = some (.int .i64 S.q) ∧ w'.cell? ⟨g2, 2, none⟩ = some (.int .i64 S.s) ∧ w'.cell? ⟨g2, 3, none⟩ = some (.int .i64 S.a) ∧ w'.cell? ⟨g2, 4, none⟩ = some (.int .i64 S.f) ∧ w'.cell? ⟨g2, 5, none⟩ = some (.int .i64 S.w) ∧ w'.cell? ⟨g2, 6, none⟩ = some (.int .i64 S.u) ∧ w'.cell? ⟨g2, 7, none⟩ = some (.string o) ∧ w'.cell? ⟨g2, 8, none⟩ = some (.slice A2 n k2) :=
  ⟨h.U.c0, h.U.c1, h.U.c2, h.U.c3, h.U.c4, h.U.c5, h.U.c6, h.U.c7, h.U.c8, h.V.c0, h.V.c1, h.V.c2, h.V.c3, h.V.c4, h.V.c5, h.V.c6, h.V.c7, h.V.c8⟩

set_option maxRecDepth 100000 in
set_option maxHeartbeats 8000000 in
theorem SegLays_of (S : Sg) (o : ByteArray) (A : Option Addr) (n c : Nat) (xs : List Int) (s d : ByteArray) (w : World) (hS : SgI S) (h : Bts w A n c xs) (hs : s.size ≤ 140737488351232) (hd : d.size ≤ 140737488351232) :
    Calls Try.prog 3 #[.agg #[.int .i64 S.p, .int .i64 S.q, .int .i64 S.s, .int .i64 S.a, .int .i64 S.f, .int .i64 S.w, .int .i64 S.u, .string o, .slice A n c], .string s, .string d] w fun e w' => e = .returned (.bool true) ∧ Below w.heap.size w w' := by
  go_enter Try.func3, Try.ntmps3
  go_wp2_with fail
  refine (law06_few S o A n c xs _ (h.below (below_alloc (Below.refl _ _) _))).mono ?_
  rintro e w1 ⟨rfl, hB1⟩
  have h0 := h
  have U := (Sb.new w S o A n c).below hB1
  have hB := below_step2 (w := w) (below_alloc (Below.refl _ _) _) hB1
  replace h := h.below hB
  have hgg : w.heap.size < w1.heap.size := below_size_lt hB1
  obtain ⟨g, hg⟩ : ∃ g, w.heap.size = g := ⟨_, rfl⟩
  rw [hg] at U hgg
  clear hB1
  cases hf : fewS o.size n
  · clear h U
    go_wp2
    go_ret
    exact ⟨rfl, hB⟩
  by_cases q2 : 300 < s.size + d.size
  · have d2 : decide ((300 : Int) < (s.size : Int) + (d.size : Int)) = true := decide_eq_true (by omega)
    clear h U
    go_wp2
    go_ret
    exact ⟨rfl, hB⟩
  have d2 : decide ((300 : Int) < (s.size : Int) + (d.size : Int)) = false := decide_eq_false (by omega)
  have hnn : n ≤ 70000 := by unfold fewS at hf; have := of_decide_eq_true hf; omega
  clear hf
  have uc0 := U.c0
  have uc1 := U.c1
  have uc2 := U.c2
  have uc3 := U.c3
  have uc4 := U.c4
  have uc5 := U.c5
  have uc6 := U.c6
  have uc7 := U.c7
  have uc8 := U.c8
  rw [hg]
  have V := Sb.new w1 S o A n c
  replace U := U.alloc (.cells #[.int .i64 S.p, .int .i64 S.q, .int .i64 S.s, .int .i64 S.a, .int .i64 S.f, .int .i64 S.w, .int .i64 S.u, .string o, .slice A n c] 24)
  replace h := h.alloc (.cells #[.int .i64 S.p, .int .i64 S.q, .int .i64 S.s, .int .i64 S.a, .int .i64 S.f, .int .i64 S.w, .int .i64 S.u, .string o, .slice A n c] 24)
  replace hB := below_alloc hB (.cells #[.int .i64 S.p, .int .i64 S.q, .int .i64 S.s, .int .i64 S.a, .int .i64 S.f, .int .i64 S.w, .int .i64 S.u, .string o, .slice A n c] 24)
  go_wp2_with fail
  refine (ref01_Both _ _ _ [xs] _ (Rws.one _ _ _ (by simp) h) (by simp; have := h.len; omega)).mono ?_
  rintro e w2 ⟨v2, rfl, o2, hB2⟩
  clear uc0 uc1 uc2 uc3 uc4 uc5 uc6 uc7 uc8
  simp only [List.flatten_cons, List.flatten_nil, List.append_nil] at o2
  replace hB2 := below_lit hB2
  replace U := U.below hB2
  replace V := V.below hB2
  replace h := h.below hB2
  replace hB := below_step2 hB hB2
  clear hB2
  obtain ⟨A2, n2, k2, rfl, t2⟩ := o2.bts
  obtain rfl : n = n2 := by have := t2.len; have := h.len; omega
  clear t2
  obtain ⟨g2, hg2⟩ : ∃ g, w1.heap.size = g := ⟨_, rfl⟩
  rw [hg2] at V hgg ⊢
  have V2 := V.data A2 n k2
  have U2 := U.far (p := ⟨g2, 8, none⟩) (by simp; omega) (.slice A2 n k2)
  have t2 := (o2.far (p := ⟨g2, 8, none⟩) (by simp at *; omega) (.slice A2 n k2)).sl
  replace hB := below_set hB (p := ⟨g2, 8, none⟩) (by simp; omega) (.slice A2 n k2)
  have f2 := V.f 8
  have a2 := V.c8
  have vc0 := V2.c0
  have vc1 := V2.c1
  have vc2 := V2.c2
  have vc3 := V2.c3
  have vc4 := V2.c4
  have vc5 := V2.c5
  have vc6 := V2.c6
  have vc7 := V2.c7
  have vc8 := V2.c8
  clear o2 V U h
  go_wp2_with fail
  generalize w2.setCell ⟨g2, 8, none⟩ (.slice A2 n k2) = w3 at V2 U2 hB t2 ⊢
  clear f2 a2 vc0 vc1 vc2 vc3 vc4 vc5 vc6 vc7 vc8
  refine (seg_Bytes S o A2 n k2 xs s d w3 hS hs hd t2).mono ?_
  rintro e w4 ⟨A4, n4, k4, rfl, o4, hB4⟩
  replace hB := below_step2 hB hB4
  have M : KL w w4 g g2 S o A n c A2 k2 xs A4 n4 k4 _ := ⟨U2.below hB4, V2.below hB4, h0.below hB, t2.below hB4, o4.sl, hB⟩
  clear hB4 hB t2 U2 V2 o4
  generalize hE : sgLayErr S o.size n s.size d.size = E at M ⊢
  have mc0 := M.U.c0
  have mc1 := M.U.c1
  have mc2 := M.U.c2
  have mc3 := M.U.c3
  have mc4 := M.U.c4
  have mc5 := M.U.c5
  have mc6 := M.U.c6
  have mc7 := M.U.c7
  have mc8 := M.U.c8
  go_wp2_with fail
  refine (ref06_Check S o A n c xs w4 M.H).mono ?_
  rintro e w5 ⟨rfl, hB5⟩
  replace M := Lib.hid (M.step hB5)
  clear hB5 mc0 mc1 mc2 mc3 mc4 mc5 mc6 mc7 mc8
  have MD := Lib.hid (M.out.step (below_drew (Below.refl _ _)))
  obtain ⟨F, hF⟩ : ∃ F, sgErr S o.size n = F := ⟨_, rfl⟩
  obtain ⟨L, hL⟩ : ∃ L, lenS S.f n = L := ⟨_, rfl⟩
  have N1 := Lib.hid (fun W hW => seg_Check S o A2 n k2 xs W hS hW)
  have N2 := Lib.hid (fun W hW h2 => ref06_Same S o A2 n k2 A n c xs W hW h2)
  have N3 := Lib.hid (fun W => seg_Length S o A2 n k2 W (by omega))
  have N4 := Lib.hid (fun W => ref06_Length S o A n c W (by omega))
  rw [hF] at N1 ⊢
  rw [hL] at N3 N4
  have b1 : (F != F) = false := by simp
  have b2 : (L != L) = false := by simp
  go_wp2_with fail
  go_region_held3 (fun w' => w'.cell? ⟨g, 0, none⟩ = some (.int .i64 S.p) ∧ w'.cell? ⟨g, 1, none⟩ = some (.int .i64 S.q) ∧ w'.cell? ⟨g, 2, none⟩ = some (.int .i64 S.s) ∧ w'.cell? ⟨g, 3, none⟩ = some (.int .i64 S.a) ∧ w'.cell? ⟨g, 4, none⟩ = some (.int .i64 S.f) ∧ w'.cell? ⟨g, 5, none⟩ = some (.int .i64 S.w) ∧ w'.cell? ⟨g, 6, none⟩ = some (.int .i64 S.u) ∧ w'.cell? ⟨g, 7, none⟩ = some (.string o) ∧ w'.cell? ⟨g, 8, none⟩ = some (.slice A n c) ∧ w'.cell? ⟨g2, 0, none⟩ = some (.int .i64 S.p) ∧ w'.cell? ⟨g2, 1, none⟩ = some (.int .i64 S.q) ∧ w'.cell? ⟨g2, 2, none⟩ = some (.int .i64 S.s) ∧ w'.cell? ⟨g2, 3, none⟩ = some (.int .i64 S.a) ∧ w'.cell? ⟨g2, 4, none⟩ = some (.int .i64 S.f) ∧ w'.cell? ⟨g2, 5, none⟩ = some (.int .i64 S.w) ∧ w'.cell? ⟨g2, 6, none⟩ = some (.int .i64 S.u) ∧ w'.cell? ⟨g2, 7, none⟩ = some (.string o) ∧ w'.cell? ⟨g2, 8, none⟩ = some (.slice A2 n k2))
    ((refine KL.cs (w0 := w) (xs := xs) (A4 := A4) (n4 := n4) (k4 := k4) (ys := (if E = 0 then sgBytes S (bytesOf o) xs (bytesOf s) (bytesOf d) else [])) ?_; first | with_reducible exact M9.out | with_reducible exact M8.out | with_reducible exact M7.out | with_reducible exact M6.out | with_reducible exact MD.out))
    (first
      | (go_at_call 12
         refine (N1.out _ MD.out.T).mono ?_
         rintro e w6 ⟨rfl, hB6⟩
         have M6 := Lib.hid (MD.out.step hB6)
         clear hB6)
      | (go_at_call 13
         refine (N2.out _ M6.out.T M6.out.H).mono ?_
         rintro e w7 ⟨rfl, hB7⟩
         have M7 := Lib.hid (M6.out.step hB7)
         clear hB7)
      | (go_at_call 14
         refine (N3.out _).mono ?_
         rintro e w8 ⟨rfl, hB8⟩
         have M8 := Lib.hid (M7.out.step hB8)
         clear hB8)
      | (go_at_call 15
         refine (N4.out _).mono ?_
         rintro e w9 ⟨rfl, hB9⟩
         have M9 := Lib.hid (M8.out.step hB9)
         clear hB9))
  clear N1 N2 N3 N4 b1 b2 hL M MD M6 M7 M8
  obtain ⟨sz, hsz⟩ : ∃ sz, s.size = sz := ⟨_, rfl⟩
  obtain ⟨dz, hdz⟩ : ∃ dz, d.size = dz := ⟨_, rfl⟩
  by_cases hp : pairOk sz dz
  case neg =>
    have hE1 : E = 1 := by rw [← hE, hsz, hdz]; exact if_pos hp
    subst hE1
    have ho := M9.out.O
    rw [if_neg (by decide)] at ho
    obtain rfl : n4 = 0 := by have := ho.len; simpa using this.symm
    clear ho hE
    have B9 := Lib.hid M9.out.B
    clear M9
    unfold pairOk at hp
    by_cases h1 : sz = dz
    · subst h1
      have k1 : ((sz : Int) != (sz : Int)) = false := by simp
      have k2 : ((sz : Int) != 4) = true := bne_iff_ne.mpr (by omega)
      have k3 : ((sz : Int) != 16) = true := bne_iff_ne.mpr (by omega)
      clear hp
      go_wp2_with fail
      refine (awake06 _).mono ?_
      rintro e w10 ⟨rfl, hB10⟩
      replace hB10 := below_step2 B9.out (below_step2 (by repeat (first | exact Below.refl _ _ | apply below_drew | apply pw_below_drewN)) hB10)
      go_wp2
      go_ret
      exact ⟨rfl, hB10⟩
    · have k1 : ((sz : Int) != (dz : Int)) = true := bne_iff_ne.mpr (by omega)
      clear hp
      go_wp2_with fail
      refine (awake06 _).mono ?_
      rintro e w10 ⟨rfl, hB10⟩
      replace hB10 := below_step2 B9.out (below_step2 (by repeat (first | exact Below.refl _ _ | apply below_drew | apply pw_below_drewN)) hB10)
      go_wp2
      go_ret
      exact ⟨rfl, hB10⟩
  have hEF : E = F := by rw [← hE, ← hF, hsz, hdz]; exact if_neg (fun q => q hp)
  subst hEF
  obtain rfl : sz = dz := hp.1
  have k1 : ((sz : Int) != (sz : Int)) = false := by simp
  have hp' : pairOk s.size d.size := by rw [hsz, hdz]; exact hp
  replace hp' := Lib.hid hp'
  by_cases k4 : sz = 4
  · have k2 : ((sz : Int) != 4) = false := by rw [k4]; decide
    clear k4 hp
    by_cases h00 : E = 0
    · subst h00
      obtain ⟨_, hk, hn⟩ := sgLayErr_zero.1 hE
      have MD := Lib.hid (M9.out.step (below_drew (Below.refl _ _)))
      clear hE hF M9
      go_wp2_with fail
      go_region_with (first
        | (go_at_call 17
           refine (ref06_Bytes S o A n c xs s d _ hs hd M11.out.H hp'.out hk hn).mono ?_
           rintro e w12 ⟨v12, rfl, o12, hB12⟩
           have M12 := Lib.hid (M11.out.step hB12)
           have j12 := M12.out.O.run_string (P := Try.prog) 22 9 Try.underlying22 Try.underlying5 Try.underlying9
           obtain ⟨A12, n12, c12, rfl, t12⟩ := o12.bts
           have k12 := t12.run_string (P := Try.prog) 22 9 Try.underlying22 Try.underlying5 Try.underlying9
           clear hB12 o12 t12)
        | (go_at_call 16
           refine (awake06 _).mono ?_
           rintro e w11 ⟨rfl, hB11⟩
           have M11 := Lib.hid (MD.out.step hB11)
           have y0 := M11.out.U.c0
           have y1 := M11.out.U.c1
           have y2 := M11.out.U.c2
           have y3 := M11.out.U.c3
           have y4 := M11.out.U.c4
           have y5 := M11.out.U.c5
           have y6 := M11.out.U.c6
           have y7 := M11.out.U.c7
           have y8 := M11.out.U.c8
           have j11 := M11.out.O.run_string (P := Try.prog) 22 9 Try.underlying22 Try.underlying5 Try.underlying9
           clear hB11))
      all_goals
        go_wp2
        go_ret
        exact ⟨rfl, M12.out.B⟩
    · have e0 : (E != 0) = true := bne_iff_ne.mpr h00
      have ho := M9.out.O
      rw [if_neg h00] at ho
      obtain rfl : n4 = 0 := by have := ho.len; simpa using this.symm
      clear ho hE hF h00
      have B9 := Lib.hid M9.out.B
      clear M9
      go_wp2_with fail
      refine (awake06 _).mono ?_
      rintro e w10 ⟨rfl, hB10⟩
      replace hB10 := below_step2 B9.out (below_step2 (by repeat (first | exact Below.refl _ _ | apply below_drew | apply pw_below_drewN)) hB10)
      go_wp2
      go_ret
      exact ⟨rfl, hB10⟩
  · have k2 : ((sz : Int) != 4) = true := bne_iff_ne.mpr (by omega)
    have k5 : sz = 16 := by unfold pairOk at hp; omega
    have k3 : ((sz : Int) != 16) = false := by rw [k5]; decide
    clear k4 k5 hp
    by_cases h00 : E = 0
    · subst h00
      obtain ⟨_, hk, hn⟩ := sgLayErr_zero.1 hE
      have MD := Lib.hid (M9.out.step (below_drew (Below.refl _ _)))
      clear hE hF M9
      go_wp2_with fail
      go_region_with (first
        | (go_at_call 17
           refine (ref06_Bytes S o A n c xs s d _ hs hd M11.out.H hp'.out hk hn).mono ?_
           rintro e w12 ⟨v12, rfl, o12, hB12⟩
           have M12 := Lib.hid (M11.out.step hB12)
           have j12 := M12.out.O.run_string (P := Try.prog) 22 9 Try.underlying22 Try.underlying5 Try.underlying9
           obtain ⟨A12, n12, c12, rfl, t12⟩ := o12.bts
           have k12 := t12.run_string (P := Try.prog) 22 9 Try.underlying22 Try.underlying5 Try.underlying9
           clear hB12 o12 t12)
        | (go_at_call 16
           refine (awake06 _).mono ?_
           rintro e w11 ⟨rfl, hB11⟩
           have M11 := Lib.hid (MD.out.step hB11)
           have y0 := M11.out.U.c0
           have y1 := M11.out.U.c1
           have y2 := M11.out.U.c2
           have y3 := M11.out.U.c3
           have y4 := M11.out.U.c4
           have y5 := M11.out.U.c5
           have y6 := M11.out.U.c6
           have y7 := M11.out.U.c7
           have y8 := M11.out.U.c8
           have j11 := M11.out.O.run_string (P := Try.prog) 22 9 Try.underlying22 Try.underlying5 Try.underlying9
           clear hB11))
      all_goals
        go_wp2
        go_ret
        exact ⟨rfl, M12.out.B⟩
    · have e0 : (E != 0) = true := bne_iff_ne.mpr h00
      have ho := M9.out.O
      rw [if_neg h00] at ho
      obtain rfl : n4 = 0 := by have := ho.len; simpa using this.symm
      clear ho hE hF h00
      have B9 := Lib.hid M9.out.B
      clear M9
      go_wp2_with fail
      refine (awake06 _).mono ?_
      rintro e w10 ⟨rfl, hB10⟩
      replace hB10 := below_step2 B9.out (below_step2 (by repeat (first | exact Below.refl _ _ | apply below_drew | apply pw_below_drewN)) hB10)
      go_wp2
      go_ret
      exact ⟨rfl, hB10⟩
theorem SegLays_any (p q z a f v u : Int) (o : ByteArray) (A : Option Addr) (n c : Nat) (xs : List Int) (s d : ByteArray) (w : World) (hp : I64 p) (hq : I64 q) (hz : I64 z) (ha : I64 a) (hf : I64 f) (hv : I64 v) (hu : I64 u) (_ho : o.size ≤ 140737488351232) (h : Bts w A n c xs) (hs : s.size ≤ 140737488351232) (hd : d.size ≤ 140737488351232) :
    Calls Try.prog 3 #[.agg #[.int .i64 p, .int .i64 q, .int .i64 z, .int .i64 a, .int .i64 f, .int .i64 v, .int .i64 u, .string o, .slice A n c], .string s, .string d] w fun e w' => e = .returned (.bool true) ∧ Below w.heap.size w w' :=
  SegLays_of ⟨p, q, z, a, f, v, u⟩ o A n c xs s d w ⟨hp, hq, hz, ha, hf, hv, hu⟩ h hs hd
end Go.Proofs.Ytljdkfgnoalgpaa

/- The reference's Bytes of a segment. Conditions: those that each lemma states. -/
import Derived.Test.YtljdkfgnoalgpaaCSegC
import Derived.Deep.RegionHeld3
import Derived.Deep.RegionWith
import Derived.Deep.DeepCutAuto
namespace Go.Proofs.Ytljdkfgnoalgpaa
open Go.RowKit Go.Proofs.YtljdkfgnoalgpaaW.PrintWords

theorem Bts.cast {w : World} {A : Option Addr} {n c : Nat} {xs ys : List Int} (h : Bts w A n c xs) (e : xs = ys) : Bts w A n c ys := e ▸ h
theorem Sb.cs6 {w : World} {g : Nat} {S : Sg} {o : ByteArray} {A : Option Addr} {n k : Nat} (h : Sb w g S o A n k) :
    w.cell? ⟨g, 0, none⟩ = some (.int .i64 S.p) ∧ w.cell? ⟨g, 1, none⟩ = some (.int .i64 S.q) ∧ w.cell? ⟨g, 2, none⟩ = some (.int .i64 S.s) ∧ w.cell? ⟨g, 3, none⟩ = some (.int .i64 S.a) ∧ w.cell? ⟨g, 4, none⟩ = some (.int .i64 S.f) ∧ w.cell? ⟨g, 5, none⟩ = some (.int .i64 S.w) :=
  ⟨h.c0, h.c1, h.c2, h.c3, h.c4, h.c5⟩
theorem Sb.cs3 {w : World} {g : Nat} {S : Sg} {o : ByteArray} {A : Option Addr} {n k : Nat} (h : Sb w g S o A n k) :
    w.cell? ⟨g, 6, none⟩ = some (.int .i64 S.u) ∧ w.cell? ⟨g, 7, none⟩ = some (.string o) ∧ w.cell? ⟨g, 8, none⟩ = some (.slice A n k) := ⟨h.c6, h.c7, h.c8⟩
/-- What is kept while a segment is laid down. -/
structure KY (w0 W : World) (g : Nat) (S : Sg) (o : ByteArray) (A : Option Addr) (n k : Nat) (xs : List Int) : Prop where
  G : Sb W g S o A n k
  H : Bts W A n k xs
  B : Below w0.heap.size w0 W
theorem KY.step {w0 W V : World} {g : Nat} {S : Sg} {o : ByteArray} {A : Option Addr} {n k : Nat} {xs : List Int} (h : KY w0 W g S o A n k xs) (hb : Below W.heap.size W V) : KY w0 V g S o A n k xs := ⟨h.G.below hb, h.H.below hb, below_step2 h.B hb⟩
theorem KY.alloc {w0 W : World} {g : Nat} {S : Sg} {o : ByteArray} {A : Option Addr} {n k : Nat} {xs : List Int} (h : KY w0 W g S o A n k xs) (x : Obj) : KY w0 (W.alloc x) g S o A n k xs := h.step (below_alloc (Below.refl _ _) x)
theorem below_lit {w W : World} {o : Obj} (h : Below (w.alloc o).heap.size (w.alloc o) W) : Below w.heap.size w W := below_step2 (below_alloc (Below.refl _ _) o) h
theorem Rws.six (w : World) (g : Nat) (e : TypeId) {A1 A2 A3 A4 A5 A6 : Option Addr} {n1 c1 n2 c2 n3 c3 n4 c4 n5 c5 n6 c6 : Nat} {x1 x2 x3 x4 x5 x6 : List Int} (hg : w.heap.size = g) (h1 : Bts w A1 n1 c1 x1) (h2 : Bts w A2 n2 c2 x2) (h3 : Bts w A3 n3 c3 x3) (h4 : Bts w A4 n4 c4 x4) (h5 : Bts w A5 n5 c5 x5) (h6 : Bts w A6 n6 c6 x6) :
    Rws (w.alloc (.cells #[.slice A1 n1 c1, .slice A2 n2 c2, .slice A3 n3 c3, .slice A4 n4 c4, .slice A5 n5 c5, .slice A6 n6 c6] e)) (some ⟨g, 0, none⟩) 6 6 [x1, x2, x3, x4, x5, x6] :=
  Rws.lit w g e [(.slice A1 n1 c1, x1), (.slice A2 n2 c2, x2), (.slice A3 n3 c3, x3), (.slice A4 n4 c4, x4), (.slice A5 n5 c5, x5), (.slice A6 n6 c6, x6)] hg (by simp) (by
    intro p hp
    simp only [List.mem_cons, List.not_mem_nil, or_false] at hp
    rcases hp with rfl | rfl | rfl | rfl | rfl | rfl
    · exact ⟨_, _, _, rfl, h1⟩
    · exact ⟨_, _, _, rfl, h2⟩
    · exact ⟨_, _, _, rfl, h3⟩
    · exact ⟨_, _, _, rfl, h4⟩
    · exact ⟨_, _, _, rfl, h5⟩
    · exact ⟨_, _, _, rfl, h6⟩)

set_option maxHeartbeats 40000000 in
theorem ref06_Bytes (S : Sg) (o : ByteArray) (A : Option Addr) (n k : Nat) (xs : List Int) (s d : ByteArray) (w : World) (hs : s.size ≤ 140737488351232) (hd : d.size ≤ 140737488351232) (h0 : Bts w A n k xs)
    (hp : pairOk s.size d.size) (hk : sgOk S o.size) (hn : 20 + o.size + n ≤ 65535) :
    Calls Try.prog 17 #[.agg #[.int .i64 S.p, .int .i64 S.q, .int .i64 S.s, .int .i64 S.a, .int .i64 S.f, .int .i64 S.w, .int .i64 S.u, .string o, .slice A n k], .string s, .string d] w fun e w' => ∃ v, e = .returned v ∧ OwnB w' w.heap.size v (sgBytes S (bytesOf o) xs (bytesOf s) (bytesOf d)) ∧ Below w.heap.size w w' := by
  obtain ⟨⟨p0, p1⟩, ⟨q0, q1⟩, ⟨w0, w1⟩, ⟨u0, u1⟩, ⟨s0, s1⟩, ⟨a0, a1⟩, ⟨f0, f1⟩, hm4, hm⟩ := hk
  have Y0 : Hid (KY w (w.alloc (.cells #[.int .i64 S.p, .int .i64 S.q, .int .i64 S.s, .int .i64 S.a, .int .i64 S.f, .int .i64 S.w, .int .i64 S.u, .string o, .slice A n k] 24)) w.heap.size S o A n k xs) := Lib.hid ⟨Sb.new w S o A n k, h0.alloc _, below_alloc (Below.refl _ _) _⟩
  have hxl := Lib.hid h0.len
  clear h0
  obtain ⟨h4, e4⟩ : ∃ h, o.size / 4 = h := ⟨_, rfl⟩
  have t4 : Int.tdiv (o.size : Int) 4 = (h4 : Int) := by rw [tdiv_pos _ _ (by omega)]; omega
  have t4' : (o.size : Int) / 4 = (h4 : Int) := by omega
  obtain ⟨x, hx⟩ : ∃ x : Int, ((16 * (5 + h4) : Nat) : Int) = x := ⟨_, rfl⟩
  have x4 : IntKind.i64.wrap (5 + (h4 : Int)) = 5 + (h4 : Int) := IntWalk.i64_in _ (by omega)
  have x5 : 16 * (5 + (h4 : Int)) = x := by omega
  have x6 : IntKind.i64.wrap x = x := IntWalk.i64_in _ (by omega)
  have x7 : IntKind.u8.wrap x = x := IntWalk.u8_in _ (by omega)
  have x8 : IntKind.u8.wrap S.f = S.f := IntWalk.u8_in _ (by omega)
  have hb2 : Byt [x, S.f] := by simp only [byt_cons]; exact ⟨by omega, by omega, byt_nil⟩
  have hlen : [sgTwo S.u, bytesOf o, xs].flatten.length ≤ 140737488355328 := by simp [sgTwo, bytesOf_length, hxl.out]; omega
  have hlen2 : [sgHead S o.size, [0, 0], sgBack S (bytesOf o) xs].flatten.length ≤ 140737488355328 := by simp [sgHead, sgBack, bytesOf_length, hxl.out]; omega
  have hlen3 : ∀ x y : Int, [sgHead S o.size, [x, y], sgBack S (bytesOf o) xs].flatten.length ≤ 140737488355328 := by intro x y; simp [sgHead, sgBack, bytesOf_length, hxl.out]; omega
  have hback : [sgTwo S.u, bytesOf o, xs].flatten = sgBack S (bytesOf o) xs := by simp [sgTwo, sgBack]
  have hrows : [sgTwo S.p, sgTwo S.q, sgFour S.s, sgFour S.a, [x, S.f], sgTwo S.w].flatten = sgHead S o.size := by
    subst hx e4
    rfl
  go_enter Try.func17, Try.ntmps17
  go_upto_region 2 with (fail)
  generalize w.alloc (.cells #[.int .i64 S.p, .int .i64 S.q, .int .i64 S.s, .int .i64 S.a, .int .i64 S.f, .int .i64 S.w, .int .i64 S.u, .string o, .slice A n k] 24) = V at Y0 ⊢
  obtain ⟨g, hg⟩ : ∃ g, w.heap.size = g := ⟨_, rfl⟩
  rw [hg] at Y0 ⊢
  go_cut [8] (fun v wx => ∃ A7 n7 c7, v = .slice A7 n7 c7 ∧ Hid (Bts wx A7 n7 c7 (sgHead S o.size)) ∧ Hid (KY w wx g S o A n k xs))
  case first =>
    have Y := Lib.hid (Y0.out.step (below_drew (Below.refl _ _)))
    go_region_held3 (fun w' => w'.cell? ⟨g, 0, none⟩ = some (.int .i64 S.p) ∧ w'.cell? ⟨g, 1, none⟩ = some (.int .i64 S.q) ∧ w'.cell? ⟨g, 2, none⟩ = some (.int .i64 S.s) ∧ w'.cell? ⟨g, 3, none⟩ = some (.int .i64 S.a) ∧ w'.cell? ⟨g, 4, none⟩ = some (.int .i64 S.f) ∧ w'.cell? ⟨g, 5, none⟩ = some (.int .i64 S.w))
      ((refine Sb.cs6 (o := o) (A := A) (n := n) (k := k) ?_; first | with_reducible exact Y.out.G | with_reducible exact (Y.out.alloc _).G | with_reducible exact ((Y.out.alloc _).alloc _).G | with_reducible exact (((Y0.out.alloc _).step (below_drew (Below.refl _ _)))).G))
      (first
        | (go_at_call 29
           with_reducible refine (ref01_Two S.w _ w0 w1).mono ?_
           rintro e V6 ⟨v6, rfl, o6, hB2⟩
           obtain ⟨A6, n6, c6, rfl, t6⟩ := o6.bts
           replace t6 := Lib.hid t6
           first
           | (with_reducible replace Y := Lib.hid (Y.out.step hB2)
              replace t1 := Lib.hid (t1.out.below hB2)
              replace t2 := Lib.hid (t2.out.below hB2)
              replace t3 := Lib.hid (t3.out.below hB2)
              replace t4 := Lib.hid (t4.out.below hB2)
              (first | (with_reducible replace T := Lib.hid (T.out.below hB2)) | skip))
           | (have hq := below_lit hB2
              with_reducible replace Y := Lib.hid (Y.out.step hq)
              replace t1 := Lib.hid (t1.out.below hq)
              replace t2 := Lib.hid (t2.out.below hq)
              replace t3 := Lib.hid (t3.out.below hq)
              replace t4 := Lib.hid (t4.out.below hq)
              have T := Lib.hid ((Bts.lit_at _ _ 5 [x, S.f] rfl hb2 (by simp)).below hB2)
              clear hq)
           clear hB2 o6)
        | (go_at_call 30
           with_reducible refine (ref01_Four S.a _ a0 a1).mono ?_
           rintro e V4 ⟨v4, rfl, o4, hB2⟩
           obtain ⟨A4, n4, c4, rfl, t4⟩ := o4.bts
           replace t4 := Lib.hid t4
           first
           | (with_reducible replace Y := Lib.hid (Y.out.step hB2)
              replace t1 := Lib.hid (t1.out.below hB2)
              replace t2 := Lib.hid (t2.out.below hB2)
              replace t3 := Lib.hid (t3.out.below hB2)
              (first | (with_reducible replace T := Lib.hid (T.out.below hB2)) | skip))
           | (have hq := below_lit hB2
              with_reducible replace Y := Lib.hid (Y.out.step hq)
              replace t1 := Lib.hid (t1.out.below hq)
              replace t2 := Lib.hid (t2.out.below hq)
              replace t3 := Lib.hid (t3.out.below hq)
              have T := Lib.hid ((Bts.lit_at _ _ 5 [x, S.f] rfl hb2 (by simp)).below hB2)
              clear hq)
           clear hB2 o4)
        | (go_at_call 30
           with_reducible refine (ref01_Four S.s _ s0 s1).mono ?_
           rintro e V3 ⟨v3, rfl, o3, hB2⟩
           obtain ⟨A3, n3, c3, rfl, t3⟩ := o3.bts
           replace t3 := Lib.hid t3
           first
           | (with_reducible replace Y := Lib.hid (Y.out.step hB2)
              replace t1 := Lib.hid (t1.out.below hB2)
              replace t2 := Lib.hid (t2.out.below hB2)
              (first | (with_reducible replace T := Lib.hid (T.out.below hB2)) | skip))
           | (have hq := below_lit hB2
              with_reducible replace Y := Lib.hid (Y.out.step hq)
              replace t1 := Lib.hid (t1.out.below hq)
              replace t2 := Lib.hid (t2.out.below hq)
              have T := Lib.hid ((Bts.lit_at _ _ 5 [x, S.f] rfl hb2 (by simp)).below hB2)
              clear hq)
           clear hB2 o3)
        | (go_at_call 29
           with_reducible refine (ref01_Two S.q _ q0 q1).mono ?_
           rintro e V2 ⟨v2, rfl, o2, hB2⟩
           obtain ⟨A2, n2, c2, rfl, t2⟩ := o2.bts
           replace t2 := Lib.hid t2
           first
           | (with_reducible replace Y := Lib.hid (Y.out.step hB2)
              replace t1 := Lib.hid (t1.out.below hB2)
              (first | (with_reducible replace T := Lib.hid (T.out.below hB2)) | skip))
           | (have hq := below_lit hB2
              with_reducible replace Y := Lib.hid (Y.out.step hq)
              replace t1 := Lib.hid (t1.out.below hq)
              have T := Lib.hid ((Bts.lit_at _ _ 5 [x, S.f] rfl hb2 (by simp)).below hB2)
              clear hq)
           clear hB2 o2)
        | (go_at_call 29
           with_reducible refine (ref01_Two S.p _ p0 p1).mono ?_
           rintro e V1 ⟨v1, rfl, o1, hB2⟩
           obtain ⟨A1, n1, c1, rfl, t1⟩ := o1.bts
           replace t1 := Lib.hid t1
           first
           | (with_reducible replace Y := Lib.hid (Y.out.step hB2)
              (first | (with_reducible replace T := Lib.hid (T.out.below hB2)) | skip))
           | (have hq := below_lit hB2
              with_reducible replace Y := Lib.hid (Y.out.step hq)
              have T := Lib.hid ((Bts.lit_at _ _ 5 [x, S.f] rfl hb2 (by simp)).below hB2)
              clear hq)
           | (have hq := below_step2 (below_drew (below_alloc (Below.refl _ _) _)) hB2
              replace Y := Lib.hid (Y0.out.step hq)
              have T := Lib.hid (((Bts.lit_at _ _ 5 [x, S.f] rfl hb2 (by simp)).drew).below hB2)
              clear hq)
           clear hB2 o1)
        | (go_at_call 9
           refine (ref01_Both _ _ _ [sgTwo S.p, sgTwo S.q, sgFour S.s, sgFour S.a, [x, S.f], sgTwo S.w] _ (Rws.six _ _ 22 rfl t1.out t2.out t3.out t4.out T.out t6.out) (by simp [sgTwo, sgFour])).mono ?_
           rintro e V7 ⟨v7, rfl, o7, hB2⟩
           obtain ⟨A7, n7, c7, rfl, t7⟩ := o7.bts
           rw [hrows] at t7
           replace t7 := Lib.hid t7
           replace Y := Lib.hid (Y.out.step (below_lit hB2))
           clear hB2 o7)
        | (go_at_call 9
           refine (ref01_Both _ _ _ [sgTwo S.p, sgTwo S.q, sgFour S.s, sgFour S.a, [x, S.f], sgTwo S.w] _ (Rws.six _ _ 22 (by simp) (t1.out.alloc _) (t2.out.alloc _) (t3.out.alloc _) (t4.out.alloc _) (Bts.lit_at _ _ 5 [x, S.f] rfl hb2 (by simp)) (t6.out.alloc _)) (by simp [sgTwo, sgFour])).mono ?_
           rintro e V7 ⟨v7, rfl, o7, hB2⟩
           obtain ⟨A7, n7, c7, rfl, t7⟩ := o7.bts
           rw [hrows] at t7
           replace t7 := Lib.hid t7
           replace Y := Lib.hid (Y.out.step (below_lit (below_lit hB2)))
           clear hB2 o7))
    all_goals
      go_wp2_with fail
      go_meet
      case rel => exact ⟨_, _, _, rfl, t7, Y⟩
  case rest =>
    clear Y0 hb2 x4 x5 x6 x7 x8 t4 t4' hx hrows
    obtain ⟨A7, n7, c7, rfl, t7, Y0⟩ := hcut
    generalize wc = V3 at t7 Y0 ⊢
    go_upto_region 3 with (fail)
    go_cut [9] (fun v wx => ∃ A9 n9 c9, v = .slice A9 n9 c9 ∧ Hid (Bts wx A9 n9 c9 (sgBack S (bytesOf o) xs)) ∧ Hid (Bts wx A7 n7 c7 (sgHead S o.size)) ∧ Hid (KY w wx g S o A n k xs))
    case first =>
      have ho : o.size ≤ 140737488351232 := by omega
      have kb := fun (W : World) => print_bytes (P := Try.prog) 9 22 5 Try.underlying9 Try.underlying22 Try.underlying5 o W
      have c6 := Y0.out.G.c6
      have c7' := Y0.out.G.c7
      have c8 := Y0.out.G.c8
      have sb := below_string (below_drew (Below.refl V3.heap.size V3)) 5 o
      have Yd := Y0.out.step (below_drew (Below.refl _ _))
      have Ys := Y0.out.step sb
      have d6 := Ys.G.c6
      have d8 := Ys.G.c8
      have OBs := Lib.hid (Bts.of_string V3.drew V3.heap.size 5 o rfl ho)
      have t7' := t7
      replace t7 := Lib.hid (t7.out.below sb)
      go_region_held (fun w' => w'.cell? ⟨g, 6, none⟩ = some (.int .i64 S.u) ∧ w'.cell? ⟨g, 7, none⟩ = some (.string o) ∧ w'.cell? ⟨g, 8, none⟩ = some (.slice A n k))
        ((refine Sb.cs3 (S := S) ?_; first | with_reducible exact Y.out.G | with_reducible exact (Y.out.alloc _).G | with_reducible exact Yd.G | with_reducible exact Ys.G | with_reducible exact YB.out.G | with_reducible exact (Ys.alloc _).G | with_reducible exact (YB.out.alloc _).G))
        (first
        | (go_at_call 29
           refine (ref01_Two S.u _ u0 u1).mono ?_
           rintro e V2 ⟨v2, rfl, o2, hB2⟩
           obtain ⟨A2, n2, c2, rfl, t2⟩ := o2.bts
           replace t2 := Lib.hid t2
           first
           | (have hq : Below V3.heap.size V3 V2 := by with_reducible exact below_step2 (below_drew (Below.refl _ _)) hB2
              have Y := Lib.hid (Y0.out.step hq)
              have t7 := Lib.hid (t7'.out.below hq)
              have e6 := Y.out.G.c6
              have e7 := Y.out.G.c7
              have e8 := Y.out.G.c8
              have OB := Lib.hid (Bts.of_string V2 V2.heap.size 5 o rfl ho)
              have sc := below_string (Below.refl V2.heap.size V2) 5 o
              have t2B := Lib.hid (t2.out.below sc)
              have t7B := Lib.hid (t7.out.below sc)
              have YB := Lib.hid (Y.out.step sc))
           | (have Y := Lib.hid (Ys.step hB2)
              have t7 := Lib.hid (t7.out.below hB2)
              have OB := Lib.hid (OBs.out.below hB2)
              have e8 := Y.out.G.c8)
           clear hB2 o2)
        | (go_at_call 9
           first
           | refine (ref01_Both _ _ _ [sgTwo S.u, bytesOf o, xs] _ (Rws.three (Lib.bytesWorld V2 5 o) (Lib.bytesWorld V2 5 o).heap.size 22 rfl t2B.out OB.out YB.out.H) hlen).mono ?_
             replace t7 := t7B
             replace Y := YB
           | refine (ref01_Both _ _ _ [sgTwo S.u, bytesOf o, xs] _ (Rws.three V2 V2.heap.size 22 rfl t2.out OB.out Y.out.H) hlen).mono ?_
           rintro e V9 ⟨v9, rfl, o9, hB2⟩
           obtain ⟨A9, n9, c9, rfl, t9⟩ := o9.bts
           rw [hback] at t9
           replace t9 := Lib.hid t9
           have t7 := Lib.hid (t7.out.below (below_lit hB2))
           have Y := Lib.hid (Y.out.step (below_lit hB2))
           clear hB2 o9))
      all_goals
        go_wp2_with fail
        go_meet
        case rel => exact ⟨_, _, _, rfl, t9, t7, Y⟩
    case rest =>
      clear Y0 t7
      obtain ⟨A9, n9, c9, rfl, t9, t7, Y0⟩ := hcut
      generalize wc = V4 at t9 t7 Y0 ⊢
      go_wp2_with fail
      refine (ref01_Both _ _ _ [sgHead S o.size, [0, 0], sgBack S (bytesOf o) xs] _ (Rws.three (V4.alloc (.cells #[.int .u8 0, .int .u8 0] 5)) _ 22 (by simp) (t7.out.alloc _) (Bts.lit_at V4 V4.heap.size 5 [0, 0] rfl (by decide) (by simp)) (t9.out.alloc _)) hlen2).mono ?_
      rintro e w4 ⟨v4, rfl, o4, hB4⟩
      obtain ⟨A4, n4, c4, rfl, t4⟩ := o4.bts
      clear o4
      replace t4 : Bts w4 A4 n4 c4 (sgZero S (bytesOf o) xs) := t4.cast (by simp [sgZero, bytesOf_length])
      replace hB4 := below_step2 (w := V4) (below_alloc (below_alloc (Below.refl _ _) _) _) hB4
      have hn4 : n4 = 20 + o.size + n := by have := t4.len; rw [sgZero_len, bytesOf_length, hxl.out] at this; omega
      subst hn4
      replace t7 := Lib.hid (t7.out.below hB4)
      replace t9 := Lib.hid (t9.out.below hB4)
      replace Y0 := Lib.hid (Y0.out.step hB4)
      clear hB4
      go_wp2_with fail
      refine (ref05_Sum 6 s d _ _ _ _ _ hs hd t4 hp hn (by decide) (by decide)).mono ?_
      rintro e w5 ⟨rfl, hB5⟩
      replace t7 := Lib.hid (t7.out.below hB5)
      replace t9 := Lib.hid (t9.out.below hB5)
      replace Y0 := Lib.hid (Y0.out.step hB5)
      clear hB5 t4
      have hD := psSum_bd 6 (sgZero S (bytesOf o) xs) (bytesOf s) (bytesOf d)
      have hC : Hid (sgCheck S (bytesOf o) xs (bytesOf s) (bytesOf d) = 65535 - psSum 6 (sgZero S (bytesOf o) xs) (bytesOf s) (bytesOf d)) := Lib.hid rfl
      generalize psSum 6 (sgZero S (bytesOf o) xs) (bytesOf s) (bytesOf d) = D at hD hC ⊢
      have hw : IntKind.i64.wrap (65535 - D) = 65535 - D := IntWalk.i64_in _ (by omega)
      go_wp2_with fail
      refine (ref01_Two _ _ (by omega) (by omega)).mono ?_
      rintro e w6 ⟨v6, rfl, o6, hB6⟩
      obtain ⟨A6, n6, c6, rfl, t6⟩ := o6.bts
      replace t7 := Lib.hid (t7.out.below hB6)
      replace t9 := Lib.hid (t9.out.below hB6)
      replace Y0 := Lib.hid (Y0.out.step hB6)
      clear hB6 o6
      go_wp2_with fail
      refine (ref01_Both _ _ _ [sgHead S o.size, [(65535 - D) / 256, (65535 - D) % 256], sgBack S (bytesOf o) xs] _ (Rws.three w6 w6.heap.size 22 rfl t7.out t6 t9.out) (hlen3 _ _)).mono ?_
      rintro e w7 ⟨v7, rfl, o7, hB7⟩
      have hgs : w.heap.size ≤ w6.heap.size := Y0.out.B.size
      have o7 := Lib.hid (o7.lower (base' := w.heap.size) (by rw [World.size_alloc]; omega))
      have B7 := Lib.hid (below_step2 Y0.out.B (below_lit hB7))
      clear hB7 t7 t9 Y0 t6
      go_wp2
      go_ret
      refine ⟨_, rfl, ?_, B7.out⟩
      have q := o7.out
      simp only [List.flatten_cons, List.flatten_nil, List.append_nil, ← List.append_assoc] at q
      unfold sgBytes
      rw [hC.out, bytesOf_length]
      simpa using q
end Go.Proofs.Ytljdkfgnoalgpaa

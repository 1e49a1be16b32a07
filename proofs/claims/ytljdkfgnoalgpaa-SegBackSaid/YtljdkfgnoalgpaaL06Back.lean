/- SegBack holds: what is laid down is read as itself; what is read is laid down as the same bytes, but for the check. Conditions: none beside the row's own reach. -/
import Derived.Test.YtljdkfgnoalgpaaAwake06
import Derived.Deep.RegionHeld3
namespace Go.Proofs.Ytljdkfgnoalgpaa
open Go.RowKit Go.Proofs.YtljdkfgnoalgpaaW.PrintWords

theorem getD_set_self (l : List Int) (i : Nat) (v : Int) (h : i < l.length) : (l.set i v).getD i 0 = v := by
  simp [List.getD_eq_getElem?_getD, h]
theorem getD_set_ne (l : List Int) (i j : Nat) (v : Int) (h : i ≠ j) : (l.set i v).getD j 0 = l.getD j 0 := by
  simp [List.getD_eq_getElem?_getD, List.getElem?_set_ne h]
theorem sgOpt_byt {bs : List Int} (h : Byt bs) : Byt (sgOpt bs) := fun x hx => h x (List.mem_of_mem_drop (List.mem_of_mem_take hx))
theorem sgOk_i64 {S : Sg} {m : Nat} (h : sgOk S m) : SgI S := by
  unfold sgOk at h
  unfold SgI I64
  omega
theorem str_bytesOf (o : ByteArray) : strOfNums (bytesOf o) = o := by
  have h := bytesOf_str (bytesOf o) (byt_bytesOf o)
  have e : (strOfNums (bytesOf o)).data.toList = o.data.toList := (List.map_inj_right (fun x y e => UInt8.toNat_inj.1 (Int.ofNat.inj e))).1 h
  cases o with
  | mk q => exact congrArg ByteArray.mk (Array.toList_inj.1 e)

set_option maxRecDepth 100000 in
set_option maxHeartbeats 8000000 in
theorem SegBack_of (S : Sg) (o : ByteArray) (A : Option Addr) (n c : Nat) (xs : List Int) (B : Option Addr) (m cb : Nat) (bs : List Int) (s d : ByteArray) (w : World) (hS : SgI S) (h : Bts w A n c xs) (hb : Bts w B m cb bs) (hs : s.size ≤ 140737488351232) (hd : d.size ≤ 140737488351232) :
    Calls Try.prog 6 #[.agg #[.int .i64 S.p, .int .i64 S.q, .int .i64 S.s, .int .i64 S.a, .int .i64 S.f, .int .i64 S.w, .int .i64 S.u, .string o, .slice A n c], .slice B m cb, .string s, .string d] w fun e w' => e = .returned (.bool true) ∧ Below w.heap.size w w' := by
  go_enter Try.func6, Try.ntmps6
  go_wp2_with fail
  refine (law06_few S o A n c xs _ (h.below (below_alloc (Below.refl _ _) _))).mono ?_
  rintro e w1 ⟨rfl, hB1⟩
  have U := (Sb.new w S o A n c).below hB1
  have hB := below_step2 (w := w) (below_alloc (Below.refl _ _) _) hB1
  replace h := h.below hB
  replace hb := hb.below hB
  obtain ⟨g, hg⟩ : ∃ g, w.heap.size = g := ⟨_, rfl⟩
  rw [hg] at U
  clear hB1
  cases hf : fewS o.size n
  · clear h hb U
    go_wp2
    go_ret
    exact ⟨rfl, hB⟩
  by_cases q1 : 3000 < m
  · have d1 : decide ((3000 : Int) < (m : Int)) = true := decide_eq_true (by omega)
    clear h hb U
    go_wp2
    go_ret
    exact ⟨rfl, hB⟩
  have d1 : decide ((3000 : Int) < (m : Int)) = false := decide_eq_false (by omega)
  by_cases q2 : 300 < s.size + d.size
  · have d2 : decide ((300 : Int) < (s.size : Int) + (d.size : Int)) = true := decide_eq_true (by omega)
    clear h hb U
    go_wp2
    go_ret
    exact ⟨rfl, hB⟩
  have d2 : decide ((300 : Int) < (s.size : Int) + (d.size : Int)) = false := decide_eq_false (by omega)
  clear hf
  have uc0 := U.c0
  have uc1 := U.c1
  have uc2 := U.c2
  have uc3 := U.c3
  have uc4 := U.c4
  have uc5 := U.c5
  have uc6 := U.c6
  have uc7 := U.c7
  have uc8 := U.c8
  rw [hg]
  go_wp2_with fail
  -- MARK1
  refine (seg_Bytes S o A n c xs s d w1 hS hs hd h).mono ?_
  rintro e w2 ⟨A2, n2, k2, rfl, o2, hB2⟩
  replace U := U.below hB2
  replace h := h.below hB2
  replace hb := hb.below hB2
  replace hB := below_step2 hB hB2
  clear hB2 uc0 uc1 uc2 uc3 uc4 uc5 uc6 uc7 uc8
  by_cases hE : sgLayErr S o.size n s.size d.size = 0
  case neg =>
    have e0 : (sgLayErr S o.size n s.size d.size == 0) = false := beq_eq_false_iff_ne.mpr hE
    generalize sgLayErr S o.size n s.size d.size = E at e0 o2 ⊢
    clear hE o2 h U hS
    go_wp2_with fail
    refine (seg_Parse B m cb bs s d w2 hs hd hb).mono ?_
    intro e w5 hp
    obtain ⟨S5, o5, A5, n5, c5, z5, rfl, t5, hB5, eS, eo, ez⟩ := hp.view
    clear hp
    have D5 := Sb.new w5 S5 o5 A5 n5 c5
    replace hB5 := hB5.alloc hB5.size (.cells #[.int .i64 S5.p, .int .i64 S5.q, .int .i64 S5.s, .int .i64 S5.a, .int .i64 S5.f, .int .i64 S5.w, .int .i64 S5.u, .string o5, .slice A5 n5 c5] 24)
    replace t5 := t5.alloc (.cells #[.int .i64 S5.p, .int .i64 S5.q, .int .i64 S5.s, .int .i64 S5.a, .int .i64 S5.f, .int .i64 S5.w, .int .i64 S5.u, .string o5, .slice A5 n5 c5] 24)
    replace hb := hb.below hB5
    replace hB := below_step2 hB hB5
    clear hB5
    by_cases hP : sgPErr bs (bytesOf s) (bytesOf d) = 0
    case neg =>
      rw [if_neg hP] at eS eo ez
      subst eS eo ez
      have e1 : (sgPErr bs (bytesOf s) (bytesOf d) != 0) = true := bne_iff_ne.mpr hP
      generalize sgPErr bs (bytesOf s) (bytesOf d) = E at e1 ⊢
      clear hP hb
      go_wp2_with fail
      obtain ⟨g5, hg5⟩ : ∃ g, w5.heap.size = g := ⟨_, rfl⟩
      rw [hg5] at D5 ⊢
      generalize hw6 : World.alloc _ _ = w6
      replace D5 : Sb w6 g5 sgZ (strOfNums []) A5 n5 c5 := by rw [← hw6]; exact D5
      replace t5 : Bts w6 A5 n5 c5 [] := by rw [← hw6]; exact t5
      replace hB : Below w.heap.size w w6 := by rw [← hw6]; exact hB
      clear hw6 hg5
      refine (awake06 _).mono ?_
      rintro e w7 ⟨rfl, hB7⟩
      replace D5 := D5.below hB7
      replace t5 := t5.below hB7
      replace hB := below_step2 hB hB7
      clear hB7
      have a0 := D5.c0
      have a1 := D5.c1
      have a2 := D5.c2
      have a3 := D5.c3
      have a4 := D5.c4
      have a5 := D5.c5
      have a6 := D5.c6
      have a7 := D5.c7
      have a8 := D5.c8
      go_wp2_with fail
      refine (ref06_Same sgZ (strOfNums []) A5 n5 c5 none 0 0 [] w7 t5 (Bts.nil_ _ _ _ (by omega))).mono ?_
      rintro e w8 ⟨rfl, hB8⟩
      replace hB := below_step2 hB hB8
      clear hB8 D5 t5 a0 a1 a2 a3 a4 a5 a6 a7 a8
      go_wp2
      go_ret
      exact ⟨rfl, hB⟩
    case pos =>
    rw [if_pos hP] at eS eo ez
    have hof := sgBytes_of hb.byt (byt_bytesOf s) (byt_bytesOf d) hP
    rw [hP]
    have hz5 := t5.len
    have ho5 : bytesOf o5 = sgOpt bs := by rw [eo]; exact bytesOf_str _ (sgOpt_byt hb.byt)
    rw [← ho5, ← eS, ← ez, hz5, bytesOf_length, bytesOf_length, bytesOf_length] at hof
    obtain ⟨hL, ck, ck0, ck1, hY, hX⟩ := hof
    have hI5 : SgI S5 := sgOk_i64 (sgLayErr_zero.1 hL).2.1
    have hm20 := (sgPErr_zero hP).2.1
    have hlb := hb.len
    rw [hlb] at hm20
    clear eS eo ez ho5 hz5 hP
    replace hX := Lib.hid hX
    replace hY := Lib.hid hY
    replace hL := Lib.hid hL
    go_wp2_with fail
    obtain ⟨g5, hg5⟩ : ∃ g, w5.heap.size = g := ⟨_, rfl⟩
    rw [hg5] at D5 ⊢
    generalize hw6 : World.alloc _ _ = w6
    replace D5 : Sb w6 g5 S5 o5 A5 n5 c5 := by rw [← hw6]; exact D5
    replace t5 : Bts w6 A5 n5 c5 z5 := by rw [← hw6]; exact t5
    replace hb : Bts w6 B m cb bs := by rw [← hw6]; exact hb
    replace hB : Below w.heap.size w w6 := by rw [← hw6]; exact hB
    clear hw6 hg5
    have a0 := D5.c0
    have a1 := D5.c1
    have a2 := D5.c2
    have a3 := D5.c3
    have a4 := D5.c4
    have a5 := D5.c5
    have a6 := D5.c6
    have a7 := D5.c7
    have a8 := D5.c8
    go_wp2_with fail
    refine (seg_Bytes S5 o5 A5 n5 c5 z5 s d w6 hI5 hs hd t5).mono ?_
    rintro e w7 ⟨A7, n7, c7, rfl, o7, hB7⟩
    rw [hL.out] at o7 ⊢
    rw [if_pos rfl, hY.out] at o7
    have t7 := o7.sl
    replace hb := hb.below hB7
    replace hB := below_step2 hB hB7
    have hn7 := t7.len
    rw [List.length_set, List.length_set, hlb] at hn7
    subst hn7
    clear o7 hB7 D5 t5 hI5 hL hY a0 a1 a2 a3 a4 a5 a6 a7 a8
    have y16 : ((bs.set 16 (ck / 256)).set 17 (ck % 256)).getD 16 0 = ck / 256 := by rw [getD_set_ne _ _ _ _ (by omega)]; exact getD_set_self _ _ _ (by omega)
    have y17 : ((bs.set 16 (ck / 256)).set 17 (ck % 256)).getD 17 0 = ck % 256 := getD_set_self _ _ _ (by rw [List.length_set]; omega)
    have yi : Hid (∀ i, i ≠ 16 → i ≠ 17 → ((bs.set 16 (ck / 256)).set 17 (ck % 256)).getD i 0 = bs.getD i 0) := Lib.hid fun i h1 h2 => by rw [getD_set_ne _ _ _ _ (by omega), getD_set_ne _ _ _ _ (by omega)]
    generalize (bs.set 16 (ck / 256)).set 17 (ck % 256) = ys at t7 y16 y17 yi
    have e20 : decide ((m : Int) < 20) = false := decide_eq_false (by omega)
    have emm : ((m : Int) != (m : Int)) = false := by simp
    have TB := Lib.hid hb
    have TY := Lib.hid t7
    have HB := Lib.hid hB
    replace y16 := Lib.hid y16
    replace y17 := Lib.hid y17
    clear hb t7 hB
    go_wp2
    go_loopw [19] (fun vi wr => ∃ (i : Nat), vi = .int .i64 (i : Int) ∧ i ≤ m ∧ Hid (Below w7.heap.size w7 wr)) (fun vi _ => m - (intOf vi).toNat)
    case atStart => exact ⟨0, rfl, by omega, Lib.hid (Below.refl _ _)⟩
    case round =>
      obtain ⟨i, rfl, hi, HW⟩ := hrel
      by_cases h0 : i < m
      · have i1 : (i : Int) < (m : Int) := by omega
        have i2 : (0 : Int) ≤ (i : Int) := by omega
        obtain ⟨ad, rfl, g1⟩ := (TB.out.below HW.out).at_ i h0
        obtain ⟨ad2, rfl, g2⟩ := (TY.out.below HW.out).at_ i h0
        have HW2 := Lib.hid (below_drew HW.out)
        by_cases q16 : i = 16
        · subst q16
          go_wp2
          go_quiet (fail)
          go_wp2
          exact ⟨⟨17, by go_num, by omega, Lib.hid (pw_below_drewN HW.out nq)⟩, by simp [intOf]; omega⟩
        by_cases q17 : i = 17
        · subst q17
          go_wp2
          go_quiet (fail)
          go_wp2
          exact ⟨⟨18, by go_num, by omega, Lib.hid (pw_below_drewN HW.out nq)⟩, by simp [intOf]; omega⟩
        have d16 : ((i : Int) != 16) = true := bne_iff_ne.mpr (by omega)
        have d17 : ((i : Int) != 17) = true := bne_iff_ne.mpr (by omega)
        have e := yi.out i q16 q17
        rw [e] at g2
        generalize bs.getD i 0 = x at g1 g2
        clear e q16 q17
        go_wp2
        go_region_held3 (fun w' => w'.cell? (ad.add i) = some (.int .u8 x) ∧ w'.cell? (ad2.add i) = some (.int .u8 x)) (exact ⟨g1, g2⟩) (fail)
        clear g1 g2
        go_wp2
        refine ⟨⟨i + 1, by go_num, by omega, HW2⟩, by simp [intOf]; omega⟩
      · obtain rfl : i = m := by omega
        have tb := TB.out.below HW.out
        have ty := TY.out.below HW.out
        have hB := below_step2 HB.out HW.out
        have kx := byt_get tb.byt 16
        have ky := byt_get tb.byt 17
        obtain ⟨ad, rfl, aa⟩ := tb.some_ (by omega)
        obtain ⟨ad2, rfl, bb⟩ := ty.some_ (by omega)
        have a16 : wr.cell? { block := ad.block, off := ad.off + 16 } = some (.int .u8 (bs.getD 16 0)) := cell_add (aa 16 (by omega)) (by omega)
        have a17 : wr.cell? { block := ad.block, off := ad.off + 17 } = some (.int .u8 (bs.getD 17 0)) := cell_add (aa 17 (by omega)) (by omega)
        have b16 : wr.cell? { block := ad2.block, off := ad2.off + 16 } = some (.int .u8 (ck / 256)) := by rw [← y16.out]; exact cell_add (bb 16 (by omega)) (by omega)
        have b17 : wr.cell? { block := ad2.block, off := ad2.off + 17 } = some (.int .u8 (ck % 256)) := by rw [← y17.out]; exact cell_add (bb 17 (by omega)) (by omega)
        have hX := hX.out
        generalize bs.getD 16 0 = x at a16 kx hX
        generalize bs.getD 17 0 = y at a17 ky hX
        generalize hc1 : ck / 256 = z1 at b16
        generalize hc2 : ck % 256 = z2 at b17
        have hz1 : 0 ≤ z1 ∧ z1 ≤ 255 := by omega
        have hz2 : 0 ≤ z2 ∧ z2 ≤ 255 := by omega
        have hck : ck = 256 * z1 + z2 := by omega
        subst hck
        have u1 : IntKind.i64.wrap x = x := IntWalk.i64_in _ (by omega)
        have u2 : IntKind.i64.wrap y = y := IntWalk.i64_in _ (by omega)
        have u3 : IntKind.i64.wrap (256 * x) = 256 * x := IntWalk.i64_in _ (by omega)
        have v1 : IntKind.i64.wrap z1 = z1 := IntWalk.i64_in _ (by omega)
        have v2 : IntKind.i64.wrap z2 = z2 := IntWalk.i64_in _ (by omega)
        have v3 : IntKind.i64.wrap (256 * z1) = 256 * z1 := IntWalk.i64_in _ (by omega)
        obtain ⟨X, hXX⟩ : ∃ X, 256 * x + y = X := ⟨_, rfl⟩
        obtain ⟨Y, hYY⟩ : ∃ Y, 256 * z1 + z2 = Y := ⟨_, rfl⟩
        have rX : 0 ≤ X ∧ X ≤ 65535 := by omega
        have rY : 0 ≤ Y ∧ Y ≤ 65535 := by omega
        have u4 : IntKind.i64.wrap (256 * x + y) = X := (IntWalk.i64_in _ (by omega)).trans hXX
        have v4 : IntKind.i64.wrap (256 * z1 + z2) = Y := (IntWalk.i64_in _ (by omega)).trans hYY
        rw [hXX, hYY] at hX
        have i16 : (16 : Int) < (i : Int) := by omega
        have i17 : (17 : Int) < (i : Int) := by omega
        have w4 : IntKind.i64.wrap (X + Y) = X + Y := IntWalk.i64_in _ (by omega)
        have tX : Int.tmod X 65535 = X % 65535 := Int.tmod_eq_emod_of_nonneg (by omega)
        have fin : (X == Y) = true ∨ ((X == Y) = false ∧ (X + Y == 65535) = true ∧ X % 65535 = 0) := by
          by_cases q : X = Y
          · exact .inl (beq_iff_eq.mpr q)
          · rcases hX with hX | hX
            · exact absurd hX q
            · exact .inr ⟨beq_eq_false_iff_ne.mpr q, beq_iff_eq.mpr hX.1, hX.2⟩
        have wX : IntKind.i64.wrap (X % 65535) = X % 65535 := IntWalk.i64_in _ (by omega)
        clear kx ky hX hXX hYY aa bb tb ty hc1 hc2 hz1 hz2 rX rY ck0 ck1 hm20
        rcases fin with q | ⟨q1, q2, q3⟩
        all_goals
          go_wp2
          go_quiet (fail)
          go_wp2
          go_quiet (fail)
          go_wp2_with fail
          refine (awake06 _).mono ?_
          rintro e w9 ⟨rfl, hB9⟩
          replace hB := below_step2 (pw_below_drewN hB _) hB9
          clear hB9
          go_wp2
          go_ret
          exact ⟨rfl, hB⟩
  case pos =>
  obtain ⟨hp, hk, hn20⟩ := sgLayErr_zero.1 hE
  rw [hE] at o2 ⊢
  rw [if_pos rfl] at o2
  have t2 := o2.sl
  clear o2
  have hp' : pairOk (bytesOf s).length (bytesOf d).length := by rw [bytesOf_length, bytesOf_length]; exact hp
  have hk' : sgOk S (bytesOf o).length := by rw [bytesOf_length]; exact hk
  have hE1 := Lib.hid (sgBytes_err S (bytesOf o) xs (bytesOf s) (bytesOf d) hk' (byt_bytesOf o) h.byt (byt_bytesOf s) (byt_bytesOf d) (by rw [bytesOf_length, h.len]; exact hn20) hp')
  have hE2 := Lib.hid ((sgPErr_comm (sgBytes S (bytesOf o) xs (bytesOf s) (bytesOf d)) _ _ hp').symm.trans hE1.out)
  have hG := Lib.hid (sgBytes_get S (bytesOf o) xs (bytesOf s) (bytesOf d) hk').1
  have hO := Lib.hid (sgBytes_opt S (bytesOf o) xs (bytesOf s) (bytesOf d) hk')
  clear hp hk hn20 hp' hk' hE hS
  generalize sgBytes S (bytesOf o) xs (bytesOf s) (bytesOf d) = gs at t2 hE1 hE2 hG hO
  go_wp2_with fail
  refine (seg_Parse A2 n2 k2 gs s d w2 hs hd t2).mono ?_
  intro e w3 hp
  obtain ⟨S3, o3, A3, n3, c3, z3, rfl, t3, hB3, eS, eo, ez⟩ := hp.view
  clear hp
  rw [if_pos hE1.out] at eS eo ez
  rw [hG.out] at eS
  rw [hO.out.1, str_bytesOf] at eo
  rw [hO.out.2] at ez
  subst eS eo ez
  rw [hE1.out]
  have D3 := Sb.new w3 S3 o3 A3 n3 c3
  replace hB3 := hB3.alloc hB3.size (.cells #[.int .i64 S3.p, .int .i64 S3.q, .int .i64 S3.s, .int .i64 S3.a, .int .i64 S3.f, .int .i64 S3.w, .int .i64 S3.u, .string o3, .slice A3 n3 c3] 24)
  replace t3 := t3.alloc (.cells #[.int .i64 S3.p, .int .i64 S3.q, .int .i64 S3.s, .int .i64 S3.a, .int .i64 S3.f, .int .i64 S3.w, .int .i64 S3.u, .string o3, .slice A3 n3 c3] 24)
  replace U := U.below hB3
  replace h := h.below hB3
  replace hb := hb.below hB3
  replace t2 := t2.below hB3
  replace hB := below_step2 hB hB3
  clear hB3 hE1
  go_wp2_with fail
  -- MARK2
  obtain ⟨g3, hg3⟩ : ∃ g, w3.heap.size = g := ⟨_, rfl⟩
  rw [hg3] at D3 ⊢
  generalize hw : World.alloc _ _ = w3'
  replace D3 : Sb w3' g3 S3 o3 A3 n3 c3 := by rw [← hw]; exact D3
  replace t3 : Bts w3' A3 n3 c3 z3 := by rw [← hw]; exact t3
  replace U : Sb w3' g S3 o3 A n c := by rw [← hw]; exact U
  replace h : Bts w3' A n c z3 := by rw [← hw]; exact h
  replace hb : Bts w3' B m cb bs := by rw [← hw]; exact hb
  replace t2 : Bts w3' A2 n2 k2 gs := by rw [← hw]; exact t2
  replace hB : Below w.heap.size w w3' := by rw [← hw]; exact hB
  clear hw hg3
  refine (seg_Parse A2 n2 k2 gs d s w3' hd hs t2).mono ?_
  intro e w4 hp
  obtain ⟨S4, o4, A4, n4, c4, z4, rfl, t4, hB4, eS, eo, ez⟩ := hp.view
  clear hp t2
  rw [if_pos hE2.out] at eS eo ez
  rw [hG.out] at eS
  rw [hO.out.1, str_bytesOf] at eo
  rw [hO.out.2] at ez
  subst eS eo ez
  rw [hE2.out]
  have D4 := Sb.new w4 S4 o4 A4 n4 c4
  replace hB4 := hB4.alloc hB4.size (.cells #[.int .i64 S4.p, .int .i64 S4.q, .int .i64 S4.s, .int .i64 S4.a, .int .i64 S4.f, .int .i64 S4.w, .int .i64 S4.u, .string o4, .slice A4 n4 c4] 24)
  replace t4 := t4.alloc (.cells #[.int .i64 S4.p, .int .i64 S4.q, .int .i64 S4.s, .int .i64 S4.a, .int .i64 S4.f, .int .i64 S4.w, .int .i64 S4.u, .string o4, .slice A4 n4 c4] 24)
  replace U := U.below hB4
  replace h := h.below hB4
  replace hb := hb.below hB4
  replace D3 := D3.below hB4
  replace t3 := t3.below hB4
  replace hB := below_step2 hB hB4
  clear hB4 hE2 hG hO
  have uc0 := U.c0
  have uc1 := U.c1
  have uc2 := U.c2
  have uc3 := U.c3
  have uc4 := U.c4
  have uc5 := U.c5
  have uc6 := U.c6
  have uc7 := U.c7
  have uc8 := U.c8
  have b0 := D3.c0
  have b1 := D3.c1
  have b2 := D3.c2
  have b3 := D3.c3
  have b4 := D3.c4
  have b5 := D3.c5
  have b6 := D3.c6
  have b7 := D3.c7
  have b8 := D3.c8
  go_wp2_with fail
  clear uc0 uc1 uc2 uc3 uc4 uc5 uc6 uc7 uc8 b0 b1 b2 b3 b4 b5 b6 b7 b8
  obtain ⟨g4, hg4⟩ : ∃ g, w4.heap.size = g := ⟨_, rfl⟩
  rw [hg4] at D4 ⊢
  generalize hw : World.alloc _ _ = w4'
  replace D4 : Sb w4' g4 S4 o4 A4 n4 c4 := by rw [← hw]; exact D4
  replace t4 : Bts w4' A4 n4 c4 z4 := by rw [← hw]; exact t4
  replace D3 : Sb w4' g3 S4 o4 A3 n3 c3 := by rw [← hw]; exact D3
  replace t3 : Bts w4' A3 n3 c3 z4 := by rw [← hw]; exact t3
  replace U : Sb w4' g S4 o4 A n c := by rw [← hw]; exact U
  replace h : Bts w4' A n c z4 := by rw [← hw]; exact h
  replace hb : Bts w4' B m cb bs := by rw [← hw]; exact hb
  replace hB : Below w.heap.size w w4' := by rw [← hw]; exact hB
  clear hw hg4
  -- MARK3
  refine (ref06_Same S4 o4 A n c A3 n3 c3 z4 w4' h t3).mono ?_
  rintro e w6 ⟨rfl, hB6⟩
  replace U := U.below hB6
  replace h := h.below hB6
  replace hb := hb.below hB6
  replace D4 := D4.below hB6
  replace t4 := t4.below hB6
  replace hB := below_step2 hB hB6
  clear hB6 D3 t3
  have uc0 := U.c0
  have uc1 := U.c1
  have uc2 := U.c2
  have uc3 := U.c3
  have uc4 := U.c4
  have uc5 := U.c5
  have uc6 := U.c6
  have uc7 := U.c7
  have uc8 := U.c8
  have b0 := D4.c0
  have b1 := D4.c1
  have b2 := D4.c2
  have b3 := D4.c3
  have b4 := D4.c4
  have b5 := D4.c5
  have b6 := D4.c6
  have b7 := D4.c7
  have b8 := D4.c8
  go_wp2_with fail
  refine (ref06_Same S4 o4 A n c A4 n4 c4 z4 w6 h t4).mono ?_
  rintro e w8 ⟨rfl, hB8⟩
  replace hb := hb.below hB8
  replace hB := below_step2 hB hB8
  clear hB8 uc0 uc1 uc2 uc3 uc4 uc5 uc6 uc7 uc8 b0 b1 b2 b3 b4 b5 b6 b7 b8 D4 t4 U h
  go_wp2_with fail
  refine (seg_Parse B m cb bs s d w8 hs hd hb).mono ?_
  intro e w5 hp
  obtain ⟨S5, o5, A5, n5, c5, z5, rfl, t5, hB5, eS, eo, ez⟩ := hp.view
  clear hp
  have D5 := Sb.new w5 S5 o5 A5 n5 c5
  replace hB5 := hB5.alloc hB5.size (.cells #[.int .i64 S5.p, .int .i64 S5.q, .int .i64 S5.s, .int .i64 S5.a, .int .i64 S5.f, .int .i64 S5.w, .int .i64 S5.u, .string o5, .slice A5 n5 c5] 24)
  replace t5 := t5.alloc (.cells #[.int .i64 S5.p, .int .i64 S5.q, .int .i64 S5.s, .int .i64 S5.a, .int .i64 S5.f, .int .i64 S5.w, .int .i64 S5.u, .string o5, .slice A5 n5 c5] 24)
  replace hb := hb.below hB5
  replace hB := below_step2 hB hB5
  clear hB5
  by_cases hP : sgPErr bs (bytesOf s) (bytesOf d) = 0
  case neg =>
    rw [if_neg hP] at eS eo ez
    subst eS eo ez
    have e1 : (sgPErr bs (bytesOf s) (bytesOf d) != 0) = true := bne_iff_ne.mpr hP
    generalize sgPErr bs (bytesOf s) (bytesOf d) = E at e1 ⊢
    clear hP hb
    go_wp2_with fail
    obtain ⟨g5, hg5⟩ : ∃ g, w5.heap.size = g := ⟨_, rfl⟩
    rw [hg5] at D5 ⊢
    generalize hw6 : World.alloc _ _ = w6
    replace D5 : Sb w6 g5 sgZ (strOfNums []) A5 n5 c5 := by rw [← hw6]; exact D5
    replace t5 : Bts w6 A5 n5 c5 [] := by rw [← hw6]; exact t5
    replace hB : Below w.heap.size w w6 := by rw [← hw6]; exact hB
    clear hw6 hg5
    refine (awake06 _).mono ?_
    rintro e w7 ⟨rfl, hB7⟩
    replace D5 := D5.below hB7
    replace t5 := t5.below hB7
    replace hB := below_step2 hB hB7
    clear hB7
    have a0 := D5.c0
    have a1 := D5.c1
    have a2 := D5.c2
    have a3 := D5.c3
    have a4 := D5.c4
    have a5 := D5.c5
    have a6 := D5.c6
    have a7 := D5.c7
    have a8 := D5.c8
    go_wp2_with fail
    refine (ref06_Same sgZ (strOfNums []) A5 n5 c5 none 0 0 [] w7 t5 (Bts.nil_ _ _ _ (by omega))).mono ?_
    rintro e w8 ⟨rfl, hB8⟩
    replace hB := below_step2 hB hB8
    clear hB8 D5 t5 a0 a1 a2 a3 a4 a5 a6 a7 a8
    go_wp2
    go_ret
    exact ⟨rfl, hB⟩
  case pos =>
  rw [if_pos hP] at eS eo ez
  have hof := sgBytes_of hb.byt (byt_bytesOf s) (byt_bytesOf d) hP
  rw [hP]
  have hz5 := t5.len
  have ho5 : bytesOf o5 = sgOpt bs := by rw [eo]; exact bytesOf_str _ (sgOpt_byt hb.byt)
  rw [← ho5, ← eS, ← ez, hz5, bytesOf_length, bytesOf_length, bytesOf_length] at hof
  obtain ⟨hL, ck, ck0, ck1, hY, hX⟩ := hof
  have hI5 : SgI S5 := sgOk_i64 (sgLayErr_zero.1 hL).2.1
  have hm20 := (sgPErr_zero hP).2.1
  have hlb := hb.len
  rw [hlb] at hm20
  clear eS eo ez ho5 hz5 hP
  replace hX := Lib.hid hX
  replace hY := Lib.hid hY
  replace hL := Lib.hid hL
  go_wp2_with fail
  obtain ⟨g5, hg5⟩ : ∃ g, w5.heap.size = g := ⟨_, rfl⟩
  rw [hg5] at D5 ⊢
  generalize hw6 : World.alloc _ _ = w6
  replace D5 : Sb w6 g5 S5 o5 A5 n5 c5 := by rw [← hw6]; exact D5
  replace t5 : Bts w6 A5 n5 c5 z5 := by rw [← hw6]; exact t5
  replace hb : Bts w6 B m cb bs := by rw [← hw6]; exact hb
  replace hB : Below w.heap.size w w6 := by rw [← hw6]; exact hB
  clear hw6 hg5
  have a0 := D5.c0
  have a1 := D5.c1
  have a2 := D5.c2
  have a3 := D5.c3
  have a4 := D5.c4
  have a5 := D5.c5
  have a6 := D5.c6
  have a7 := D5.c7
  have a8 := D5.c8
  go_wp2_with fail
  refine (seg_Bytes S5 o5 A5 n5 c5 z5 s d w6 hI5 hs hd t5).mono ?_
  rintro e w7 ⟨A7, n7, c7, rfl, o7, hB7⟩
  rw [hL.out] at o7 ⊢
  rw [if_pos rfl, hY.out] at o7
  have t7 := o7.sl
  replace hb := hb.below hB7
  replace hB := below_step2 hB hB7
  have hn7 := t7.len
  rw [List.length_set, List.length_set, hlb] at hn7
  subst hn7
  clear o7 hB7 D5 t5 hI5 hL hY a0 a1 a2 a3 a4 a5 a6 a7 a8
  have y16 : ((bs.set 16 (ck / 256)).set 17 (ck % 256)).getD 16 0 = ck / 256 := by rw [getD_set_ne _ _ _ _ (by omega)]; exact getD_set_self _ _ _ (by omega)
  have y17 : ((bs.set 16 (ck / 256)).set 17 (ck % 256)).getD 17 0 = ck % 256 := getD_set_self _ _ _ (by rw [List.length_set]; omega)
  have yi : Hid (∀ i, i ≠ 16 → i ≠ 17 → ((bs.set 16 (ck / 256)).set 17 (ck % 256)).getD i 0 = bs.getD i 0) := Lib.hid fun i h1 h2 => by rw [getD_set_ne _ _ _ _ (by omega), getD_set_ne _ _ _ _ (by omega)]
  generalize (bs.set 16 (ck / 256)).set 17 (ck % 256) = ys at t7 y16 y17 yi
  have e20 : decide ((m : Int) < 20) = false := decide_eq_false (by omega)
  have emm : ((m : Int) != (m : Int)) = false := by simp
  have TB := Lib.hid hb
  have TY := Lib.hid t7
  have HB := Lib.hid hB
  replace y16 := Lib.hid y16
  replace y17 := Lib.hid y17
  clear hb t7 hB
  go_wp2
  go_loopw [19] (fun vi wr => ∃ (i : Nat), vi = .int .i64 (i : Int) ∧ i ≤ m ∧ Hid (Below w7.heap.size w7 wr)) (fun vi _ => m - (intOf vi).toNat)
  case atStart => exact ⟨0, rfl, by omega, Lib.hid (Below.refl _ _)⟩
  case round =>
    obtain ⟨i, rfl, hi, HW⟩ := hrel
    by_cases h0 : i < m
    · have i1 : (i : Int) < (m : Int) := by omega
      have i2 : (0 : Int) ≤ (i : Int) := by omega
      obtain ⟨ad, rfl, g1⟩ := (TB.out.below HW.out).at_ i h0
      obtain ⟨ad2, rfl, g2⟩ := (TY.out.below HW.out).at_ i h0
      have HW2 := Lib.hid (below_drew HW.out)
      by_cases q16 : i = 16
      · subst q16
        go_wp2
        go_quiet (fail)
        go_wp2
        exact ⟨⟨17, by go_num, by omega, Lib.hid (pw_below_drewN HW.out nq)⟩, by simp [intOf]; omega⟩
      by_cases q17 : i = 17
      · subst q17
        go_wp2
        go_quiet (fail)
        go_wp2
        exact ⟨⟨18, by go_num, by omega, Lib.hid (pw_below_drewN HW.out nq)⟩, by simp [intOf]; omega⟩
      have d16 : ((i : Int) != 16) = true := bne_iff_ne.mpr (by omega)
      have d17 : ((i : Int) != 17) = true := bne_iff_ne.mpr (by omega)
      have e := yi.out i q16 q17
      rw [e] at g2
      generalize bs.getD i 0 = x at g1 g2
      clear e q16 q17
      go_wp2
      go_region_held3 (fun w' => w'.cell? (ad.add i) = some (.int .u8 x) ∧ w'.cell? (ad2.add i) = some (.int .u8 x)) (exact ⟨g1, g2⟩) (fail)
      clear g1 g2
      go_wp2
      refine ⟨⟨i + 1, by go_num, by omega, HW2⟩, by simp [intOf]; omega⟩
    · obtain rfl : i = m := by omega
      have tb := TB.out.below HW.out
      have ty := TY.out.below HW.out
      have hB := below_step2 HB.out HW.out
      have kx := byt_get tb.byt 16
      have ky := byt_get tb.byt 17
      obtain ⟨ad, rfl, aa⟩ := tb.some_ (by omega)
      obtain ⟨ad2, rfl, bb⟩ := ty.some_ (by omega)
      have a16 : wr.cell? { block := ad.block, off := ad.off + 16 } = some (.int .u8 (bs.getD 16 0)) := cell_add (aa 16 (by omega)) (by omega)
      have a17 : wr.cell? { block := ad.block, off := ad.off + 17 } = some (.int .u8 (bs.getD 17 0)) := cell_add (aa 17 (by omega)) (by omega)
      have b16 : wr.cell? { block := ad2.block, off := ad2.off + 16 } = some (.int .u8 (ck / 256)) := by rw [← y16.out]; exact cell_add (bb 16 (by omega)) (by omega)
      have b17 : wr.cell? { block := ad2.block, off := ad2.off + 17 } = some (.int .u8 (ck % 256)) := by rw [← y17.out]; exact cell_add (bb 17 (by omega)) (by omega)
      have hX := hX.out
      generalize bs.getD 16 0 = x at a16 kx hX
      generalize bs.getD 17 0 = y at a17 ky hX
      generalize hc1 : ck / 256 = z1 at b16
      generalize hc2 : ck % 256 = z2 at b17
      have hz1 : 0 ≤ z1 ∧ z1 ≤ 255 := by omega
      have hz2 : 0 ≤ z2 ∧ z2 ≤ 255 := by omega
      have hck : ck = 256 * z1 + z2 := by omega
      subst hck
      have u1 : IntKind.i64.wrap x = x := IntWalk.i64_in _ (by omega)
      have u2 : IntKind.i64.wrap y = y := IntWalk.i64_in _ (by omega)
      have u3 : IntKind.i64.wrap (256 * x) = 256 * x := IntWalk.i64_in _ (by omega)
      have v1 : IntKind.i64.wrap z1 = z1 := IntWalk.i64_in _ (by omega)
      have v2 : IntKind.i64.wrap z2 = z2 := IntWalk.i64_in _ (by omega)
      have v3 : IntKind.i64.wrap (256 * z1) = 256 * z1 := IntWalk.i64_in _ (by omega)
      obtain ⟨X, hXX⟩ : ∃ X, 256 * x + y = X := ⟨_, rfl⟩
      obtain ⟨Y, hYY⟩ : ∃ Y, 256 * z1 + z2 = Y := ⟨_, rfl⟩
      have rX : 0 ≤ X ∧ X ≤ 65535 := by omega
      have rY : 0 ≤ Y ∧ Y ≤ 65535 := by omega
      have u4 : IntKind.i64.wrap (256 * x + y) = X := (IntWalk.i64_in _ (by omega)).trans hXX
      have v4 : IntKind.i64.wrap (256 * z1 + z2) = Y := (IntWalk.i64_in _ (by omega)).trans hYY
      rw [hXX, hYY] at hX
      have i16 : (16 : Int) < (i : Int) := by omega
      have i17 : (17 : Int) < (i : Int) := by omega
      have w4 : IntKind.i64.wrap (X + Y) = X + Y := IntWalk.i64_in _ (by omega)
      have tX : Int.tmod X 65535 = X % 65535 := Int.tmod_eq_emod_of_nonneg (by omega)
      have fin : (X == Y) = true ∨ ((X == Y) = false ∧ (X + Y == 65535) = true ∧ X % 65535 = 0) := by
        by_cases q : X = Y
        · exact .inl (beq_iff_eq.mpr q)
        · rcases hX with hX | hX
          · exact absurd hX q
          · exact .inr ⟨beq_eq_false_iff_ne.mpr q, beq_iff_eq.mpr hX.1, hX.2⟩
      have wX : IntKind.i64.wrap (X % 65535) = X % 65535 := IntWalk.i64_in _ (by omega)
      clear kx ky hX hXX hYY aa bb tb ty hc1 hc2 hz1 hz2 rX rY ck0 ck1 hm20
      rcases fin with q | ⟨q1, q2, q3⟩
      all_goals
        go_wp2
        go_quiet (fail)
        go_wp2
        go_quiet (fail)
        go_wp2_with fail
        refine (awake06 _).mono ?_
        rintro e w9 ⟨rfl, hB9⟩
        replace hB := below_step2 (pw_below_drewN hB _) hB9
        clear hB9
        go_wp2
        go_ret
        exact ⟨rfl, hB⟩
theorem SegBack_any (p q z a f v u : Int) (o : ByteArray) (A : Option Addr) (n c : Nat) (xs : List Int) (B : Option Addr) (m cb : Nat) (bs : List Int) (s d : ByteArray) (w : World) (hp : I64 p) (hq : I64 q) (hz : I64 z) (ha : I64 a) (hf : I64 f) (hv : I64 v) (hu : I64 u) (_ho : o.size ≤ 140737488351232) (h : Bts w A n c xs) (hb : Bts w B m cb bs) (hs : s.size ≤ 140737488351232) (hd : d.size ≤ 140737488351232) :
    Calls Try.prog 6 #[.agg #[.int .i64 p, .int .i64 q, .int .i64 z, .int .i64 a, .int .i64 f, .int .i64 v, .int .i64 u, .string o, .slice A n c], .slice B m cb, .string s, .string d] w fun e w' => e = .returned (.bool true) ∧ Below w.heap.size w w' :=
  SegBack_of ⟨p, q, z, a, f, v, u⟩ o A n c xs B m cb bs s d w ⟨hp, hq, hz, ha, hf, hv, hu⟩ h hb hs hd
end Go.Proofs.Ytljdkfgnoalgpaa

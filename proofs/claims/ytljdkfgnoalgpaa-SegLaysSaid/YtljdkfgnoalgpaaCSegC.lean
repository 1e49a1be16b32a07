/- Contracts of two in place, of Offer, of the sum, of a segment's bytes. Conditions: each argument is of its Go type. -/
import Derived.Test.YtljdkfgnoalgpaaCSegB
import Derived.Test.YtljdkfgnoalgpaaCConcat
namespace Go.Proofs.Ytljdkfgnoalgpaa
open Go.RowKit Go.Proofs.YtljdkfgnoalgpaaW.PrintWords

/-- Two bytes are written over a row's 17th and 18th. -/
theorem Row8.two {P : Program} {w : World} {base g n c : Nat} {xs : List Int} (R : Row8 w base g n c xs) (hn : 18 ≤ n) (t ty : TypeId) (ht : P.underlying t = some (.slice 5)) (hinfo : (P.info? 5).map (fun i => (i.zero, i.size, i.bytes)) = some (some (.int .u8 0), 1, 1))
    (ad : Addr) (k : Nat) (x y : Int) (K : Bts w (some ad) 2 k [x, y]) :
    ∃ w1, (Builtin.append_ #[t, t] ty #[.slice (some ⟨g, 0, none⟩) 16 c, .slice (some ad) 2 k]).run P w = .ok (.slice (some ⟨g, 0, none⟩) 18 c) w1 ∧ Row8 w1 base g n c ((xs.set 16 x).set 17 y) ∧ w.grownBy w1 (some g) := by
  obtain ⟨i0, hi, hzz⟩ := Option.map_eq_some_iff.1 hinfo
  simp only [Prod.mk.injEq] at hzz
  obtain ⟨_, hz1, _⟩ := hzz
  rcases R.own.2 with ⟨h, _⟩ | ⟨g', cap', cur, h, hbg, hg, hnc, hcm, hcs, htake⟩
  · simp at h
  simp only [Value.slice.injEq, Option.some.injEq, Addr.mk.injEq, and_true, true_and] at h
  obtain ⟨rfl, rfl⟩ := h
  rw [Nat.mul_one] at hcs htake
  have hl := R.len
  have hcells : ∀ j u, (nums .u8 [x, y])[j]? = some u → w.cell? (ad.add j) = some u := by
    intro j u hu
    obtain ⟨ad', h', hc⟩ := K.rd.2.2 (by omega)
    injection h' with h'
    subst h'
    match j, hu with
    | 0, hu => have := hc 0 (by omega); simp [nums] at hu; subst hu; simpa using this
    | 1, hu => have := hc 1 (by omega); simp [nums] at hu; subst hu; simpa using this
    | j + 2, hu => simp [nums] at hu
  have hr := run_append_room (P := P) w t ty 5 i0 ht hi g 16 c cur hg ad 2 k (nums .u8 [x, y]) (by simp [nums, hz1]) hcells (by intro u hu; simp only [nums, List.mem_map] at hu; obtain ⟨q, _, rfl⟩ := hu; rfl) (by omega) (by rw [hz1, hcs]; simp [nums]; omega)
  rw [hz1] at hr
  refine ⟨_, hr, ⟨⟨by simp [nums, hl], .inr ⟨g, c, _, rfl, hbg, setRow_heap w g cur _ _ _ hg, hnc, hcm, ?_, ?_⟩⟩, R.max, byt_set (byt_set R.byt 16 x ?_) 17 y ?_⟩, ⟨rfl, rfl, rfl, by simp [World.setRow], fun j _ hk => setRow_other w g j _ (fun e => hk (by rw [e]))⟩⟩
  · simp [nums, hcs]; omega
  · have e1 : nums .u8 ((xs.set 16 x).set 17 y) = ((cur.toList.take n).set 16 (.int .u8 x)).set 17 (.int .u8 y) := by
      rw [htake]
      simp [nums, List.map_set]
    rw [e1, Nat.mul_one, Nat.mul_one]
    have hcl : cur.toList.length = c := by rw [Array.length_toList]; exact hcs
    generalize cur.toList = L at hcl ⊢
    refine List.ext_getElem? fun j => ?_
    simp only [nums, List.map_cons, List.map_nil, List.length_cons, List.length_nil]
    rw [List.getElem?_take]
    by_cases hj : j < n
    · rw [if_pos hj]
      by_cases h1 : j < 16
      · rw [List.append_assoc, List.getElem?_append_left (by rw [List.length_take]; omega), List.getElem?_take, if_pos h1, List.getElem?_set_ne (by omega), List.getElem?_set_ne (by omega), List.getElem?_take, if_pos hj]
      · rw [List.append_assoc, List.getElem?_append_right (by rw [List.length_take]; omega), List.length_take, Nat.min_eq_left (by omega)]
        by_cases h2 : j = 16
        · subst h2
          rw [List.getElem?_set_ne (by omega), List.getElem?_set_self (by rw [List.length_take]; omega)]
          rfl
        · by_cases h3 : j = 17
          · subst h3
            rw [List.getElem?_set_self (by rw [List.length_set, List.length_take]; omega)]
            rfl
          · rw [List.getElem?_append_right (by simp; omega), List.getElem?_drop, List.getElem?_set_ne (by omega), List.getElem?_set_ne (by omega), List.getElem?_take, if_pos hj]
            congr 1
            simp; omega
    · rw [if_neg hj, List.getElem?_eq_none (by rw [List.length_set, List.length_set, List.length_take]; omega)]
  · have := K.byt x (by simp); omega
  · have := K.byt y (by simp); omega

set_option maxHeartbeats 2000000 in
/-- two, over a row's own bytes. -/
theorem seg_two_at (base g' n c : Nat) (xs : List Int) (g k : Nat) (x : Int) (w0 w : World) (R : Row8 w base g' n c xs) (hn : 18 ≤ n) (hg : w.heap[g]? = some (intsO [x])) (hB : Below base w0 w) :
    Calls Try.prog 25 #[.slice (some ⟨g', 0, none⟩) 16 c, .slice (some ⟨g, 0, none⟩) 1 k] w fun e w' => (∃ v, e = .returned v) ∧ Row8 w' base g' n c ((xs.set 16 (x / 256 % 256)).set 17 (x % 256)) ∧ Below base w0 w' := by
  have R0 := Lib.hid R
  have G := Lib.hid hg
  have HB := Lib.hid hB
  have hgg := R.base_
  clear R hg hB
  go_enter Try.func25, Try.ntmps25
  go_wp2
  go_loopw [0, 9] (fun vo vi wr => (vi = .int .i64 0 ∧ vo = .slice (some ⟨g', 0, none⟩) 16 c ∧ wr = w) ∨ (vi = .int .i64 1 ∧ (∃ v, vo = v) ∧ Hid (Row8 wr base g' n c ((xs.set 16 (x / 256 % 256)).set 17 (x % 256))) ∧ Hid (Below base w0 wr))) (fun _ vi _ => 1 - (intOf vi).toNat)
  case atStart => exact .inl ⟨rfl, rfl, rfl⟩
  case round =>
    rcases hrel with ⟨rfl, rfl, rfl⟩ | ⟨rfl, _, R1, HB1⟩
    · have ci := ints_cell G.out 0 (by simp)
      simp only [List.getD_cons_zero] at ci
      have K := Bts.lit_at wr wr.heap.size 5 [x / 256 % 256, x % 256] rfl (by simp only [byt_cons]; exact ⟨by omega, by omega, byt_nil⟩) (by simp)
      have R2 := R0.out.below (below_alloc (Below.refl _ _) (.cells (nums .u8 [x / 256 % 256, x % 256]).toArray 5))
      obtain ⟨w1, hr, R3, hgr⟩ := R2.two (P := Try.prog) hn 22 22 Try.underlying22 Try.info5 _ _ _ _ K
      have HB3 := Lib.hid ((below_alloc (Below.refl _ wr) (.cells (nums .u8 [x / 256 % 256, x % 256]).toArray 5)))
      have HB4 : Hid (Below base w0 w1) := Lib.hid (by
        have hb := HB.out
        have hlt := R0.out.lt
        refine ⟨hgr.os.trans (HB3.out.os.trans hb.os), hgr.tape.trans (HB3.out.tape.trans hb.tape), hgr.output.trans (HB3.out.output.trans hb.output), Nat.le_trans hb.size (Nat.le_trans HB3.out.size hgr.size), fun j hj => ?_⟩
        refine ((hgr.block j (by have := HB3.out.size; omega) (fun e => by injection e with e; omega)).trans (HB3.out.block j (by omega))).trans (hb.block j hj))
      replace hr := Lib.hid hr
      replace R3 := Lib.hid R3
      clear K R2 hgr HB3
      go_wp2_with (at_builtin; refine Lib.wpList_append_run _ rfl _ _ _ _ rfl _ _ rfl rfl _ _ hr.out ?_)
      exact ⟨.inr ⟨by go_num, ⟨_, rfl⟩, R3, HB4⟩, by simp [intOf]⟩
    · go_wp2
      go_ret
      exact ⟨⟨_, rfl⟩, R1.out, HB1.out⟩

def offS (m : Int) : List Int := if m < 1 ∨ 65535 < m then [] else [2, 4, m / 256, m % 256]
theorem offS_byt (m : Int) : Byt (offS m) := by
  unfold offS
  split
  · exact byt_nil
  · simp only [byt_cons]; exact ⟨by omega, by omega, by omega, by omega, byt_nil⟩
set_option maxHeartbeats 1000000 in
theorem seg_Offer (m : Int) (w : World) : Calls Try.prog 22 #[.int .i64 m] w fun e w' => e = .returned (.string (strOfNums (offS m))) ∧ Below w.heap.size w w' := by
  by_cases h1 : m < 1
  · have d1 : decide (m < 1) = true := decide_eq_true h1
    have e : offS m = [] := if_pos (.inl h1)
    rw [e]
    go_enter Try.func22, Try.ntmps22
    go_wp2
    go_ret
    exact ⟨rfl, Below.refl _ _⟩
  have d1 : decide (m < 1) = false := decide_eq_false h1
  by_cases h2 : 65535 < m
  · have d2 : decide (65535 < m) = true := decide_eq_true h2
    have e : offS m = [] := if_pos (.inr h2)
    rw [e]
    go_enter Try.func22, Try.ntmps22
    go_wp2
    go_ret
    exact ⟨rfl, Below.refl _ _⟩
  have d2 : decide (65535 < m) = false := decide_eq_false h2
  have e : offS m = [2, 4] ++ twos [m] := by unfold offS; rw [if_neg (fun q => q.elim h1 h2)]; simp only [twos]; rw [show m / 256 % 256 = m / 256 by omega]; rfl
  obtain ⟨zs, hz⟩ : ∃ zs, [2, 4] ++ twos [m] = zs := ⟨_, rfl⟩
  rw [e, hz]
  have o := (OwnB.lit_at w w.heap.size w.heap.size [2, 4] rfl (Nat.le_refl _) (by decide) (by decide)).alloc (intsO [m])
  have hg : ((w.alloc (.cells (nums .u8 [2, 4]).toArray 5)).alloc (intsO [m])).heap[w.heap.size + 1]? = some (intsO [m]) := by
    have := heap_alloc_new (w.alloc (.cells (nums .u8 [2, 4]).toArray 5)) (intsO [m])
    simpa using this
  have hB := below_alloc (below_alloc (Below.refl w.heap.size w) (.cells (nums .u8 [2, 4]).toArray 5)) (intsO [m])
  have hT := Lib.hid (seg_two w.heap.size w _ _ _ 1 1 [m] _ o rfl (by omega) hg hB.size hB (by simp))
  rw [hz] at hT
  clear o hg hB e hz
  go_enter Try.func22, Try.ntmps22
  go_wp2_with fail
  refine hT.out.mono ?_
  rintro e w2 ⟨v2, rfl, o2, hB2⟩
  obtain ⟨A2, n2, c2, rfl, t2⟩ := o2.bts
  have k2 := t2.run_string (P := Try.prog) 22 9 Try.underlying22 Try.underlying5 Try.underlying9
  clear t2 o2 hT
  go_wp2
  go_ret
  exact ⟨rfl, hB2⟩
set_option maxHeartbeats 1000000 in
theorem seg_sum (s d : ByteArray) (A : Option Addr) (n c : Nat) (xs : List Int) (w : World) (hs : s.size ≤ 140737488351232) (hd : d.size ≤ 140737488351232) (h : Bts w A n c xs) (hp : pairOk s.size d.size) (hn : n ≤ 65535) :
    Calls Try.prog 27 #[.slice A n c, .string s, .string d] w fun e w' => e = .returned (.tuple #[.int .i64 (psSum 6 xs (bytesOf s) (bytesOf d)), .int .i64 0]) ∧ Below w.heap.size w w' := by
  have hB := Below.refl w.heap.size w
  have hv : psSum 6 xs (bytesOf s) (bytesOf d) = addm (canon (psTot (bytesOf s) (bytesOf d) 6 n)) (sumL xs) := by unfold psSum; rw [h.len]
  rw [hv]
  clear hv
  go_enter Try.func27, Try.ntmps27
  go_wp2_with fail
  refine (inet_Pseudo_yes _ _ _ _ _ hs hd (psOk_of hp 6 n (by omega) (by omega) (by omega))).mono ?_
  rintro e w2 ⟨rfl, hB2⟩
  replace hB2 := below_step2 (w := w) (by repeat (first | exact Below.refl _ _ | apply below_alloc | apply below_drew | apply pw_below_drewN)) hB2
  replace h := h.below hB2
  replace hB := below_step2 hB hB2
  clear hB2
  go_wp2_with fail
  refine (inet_Sum _ _ _ _ _ h).mono ?_
  rintro e w' ⟨rfl, rfl⟩
  go_wp2_with fail
  refine (inet_Add _ _ _).mono ?_
  rintro e w' ⟨rfl, rfl⟩
  go_wp2
  go_ret2
  exact ⟨rfl, hB⟩

theorem twos_head (S : Sg) (m : Nat) (h : sgOk S m) : twos [S.p, S.q, S.s / 65536, S.s, S.a / 65536, S.a] ++ ([((16 * (5 + m / 4) : Nat) : Int), S.f] ++ twos [S.w, 0, S.u]) = sgHead S m ++ ([0, 0] ++ [S.u / 256, S.u % 256]) := by
  unfold sgOk at h
  simp only [twos, sgHead, List.cons_append, List.nil_append, List.cons.injEq, and_true, true_and]
  refine ⟨?_, ?_, ?_, ?_, ?_, ?_, ?_⟩ <;> omega
set_option maxHeartbeats 4000000 in
theorem seg_Bytes_ok (S : Sg) (o : ByteArray) (A : Option Addr) (n k : Nat) (xs : List Int) (s d : ByteArray) (w : World) (hS : SgI S) (hs : s.size ≤ 140737488351232) (hd : d.size ≤ 140737488351232) (h0 : Bts w A n k xs)
    (hp : pairOk s.size d.size) (hk : sgOk S o.size) (hn : 20 + o.size + n ≤ 65535) :
    Calls Try.prog 10 #[.agg #[.int .i64 S.p, .int .i64 S.q, .int .i64 S.s, .int .i64 S.a, .int .i64 S.f, .int .i64 S.w, .int .i64 S.u, .string o, .slice A n k], .string s, .string d] w fun e w' => ∃ v, e = .returned (.tuple #[v, .int .i64 0]) ∧ OwnB w' w.heap.size v (sgBytes S (bytesOf o) xs (bytesOf s) (bytesOf d)) ∧ Below w.heap.size w w' := by
  have G := Sb.new w S o A n k
  have hB := below_alloc (Below.refl w.heap.size w) (.cells #[.int .i64 S.p, .int .i64 S.q, .int .i64 S.s, .int .i64 S.a, .int .i64 S.f, .int .i64 S.w, .int .i64 S.u, .string o, .slice A n k] 24)
  replace h0 := h0.below hB
  have hE : sgErr S o.size n = 0 := sgErr_zero.2 ⟨hk, hn⟩
  have hxl := Lib.hid h0.len
  go_enter Try.func10, Try.ntmps10
  go_wp2_with fail
  generalize w.alloc (.cells #[.int .i64 S.p, .int .i64 S.q, .int .i64 S.s, .int .i64 S.a, .int .i64 S.f, .int .i64 S.w, .int .i64 S.u, .string o, .slice A n k] 24) = w1 at G hB h0 ⊢
  refine (inet_Pseudo_yes _ _ _ _ _ hs hd ((psOk_zero _ _).2 hp)).mono ?_
  rintro e w2 ⟨rfl, hB2⟩
  replace hB := below_step2 hB hB2
  replace G := G.below hB2
  replace h0 := h0.below hB2
  have c0 := G.c0
  have c1 := G.c1
  have c2 := G.c2
  have c3 := G.c3
  have c4 := G.c4
  have c5 := G.c5
  have c6 := G.c6
  have c7 := G.c7
  have c8 := G.c8
  clear hB2
  go_wp2_with fail
  refine (seg_Check S o A n k xs w2 hS h0).mono ?_
  rintro e w3 ⟨rfl, hB3⟩
  rw [hE]
  replace hB := below_step2 hB hB3
  replace G := G.below hB3
  replace h0 := h0.below hB3
  clear hB3 c0 c1 c2 c3 c4 c5 c6 c7 c8
  have c0 := G.c0
  have c1 := G.c1
  have c2 := G.c2
  have c3 := G.c3
  have c4 := G.c4
  have c5 := G.c5
  have c6 := G.c6
  have c7 := G.c7
  have c8 := G.c8
  have hb1 := below_alloc (Below.refl w3.heap.size w3) (intsO [S.p, S.q, S.s / 65536, S.s, S.a / 65536, S.a])
  have hT := Lib.hid (seg_two w3.heap.size w3 _ _ w3.heap.size 6 6 [S.p, S.q, S.s / 65536, S.s, S.a / 65536, S.a] _ (OwnB.nil_ (w3.alloc (intsO [S.p, S.q, S.s / 65536, S.s, S.a / 65536, S.a])) w3.heap.size) rfl (by omega) (heap_alloc_new w3 _) hb1.size hb1 (by simp))
  clear hb1
  go_wp2_with fail
  refine hT.out.mono ?_
  rintro e w4 ⟨v4, rfl, o4, hB4⟩
  clear hT c0 c1 c2 c3 c4 c5 c6 c7 c8
  have G3 := Lib.hid G
  have H3 := Lib.hid h0
  have HB := Lib.hid hB
  replace G := G.below hB4
  have c4 := G.c4
  have c5 := G.c5
  have c6 := G.c6
  have c7 := G.c7
  have c8 := G.c8
  have q1 : (20 + (o.size : Int)) / 4 = ((5 + o.size / 4 : Nat) : Int) := by omega
  have wq : IntKind.i64.wrap (20 + (o.size : Int)) = 20 + (o.size : Int) := IntWalk.i64_in _ (by omega)
  rw [List.nil_append] at o4
  obtain ⟨A4, n4, k4, rfl, t4⟩ := o4.bts
  replace o4 := Lib.hid o4
  clear t4
  have K := Lib.hid (Bts.lit_at w4 w4.heap.size 5 [(5 + (o.size : Int) / 4) * 16 % 256, S.f % 256] rfl (by simp only [byt_cons]; exact ⟨by omega, by omega, byt_nil⟩) (by simp))
  have hl4 := o4.out.max
  rw [twos_len] at hl4
  go_wp2_with (at_builtin; refine hid_stop ?_)
  refine Lib.hid ?_
  refine append_own (w0 := w4) w3.heap.size rfl (.tmp 44) (.tmp 55) 22 rfl Try.underlying22 Try.info5 _ _ _ _ _ _ rfl rfl (o4.out.alloc _) K.out ((below_alloc (Below.refl w4.heap.size w4) (.cells (nums .u8 [(5 + (o.size : Int) / 4) * 16 % 256, S.f % 256]).toArray 5)).mono hB4.size) (Nat.le_trans hB4.size (by simp)) (by rw [twos_len]; simp) ?_
  intro v5 w5 o5 hB5' hg5
  have e5 : [(5 + (o.size : Int) / 4) * 16 % 256, S.f % 256] = [((16 * (5 + o.size / 4) : Nat) : Int), S.f] := by
    unfold sgOk at hk
    rw [show (5 + (o.size : Int) / 4) * 16 % 256 = ((16 * (5 + o.size / 4) : Nat) : Int) by omega, show S.f % 256 = S.f by omega]
  rw [e5] at o5
  have hB5 := hB4.trans hB5'
  clear e5 c4 c5 c6 c7 c8 K o4 hl4 hB4 hB5' hg5 q1 wq G h0 hB
  have G5 := G3.out.below hB5
  have c5 := G5.c5
  have c6 := G5.c6
  obtain ⟨A5, n5, k5, rfl, t5⟩ := o5.bts
  have l5 := t5.len
  rw [List.length_append, twos_len] at l5
  simp only [List.length_cons, List.length_nil] at l5
  clear t5 G5
  have hT := Lib.hid (seg_two w3.heap.size w3 _ _ w5.heap.size 3 3 [S.w, 0, S.u] _ (o5.alloc (intsO [S.w, 0, S.u])) rfl (by omega) (heap_alloc_new w5 _) (Nat.le_trans hB5.size (by simp)) (hB5.alloc hB5.size _) (by rw [List.length_append, twos_len]; simp))
  clear o5
  go_wp2_with fail
  refine hT.out.mono ?_
  rintro e w6 ⟨v6, rfl, o6, hB6⟩
  rw [List.append_assoc, twos_head S o.size hk] at o6
  clear hT hB5 c5 c6
  obtain ⟨A6, n6, k6, rfl, t6⟩ := o6.bts
  have hb6 := hB6.size
  have H6 := H3.out.below hB6
  have G6 := G3.out.below hB6
  have c7 := G6.c7
  have K7 := Bts.of_string w6 w6.heap.size 5 o rfl (by unfold sgOk at hk; omega)
  have hS7 := below_string (Below.refl w6.heap.size w6) 5 o
  have c8 := (G6.below hS7).c8
  have t7 := t6.below hS7
  have H7 := H6.below hS7
  have hz7 : (Lib.bytesWorld w6 5 o).heap.size = w6.heap.size + 1 := Lib.bytesWorld_size _ _ _
  have hL7 : ([sgHead S o.size ++ ([0, 0] ++ [S.u / 256, S.u % 256]), bytesOf o, xs] : List (List Int)).flatten.length ≤ 140737488355328 := by
    simp [sgHead, bytesOf_length, hxl.out]
    omega
  have hC := Lib.hid (slices_Concat _ _ _ _ _ (Rws.three (Lib.bytesWorld w6 5 o) (w6.heap.size + 1) 22 hz7 t7 K7 H7) hL7)
  have hB7 := Lib.hid (hB6.trans ((below_alloc hS7 (.cells #[.slice A6 n6 k6, .slice (some ⟨w6.heap.size, 0, none⟩) o.size (grownCap w6 o.size 0 5), .slice A n k] 22)).mono hb6))
  have k1 := fun (W : World) => print_bytes (P := Try.prog) 9 22 5 Try.underlying9 Try.underlying22 Try.underlying5 o W
  clear o6 t6 H6 G6 K7 t7 H7 hL7 hB6 hS7
  go_wp2_with fail
  generalize (Lib.bytesWorld w6 5 o).alloc (.cells #[.slice A6 n6 k6, .slice (some ⟨w6.heap.size, 0, none⟩) o.size (grownCap w6 o.size 0 5), .slice A n k] 22) = W7 at hC hB7 ⊢
  refine hC.out.mono ?_
  rintro e w8 ⟨v8, rfl, o8, hB8⟩
  clear hC k1 hz7 c7 c8 hb6
  have ez : [sgHead S o.size ++ ([0, 0] ++ [S.u / 256, S.u % 256]), bytesOf o, xs].flatten = sgZero S (bytesOf o) xs := by
    simp [sgZero, sgBack, bytesOf_length]
  rw [ez] at o8
  clear ez
  have hzl := sgZero_len S (bytesOf o) xs
  rw [bytesOf_length, hxl.out] at hzl
  obtain ⟨g, m, c, e1, R⟩ := o8.row (by omega)
  subst e1
  have hm : m = 20 + o.size + n := by rw [← hzl]; exact R.len.symm
  subst hm
  have hcap := R.bts.le
  have h37 := hB7.out.size
  have h73 := HB.out.size
  have hgb := R.base_
  clear o8 hzl
  go_wp2_with fail
  refine (seg_sum s d _ _ _ _ w8 hs hd R.bts hp (by omega)).mono ?_
  rintro e w9 ⟨rfl, hB9⟩
  have R9 := R.below hB9
  have hB79 := hB8.trans (hB9.mono hB8.size)
  have hD := psSum_bd 6 (sgZero S (bytesOf o) xs) (bytesOf s) (bytesOf d)
  have hC : Hid (sgCheck S (bytesOf o) xs (bytesOf s) (bytesOf d) = 65535 - psSum 6 (sgZero S (bytesOf o) xs) (bytesOf s) (bytesOf d)) := rfl
  generalize psSum 6 (sgZero S (bytesOf o) xs) (bytesOf s) (bytesOf d) = D at hD hC ⊢
  have hT := Lib.hid (seg_two_at W7.heap.size g _ c _ w9.heap.size 1 (65535 - D) W7 _ (R9.below (below_alloc (Below.refl _ _) (intsO [65535 - D]))) (by omega) (heap_alloc_new w9 _) (hB79.alloc hB79.size _))
  have j0 : (16 : Int) ≤ (c : Int) := by omega
  have wD : IntKind.i64.wrap (65535 - D) = 65535 - D := IntWalk.i64_in _ (by omega)
  clear R R9 hB8 hB9
  replace hD := Lib.hid hD
  go_wp2_with fail
  refine hT.out.mono ?_
  rintro e w10 ⟨⟨v10, rfl⟩, R10, hB10⟩
  clear hT
  have hBf := Lib.hid (below_step2 HB.out (hB7.out.trans (hB10.mono h37)))
  have q : Hid (OwnB w10 w.heap.size (.slice (some ⟨g, 0, none⟩) (20 + o.size + n) c) (sgBytes S (bytesOf o) xs (bytesOf s) (bytesOf d))) := Lib.hid (by
    have q := R10.ownB.lower (base' := w.heap.size) (by omega)
    have hd' := hD.out
    rw [show (65535 - D) / 256 % 256 = (65535 - D) / 256 by omega, ← hC.out, sgBytes_set] at q
    exact q)
  clear R10 hB10
  go_wp2
  go_ret2
  exact ⟨_, rfl, q.out, hBf.out⟩
theorem seg_Bytes_no (S : Sg) (o : ByteArray) (A : Option Addr) (n k : Nat) (s d : ByteArray) (w : World) (hs : s.size ≤ 140737488351232) (hd : d.size ≤ 140737488351232) (h : ¬ pairOk s.size d.size) :
    Calls Try.prog 10 #[.agg #[.int .i64 S.p, .int .i64 S.q, .int .i64 S.s, .int .i64 S.a, .int .i64 S.f, .int .i64 S.w, .int .i64 S.u, .string o, .slice A n k], .string s, .string d] w fun e w' => e = .returned (.tuple #[.slice none 0 0, .int .i64 1]) ∧ Below w.heap.size w w' := by
  go_enter Try.func10, Try.ntmps10
  go_wp2_with fail
  refine (inet_Pseudo_no _ _ _ _ _ hs hd (fun q => h ((psOk_zero _ _).1 q))).mono ?_
  rintro e w' ⟨rfl, rfl⟩
  go_wp2
  go_ret2
  exact ⟨rfl, below_alloc (Below.refl _ _) _⟩
set_option maxHeartbeats 1000000 in
theorem seg_Bytes_bad (S : Sg) (o : ByteArray) (A : Option Addr) (n k : Nat) (xs : List Int) (s d : ByteArray) (w : World) (hS : SgI S) (hs : s.size ≤ 140737488351232) (hd : d.size ≤ 140737488351232) (h0 : Bts w A n k xs)
    (hp : pairOk s.size d.size) (E : Int) (hE : sgErr S o.size n = E) (hne : E ≠ 0) :
    Calls Try.prog 10 #[.agg #[.int .i64 S.p, .int .i64 S.q, .int .i64 S.s, .int .i64 S.a, .int .i64 S.f, .int .i64 S.w, .int .i64 S.u, .string o, .slice A n k], .string s, .string d] w fun e w' => e = .returned (.tuple #[.slice none 0 0, .int .i64 E]) ∧ Below w.heap.size w w' := by
  have G := Sb.new w S o A n k
  have hB := below_alloc (Below.refl w.heap.size w) (.cells #[.int .i64 S.p, .int .i64 S.q, .int .i64 S.s, .int .i64 S.a, .int .i64 S.f, .int .i64 S.w, .int .i64 S.u, .string o, .slice A n k] 24)
  replace h0 := h0.below hB
  have d1 : (E != 0) = true := bne_iff_ne.mpr hne
  replace hE := Lib.hid hE
  go_enter Try.func10, Try.ntmps10
  go_wp2_with fail
  generalize w.alloc (.cells #[.int .i64 S.p, .int .i64 S.q, .int .i64 S.s, .int .i64 S.a, .int .i64 S.f, .int .i64 S.w, .int .i64 S.u, .string o, .slice A n k] 24) = w1 at G hB h0 ⊢
  refine (inet_Pseudo_yes _ _ _ _ _ hs hd ((psOk_zero _ _).2 hp)).mono ?_
  rintro e w2 ⟨rfl, hB2⟩
  replace hB := below_step2 hB hB2
  replace G := G.below hB2
  replace h0 := h0.below hB2
  have c0 := G.c0
  have c1 := G.c1
  have c2 := G.c2
  have c3 := G.c3
  have c4 := G.c4
  have c5 := G.c5
  have c6 := G.c6
  have c7 := G.c7
  have c8 := G.c8
  clear hB2
  go_wp2_with fail
  refine (seg_Check S o A n k xs w2 hS h0).mono ?_
  rintro e w3 ⟨rfl, hB3⟩
  rw [hE.out]
  replace hB := below_step2 hB hB3
  clear hB3 c0 c1 c2 c3 c4 c5 c6 c7 c8 G h0 hne
  go_wp2
  go_ret2
  exact ⟨rfl, hB⟩
theorem seg_Bytes (S : Sg) (o : ByteArray) (A : Option Addr) (n k : Nat) (xs : List Int) (s d : ByteArray) (w : World) (hS : SgI S) (hs : s.size ≤ 140737488351232) (hd : d.size ≤ 140737488351232) (h0 : Bts w A n k xs) :
    Calls Try.prog 10 #[.agg #[.int .i64 S.p, .int .i64 S.q, .int .i64 S.s, .int .i64 S.a, .int .i64 S.f, .int .i64 S.w, .int .i64 S.u, .string o, .slice A n k], .string s, .string d] w (LaidPost (sgLayErr S o.size n s.size d.size) (sgBytes S (bytesOf o) xs (bytesOf s) (bytesOf d)) w) := by
  by_cases hp : pairOk s.size d.size
  case neg =>
    refine (seg_Bytes_no S o A n k s d w hs hd hp).mono fun e w' ⟨he, hB⟩ => ?_
    have q : sgLayErr S o.size n s.size d.size = 1 := if_pos hp
    rw [q]
    exact ⟨none, 0, 0, he, OwnB.nil_ _ _, hB⟩
  by_cases hE : sgErr S o.size n = 0
  · obtain ⟨hk, hn⟩ := sgErr_zero.1 hE
    refine (seg_Bytes_ok S o A n k xs s d w hS hs hd h0 hp hk hn).mono fun e w' ⟨v, he, ho, hB⟩ => ?_
    rw [sgLayErr_zero.2 ⟨hp, hk, hn⟩]
    obtain ⟨A', n', c', rfl, _⟩ := ho.bts
    exact ⟨A', n', c', he, ho, hB⟩
  · refine (seg_Bytes_bad S o A n k xs s d w hS hs hd h0 hp _ rfl hE).mono fun e w' ⟨he, hB⟩ => ?_
    have q : sgLayErr S o.size n s.size d.size = sgErr S o.size n := if_neg (fun q => q hp)
    rw [q]
    refine ⟨none, 0, 0, he, ?_, hB⟩
    rw [if_neg hE]
    exact OwnB.nil_ _ _
end Go.Proofs.Ytljdkfgnoalgpaa

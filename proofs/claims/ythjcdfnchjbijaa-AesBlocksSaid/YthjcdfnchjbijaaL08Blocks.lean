/- AesBlocks holds: a key's keys, and a block under them, are just these, or refused; what was handed in stays. Conditions: none beside the row's own reach. -/
import Derived.Test.YthjcdfnchjbijaaCAesF
import Derived.Test.YthjcdfnchjbijaaCBoth
import Derived.Test.YthjcdfnchjbijaaAesRefC
namespace Go.Proofs.Ythjcdfnchjbijaa
open Go.RowKit Go.Proofs.YthjcdfnchjbijaaW.PrintWords Go.Proofs.Ythjcdfnchjbijaa.PAesBlocks

/-- Bytes that are read, as the printed functions tell them. -/
theorem Bts.toC {w : World} {A : Option Addr} {n c : Nat} {xs : List Int} (h : Bts w A n c xs) : Kd.C (Kd.int .u8) w A n xs := Kd.C_of_reads (d := 0) h.rd
theorem reads_move {w W : World} {A : Option Addr} {n : Nat} {xs : List Int} (h : ReadsInt w .u8 A n xs) (hm : ∀ k, k < w.heap.size → W.heap[k]? = w.heap[k]?) : ReadsInt W .u8 A n xs := by
  refine ⟨h.1, h.2.1, fun hn => ?_⟩
  obtain ⟨ad, e, hc⟩ := h.2.2 hn
  refine ⟨ad, e, fun j hj => ?_⟩
  have hj' := hc j hj
  exact (World.cell?_of_block (hm _ (World.block_lt_of_cell? w _ hj'))).trans hj'
theorem Bts.toV {w : World} {A : Option Addr} {c : Nat} {xs : List Int} (e base : Nat) (h : Bts w A xs.length c xs) : Kd.V (Kd.int .u8) e w base (fun _ => True) (.slice A xs.length c) xs :=
  Kd.V_mk h.le (fun _ hW => Kd.C_of_reads (d := 0) (reads_move h.rd (fun k hk => hW k trivial hk)))
theorem OwnB.ofR {w : World} {base : Nat} {ok : Nat → Prop} {v : Value} {xs : List Int} (h : Kd.R (Kd.int .u8) 5 w base ok v xs) (hb : Byt xs) (hm : xs.length ≤ 140737488355328) : OwnB w base v xs := ⟨Kd.own_of_R h, hm, hb⟩

theorem ref08_May (A : Option Addr) (n c : Nat) (xs : List Int) (w : World) (h : Bts w A n c xs) :
    Calls Try.prog 17 #[.slice A n c] w fun e w' => e = .returned (.bool (decide (n = 16 ∨ n = 32))) ∧ Below w.heap.size w w' := by
  obtain rfl := h.len
  refine (redoubtref08_May.calls A c xs (decide (xs.length = 16 ∨ xs.length = 32)) w h.toC h.le ?_).mono fun e w' ⟨he, hd⟩ => ⟨he, hd.below⟩
  unfold redoubtref08_May.f
  by_cases h1 : xs.length = 16
  · rw [if_pos (by omega), decide_eq_true (.inl h1)]
  · rw [if_neg (by omega)]
    by_cases h2 : xs.length = 32
    · rw [decide_eq_true (.inr h2), h2]; rfl
    · rw [decide_eq_false (fun q => q.elim h1 h2), beq_eq_false_iff_ne.mpr (by omega)]
theorem ref08_Keys (A : Option Addr) (n c : Nat) (xs : List Int) (w : World) (h : Bts w A n c xs) (hn : n = 16 ∨ n = 32) (hk : Byt (keysS xs)) :
    Calls Try.prog 18 #[.slice A n c] w fun e w' => ∃ v, e = .returned v ∧ OwnB w' w.heap.size v (keysS xs) ∧ Below w.heap.size w w' := by
  obtain rfl := h.len
  obtain ⟨k, hf⟩ := refKeys xs hn h.byt
  refine (redoubtref08_Keys.calls k (fun _ => True) A c xs _ w (h.toV _ _) hf).mono ?_
  rintro e w' ⟨v, rfl, hR, hB⟩
  exact ⟨v, rfl, OwnB.ofR hR hk (by rw [keysS_len hn]; split <;> omega), hB⟩
theorem ref08_Block (A : Option Addr) (n c : Nat) (ks : List Int) (B : Option Addr) (m d : Nat) (ys : List Int) (w : World) (h : Bts w A n c ks) (h2 : Bts w B m d ys) (hn : n = 176 ∨ n = 240) (hm : m = 16) :
    Calls Try.prog 19 #[.slice A n c, .slice B m d] w fun e w' => ∃ v, e = .returned v ∧ OwnB w' w.heap.size v (blockS ks ys) ∧ Below w.heap.size w w' := by
  obtain rfl := h.len
  obtain rfl := h2.len
  refine (redoubtref08_Block.calls 2000 A c ks B d ys _ w h.toC h.le h2.toC h2.le (refBlock ks ys hn hm h.byt h2.byt)).mono ?_
  rintro e w' ⟨v, rfl, hR, hB⟩
  exact ⟨v, rfl, OwnB.ofR hR (blockS_byt h.byt h2.byt) (by rw [blockS_len]; omega), hB⟩



set_option maxHeartbeats 4000000 in
theorem AesBlocks_any (A : Option Addr) (n c : Nat) (xs : List Int) (B : Option Addr) (m d : Nat) (ys : List Int) (w : World) (h : Bts w A n c xs) (h2 : Bts w B m d ys) :
    Calls Try.prog 4 #[.slice A n c, .slice B m d] w fun e w' => e = .returned (.bool true) ∧ Below w.heap.size w w' := by
  have hn := h.max
  have hm := h2.max
  have hl := h.len
  have hl2 := h2.len
  by_cases q1 : 300 < n
  · have d1 : decide ((300 : Int) < (n : Int)) = true := decide_eq_true (by omega)
    have d1' : decide (300 < n) = true := decide_eq_true q1
    go_enter Try.func4, Try.ntmps4
    go_wp2
    go_ret
    exact ⟨rfl, Below.refl _ _⟩
  have d1 : decide ((300 : Int) < (n : Int)) = false := decide_eq_false (by omega)
  have d1' : decide (300 < n) = false := decide_eq_false q1
  by_cases q2 : 300 < m
  · have d2 : decide ((300 : Int) < (m : Int)) = true := decide_eq_true (by omega)
    have d2' : decide (300 < m) = true := decide_eq_true q2
    go_enter Try.func4, Try.ntmps4
    go_wp2
    go_ret
    exact ⟨rfl, Below.refl _ _⟩
  have d2 : decide ((300 : Int) < (m : Int)) = false := decide_eq_false (by omega)
  have d2' : decide (300 < m) = false := decide_eq_false q2
  have hB := Below.refl w.heap.size w
  by_cases k1 : n = 16 ∨ n = 32
  case neg =>
    have e1 : Hid (keyErr n = 1) := Lib.hid (if_neg k1)
    have e2 : Hid (encErr n m = 1) := Lib.hid (encErr_no (fun q => k1 q.1))
    have em : Hid (decide (n = 16 ∨ n = 32) = false) := Lib.hid (decide_eq_false k1)
    replace k1 := Lib.hid k1
    go_enter Try.func4, Try.ntmps4
    go_wp2_with fail
    refine (ref01_Both _ _ _ [xs] _ (Rws.one _ _ _ rfl h) (by simp; omega)).mono ?_
    rintro e w1 ⟨vw1, rfl, ok, hB2⟩
    obtain ⟨B1, n1, p1, rfl, k⟩ := ok.bts
    replace ok := Lib.hid ok
    replace hB2 := below_step2 (w := w) (by repeat (first | exact Below.refl _ _ | apply below_alloc | apply below_drew | apply pw_below_drewN)) hB2
    replace h := h.below hB2
    replace h2 := h2.below hB2
    replace hB := below_step2 hB hB2
    clear hB2
    simp only [List.flatten_cons, List.flatten_nil, List.append_nil] at k ok
    clear ok
    obtain rfl : n1 = n := by have := k.len; omega
    go_wp2_with fail
    refine (ref01_Both _ _ _ [ys] _ (Rws.one _ _ _ rfl h2) (by simp; omega)).mono ?_
    rintro e w2 ⟨vw2, rfl, ok2, hB2⟩
    obtain ⟨B2, m1, p2, rfl, k2⟩ := ok2.bts
    replace ok2 := Lib.hid ok2
    replace hB2 := below_step2 (w := w1) (by repeat (first | exact Below.refl _ _ | apply below_alloc | apply below_drew | apply pw_below_drewN)) hB2
    replace h := h.below hB2
    replace h2 := h2.below hB2
    replace k := k.below hB2
    replace hB := below_step2 hB hB2
    clear hB2
    simp only [List.flatten_cons, List.flatten_nil, List.append_nil] at k2 ok2
    clear ok2
    obtain rfl : m1 = m := by have := k2.len; omega
    go_wp2_with fail
    refine (aes_Keys _ _ _ xs w2 k).mono ?_
    rintro e w3 ⟨A3, n3, c3, rfl, o3', hB3⟩
    rw [e1.out] at o3' ⊢
    have o3 : Bts w3 A3 n3 c3 [] := o3'.sl
    clear o3'
    replace k := k.below hB3
    replace k2 := k2.below hB3
    replace h := h.below hB3
    replace h2 := h2.below hB3
    replace hB := below_step2 hB hB3
    clear hB3
    go_wp2_with fail
    refine (aes_Encrypt _ _ _ xs _ _ _ ys w3 k k2).mono ?_
    rintro e w4 ⟨A4, n4, c4, rfl, o4, hB4⟩
    rw [e2.out] at o4 ⊢
    replace o4 : Bts w4 A4 n4 c4 [] := o4
    replace k := k.below hB4
    replace k2 := k2.below hB4
    replace h := h.below hB4
    replace h2 := h2.below hB4
    replace o3 := o3.below hB4
    replace hB := below_step2 hB hB4
    clear hB4
    have E5 : blkErr n3 m1 = 1 := (blkErr_one (fun q => by have z := o3.len; simp at z; omega))
    go_wp2_with fail
    refine (aes_Block _ _ _ [] _ _ _ ys w4 o3 k2).mono ?_
    rintro e w5 ⟨A5, n5, c5, rfl, o5, hB5⟩
    rw [E5] at o5 ⊢
    replace o5 : Bts w5 A5 n5 c5 [] := o5
    replace k := k.below hB5
    replace k2 := k2.below hB5
    replace h := h.below hB5
    replace h2 := h2.below hB5
    replace o3 := o3.below hB5
    replace o4 := o4.below hB5
    replace hB := below_step2 hB hB5
    clear hB5 E5
    have r1 := k.run_string (P := Try.prog) 28 9 Try.underlying28 Try.underlying5 Try.underlying9
    have r2 := k2.run_string (P := Try.prog) 28 9 Try.underlying28 Try.underlying5 Try.underlying9
    have r3 := h.run_string (P := Try.prog) 28 9 Try.underlying28 Try.underlying5 Try.underlying9
    have r4 := h2.run_string (P := Try.prog) 28 9 Try.underlying28 Try.underlying5 Try.underlying9
    have l3 := Lib.hid o3.len
    have l4 := Lib.hid o4.len
    have l5 := Lib.hid o5.len
    go_wp2_with fail
    refine (ref08_May _ _ _ xs w5 h).mono ?_
    rintro e w6 ⟨rfl, hB6⟩
    replace k := k.below hB6
    replace k2 := k2.below hB6
    replace h := h.below hB6
    replace h2 := h2.below hB6
    replace o3 := o3.below hB6
    replace o4 := o4.below hB6
    replace o5 := o5.below hB6
    replace hB := below_step2 hB hB6
    clear hB6 r1 r2 r3 r4 k k2
    rw [em.out]
    replace l3 := l3.out
    replace l4 := l4.out
    replace l5 := l5.out
    simp only [List.length_nil] at l3 l4 l5
    subst l3 l4 l5
    clear o3 o4 o5 h h2 k1 e1 e2 em
    go_wp2_with fail
    refine (awake08 _).mono ?_
    rintro e w7 ⟨rfl, hB2⟩
    replace hB2 := below_step2 (w := w6) (by repeat (first | exact Below.refl _ _ | apply below_alloc | apply below_drew | apply pw_below_drewN)) hB2
    replace hB := below_step2 hB hB2
    clear hB2
    go_wp2
    go_ret
    exact ⟨rfl, hB⟩
  case pos =>
  have e1 : Hid (keyErr n = 0) := Lib.hid (keyErr_zero.2 k1)
  have em : Hid (decide (n = 16 ∨ n = 32) = true) := Lib.hid (decide_eq_true k1)
  have hkl : Hid ((keysS xs).length = 176 ∨ (keysS xs).length = 240) := Lib.hid (by rw [keysS_len (by rw [hl]; exact k1)]; split <;> omega)
  by_cases k16 : m = 16
  case neg =>
    have e2 : Hid (encErr n m = 1) := Lib.hid (encErr_no (fun q => k16 q.2))
    have em16 : ((m : Int) != 16) = true := bne_iff_ne.mpr (by omega)
    have em16' : (m != 16) = true := bne_iff_ne.mpr k16
    replace k1 := Lib.hid k1
    go_enter Try.func4, Try.ntmps4
    go_wp2_with fail
    refine (ref01_Both _ _ _ [xs] _ (Rws.one _ _ _ rfl h) (by simp; omega)).mono ?_
    rintro e w1 ⟨vw1, rfl, ok, hB2⟩
    obtain ⟨B1, n1, p1, rfl, k⟩ := ok.bts
    replace ok := Lib.hid ok
    replace hB2 := below_step2 (w := w) (by repeat (first | exact Below.refl _ _ | apply below_alloc | apply below_drew | apply pw_below_drewN)) hB2
    replace h := h.below hB2
    replace h2 := h2.below hB2
    replace hB := below_step2 hB hB2
    clear hB2
    simp only [List.flatten_cons, List.flatten_nil, List.append_nil] at k ok
    clear ok
    obtain rfl : n1 = n := by have := k.len; omega
    go_wp2_with fail
    refine (ref01_Both _ _ _ [ys] _ (Rws.one _ _ _ rfl h2) (by simp; omega)).mono ?_
    rintro e w2 ⟨vw2, rfl, ok2, hB2⟩
    obtain ⟨B2, m1, p2, rfl, k2⟩ := ok2.bts
    replace ok2 := Lib.hid ok2
    replace hB2 := below_step2 (w := w1) (by repeat (first | exact Below.refl _ _ | apply below_alloc | apply below_drew | apply pw_below_drewN)) hB2
    replace h := h.below hB2
    replace h2 := h2.below hB2
    replace k := k.below hB2
    replace hB := below_step2 hB hB2
    clear hB2
    simp only [List.flatten_cons, List.flatten_nil, List.append_nil] at k2 ok2
    clear ok2
    obtain rfl : m1 = m := by have := k2.len; omega
    go_wp2_with fail
    refine (aes_Keys _ _ _ xs w2 k).mono ?_
    rintro e w3 ⟨A3, n3, c3, rfl, o3', hB3⟩
    rw [e1.out] at o3' ⊢
    have o3 : Bts w3 A3 n3 c3 (keysS xs) := o3'.sl
    clear o3'
    replace k := k.below hB3
    replace k2 := k2.below hB3
    replace h := h.below hB3
    replace h2 := h2.below hB3
    replace hB := below_step2 hB hB3
    clear hB3
    go_wp2_with fail
    refine (aes_Encrypt _ _ _ xs _ _ _ ys w3 k k2).mono ?_
    rintro e w4 ⟨A4, n4, c4, rfl, o4, hB4⟩
    rw [e2.out] at o4 ⊢
    replace o4 : Bts w4 A4 n4 c4 [] := o4
    replace k := k.below hB4
    replace k2 := k2.below hB4
    replace h := h.below hB4
    replace h2 := h2.below hB4
    replace o3 := o3.below hB4
    replace hB := below_step2 hB hB4
    clear hB4
    have E5 : blkErr n3 m1 = 1 := (blkErr_one (fun q => k16 q.2))
    go_wp2_with fail
    refine (aes_Block _ _ _ (keysS xs) _ _ _ ys w4 o3 k2).mono ?_
    rintro e w5 ⟨A5, n5, c5, rfl, o5, hB5⟩
    rw [E5] at o5 ⊢
    replace o5 : Bts w5 A5 n5 c5 [] := o5
    replace k := k.below hB5
    replace k2 := k2.below hB5
    replace h := h.below hB5
    replace h2 := h2.below hB5
    replace o3 := o3.below hB5
    replace o4 := o4.below hB5
    replace hB := below_step2 hB hB5
    clear hB5 E5
    have r1 := k.run_string (P := Try.prog) 28 9 Try.underlying28 Try.underlying5 Try.underlying9
    have r2 := k2.run_string (P := Try.prog) 28 9 Try.underlying28 Try.underlying5 Try.underlying9
    have r3 := h.run_string (P := Try.prog) 28 9 Try.underlying28 Try.underlying5 Try.underlying9
    have r4 := h2.run_string (P := Try.prog) 28 9 Try.underlying28 Try.underlying5 Try.underlying9
    have l3 := Lib.hid o3.len
    have l4 := Lib.hid o4.len
    have l5 := Lib.hid o5.len
    go_wp2_with fail
    refine (ref08_May _ _ _ xs w5 h).mono ?_
    rintro e w6 ⟨rfl, hB6⟩
    replace k := k.below hB6
    replace k2 := k2.below hB6
    replace h := h.below hB6
    replace h2 := h2.below hB6
    replace o3 := o3.below hB6
    replace o4 := o4.below hB6
    replace o5 := o5.below hB6
    replace hB := below_step2 hB hB6
    clear hB6 r1 r2 r3 r4 k k2
    rw [em.out]
    replace l4 := l4.out
    replace l5 := l5.out
    simp only [List.length_nil] at l4 l5
    subst l4 l5
    clear o4 o5 h2 e1 e2 em k16
    go_wp2_with fail
    refine (ref08_Keys _ _ _ xs w6 h k1.out o3.byt).mono ?_
    rintro e w7 ⟨v7, rfl, o7, hB7⟩
    obtain ⟨A7, n7, c7, rfl, t7⟩ := o7.bts
    replace o3 := o3.below hB7
    replace hB := below_step2 hB hB7
    clear hB7 o7 h
    have r1 := o3.run_string (P := Try.prog) 28 9 Try.underlying28 Try.underlying5 Try.underlying9
    have r2 := t7.run_string (P := Try.prog) 28 9 Try.underlying28 Try.underlying5 Try.underlying9
    generalize strOfNums (keysS xs) = s3 at r1 r2
    clear o3 t7
    go_wp2_with fail
    clear r1 r2
    refine (awake08 _).mono ?_
    rintro e w8 ⟨rfl, hB8⟩
    replace hB := below_step2 hB hB8
    clear hB8
    go_wp2
    go_ret
    exact ⟨rfl, hB⟩
  case pos =>
  subst k16
  have e2 : Hid (encErr n 16 = 0) := Lib.hid (encErr_ok k1 rfl)
  replace k1 := Lib.hid k1
  go_enter Try.func4, Try.ntmps4
  go_wp2_with fail
  refine (ref01_Both _ _ _ [xs] _ (Rws.one _ _ _ rfl h) (by simp; omega)).mono ?_
  rintro e w1 ⟨vw1, rfl, ok, hB2⟩
  obtain ⟨B1, n1, p1, rfl, k⟩ := ok.bts
  replace ok := Lib.hid ok
  replace hB2 := below_step2 (w := w) (by repeat (first | exact Below.refl _ _ | apply below_alloc | apply below_drew | apply pw_below_drewN)) hB2
  replace h := h.below hB2
  replace h2 := h2.below hB2
  replace hB := below_step2 hB hB2
  clear hB2
  simp only [List.flatten_cons, List.flatten_nil, List.append_nil] at k ok
  clear ok
  obtain rfl : n1 = n := by have := k.len; omega
  go_wp2_with fail
  refine (ref01_Both _ _ _ [ys] _ (Rws.one _ _ _ rfl h2) (by simp; omega)).mono ?_
  rintro e w2 ⟨vw2, rfl, ok2, hB2⟩
  obtain ⟨B2, m1, p2, rfl, k2⟩ := ok2.bts
  replace ok2 := Lib.hid ok2
  replace hB2 := below_step2 (w := w1) (by repeat (first | exact Below.refl _ _ | apply below_alloc | apply below_drew | apply pw_below_drewN)) hB2
  replace h := h.below hB2
  replace h2 := h2.below hB2
  replace k := k.below hB2
  replace hB := below_step2 hB hB2
  clear hB2
  simp only [List.flatten_cons, List.flatten_nil, List.append_nil] at k2 ok2
  clear ok2
  obtain rfl : m1 = 16 := by have := k2.len; omega
  go_wp2_with fail
  refine (aes_Keys _ _ _ xs w2 k).mono ?_
  rintro e w3 ⟨A3, n3, c3, rfl, o3', hB3⟩
  rw [e1.out] at o3' ⊢
  have o3 : Bts w3 A3 n3 c3 (keysS xs) := o3'.sl
  clear o3'
  replace k := k.below hB3
  replace k2 := k2.below hB3
  replace h := h.below hB3
  replace h2 := h2.below hB3
  replace hB := below_step2 hB hB3
  clear hB3
  go_wp2_with fail
  refine (aes_Encrypt _ _ _ xs _ _ _ ys w3 k k2).mono ?_
  rintro e w4 ⟨A4, n4, c4, rfl, o4, hB4⟩
  rw [e2.out] at o4 ⊢
  replace o4 : Bts w4 A4 n4 c4 (blockS (keysS xs) ys) := o4
  replace k := k.below hB4
  replace k2 := k2.below hB4
  replace h := h.below hB4
  replace h2 := h2.below hB4
  replace o3 := o3.below hB4
  replace hB := below_step2 hB hB4
  clear hB4
  have E5 : blkErr n3 16 = 0 := (blkErr_zero.2 ⟨(by rw [← o3.len]; exact hkl.out), rfl⟩)
  go_wp2_with fail
  refine (aes_Block _ _ _ (keysS xs) _ _ _ ys w4 o3 k2).mono ?_
  rintro e w5 ⟨A5, n5, c5, rfl, o5, hB5⟩
  rw [E5] at o5 ⊢
  replace o5 : Bts w5 A5 n5 c5 (blockS (keysS xs) ys) := o5
  replace k := k.below hB5
  replace k2 := k2.below hB5
  replace h := h.below hB5
  replace h2 := h2.below hB5
  replace o3 := o3.below hB5
  replace o4 := o4.below hB5
  replace hB := below_step2 hB hB5
  clear hB5 E5
  have r1 := k.run_string (P := Try.prog) 28 9 Try.underlying28 Try.underlying5 Try.underlying9
  have r2 := k2.run_string (P := Try.prog) 28 9 Try.underlying28 Try.underlying5 Try.underlying9
  have r3 := h.run_string (P := Try.prog) 28 9 Try.underlying28 Try.underlying5 Try.underlying9
  have r4 := h2.run_string (P := Try.prog) 28 9 Try.underlying28 Try.underlying5 Try.underlying9
  have l3 := Lib.hid o3.len
  have l4 := Lib.hid o4.len
  have l5 := Lib.hid o5.len
  go_wp2_with fail
  refine (ref08_May _ _ _ xs w5 h).mono ?_
  rintro e w6 ⟨rfl, hB6⟩
  replace k := k.below hB6
  replace k2 := k2.below hB6
  replace h := h.below hB6
  replace h2 := h2.below hB6
  replace o3 := o3.below hB6
  replace o4 := o4.below hB6
  replace o5 := o5.below hB6
  replace hB := below_step2 hB hB6
  clear hB6 r1 r2 r3 r4 k k2
  rw [em.out]
  clear e1 e2 em
  go_wp2_with fail
  refine (ref08_Keys _ _ _ xs w6 h k1.out o3.byt).mono ?_
  rintro e w7 ⟨v7, rfl, o7, hB7⟩
  obtain ⟨A7, n7, c7, rfl, t7⟩ := o7.bts
  replace o3 := o3.below hB7
  replace o4 := o4.below hB7
  replace o5 := o5.below hB7
  replace h2 := h2.below hB7
  replace hB := below_step2 hB hB7
  clear hB7 o7 h
  have r1 := o3.run_string (P := Try.prog) 28 9 Try.underlying28 Try.underlying5 Try.underlying9
  have r2 := t7.run_string (P := Try.prog) 28 9 Try.underlying28 Try.underlying5 Try.underlying9
  generalize strOfNums (keysS xs) = s3 at r1 r2
  clear o3
  go_wp2_with fail
  clear r1 r2
  refine (ref08_Block _ _ _ (keysS xs) _ _ _ ys w7 t7 h2 (by rw [← t7.len]; exact hkl.out) rfl).mono ?_
  rintro e w8 ⟨v8, rfl, o8, hB8⟩
  obtain ⟨A8, n8, c8, rfl, t8⟩ := o8.bts
  replace o4 := o4.below hB8
  replace o5 := o5.below hB8
  replace hB := below_step2 hB hB8
  clear hB8 o8 h2 t7
  go_wp2_with fail
  refine (awake08 _).mono ?_
  rintro e w9 ⟨rfl, hB9⟩
  replace o4 := o4.below hB9
  replace o5 := o5.below hB9
  replace t8 := t8.below hB9
  replace hB := below_step2 hB hB9
  clear hB9
  have r1 := o4.run_string (P := Try.prog) 28 9 Try.underlying28 Try.underlying5 Try.underlying9
  have r2 := o5.run_string (P := Try.prog) 28 9 Try.underlying28 Try.underlying5 Try.underlying9
  have r3 := t8.run_string (P := Try.prog) 28 9 Try.underlying28 Try.underlying5 Try.underlying9
  generalize strOfNums (blockS (keysS xs) ys) = s4 at r1 r2 r3
  clear o4 o5 t8
  go_wp2
  go_ret
  exact ⟨rfl, hB⟩
end Go.Proofs.Ythjcdfnchjbijaa

/- Contracts of the functions that lay datagrams between ports. Conditions: those that each lemma states. -/
import Derived.Test.YtbmlbomildfmcaaCUdpB
namespace Go.Proofs.Ytbmlbomildfmcaa
open Go.RowKit Go.Proofs.YtbmlbomildfmcaaW.PrintWords

theorem k_or_low (x y : Int) (hx : I64 x) (hy : I64 y) : (0 ≤ bits .or .i64 x y ∧ bits .or .i64 x y ≤ 65535) ↔ (0 ≤ x ∧ x ≤ 65535 ∧ 0 ≤ y ∧ y ≤ 65535) := by
  have ex := k_ofInt_toNat x
  have ey := k_ofInt_toNat y
  rw [k_or_def, IntKind.wrap_i64]
  generalize (BitVec.ofInt 64 x).toNat = X at ex ⊢
  generalize (BitVec.ofInt 64 y).toNat = Y at ey ⊢
  have hX : X < 2 ^ 64 := by omega
  have hY : Y < 2 ^ 64 := by omega
  have h1 : X ≤ X ||| Y := Nat.left_le_or
  have h2 : Y ≤ X ||| Y := Nat.right_le_or
  have h3 : X ||| Y < 2 ^ 64 := Nat.or_lt_two_pow hX hY
  have h4 : X < 2 ^ 16 → Y < 2 ^ 16 → X ||| Y < 2 ^ 16 := Nat.or_lt_two_pow
  unfold I64 at hx hy
  generalize X ||| Y = Z at h1 h2 h3 h4 ⊢
  omega
theorem k_or_i64 (x y : Int) : I64 (bits .or .i64 x y) := by
  rw [k_or_def, IntKind.wrap_i64]
  unfold I64
  omega

/-- A datagram, two ends lie in block g. -/
structure Dg (w : World) (g : Nat) (x y : Int) (A : Option Addr) (n c : Nat) : Prop where
  blk : w.heap[g]? = some (.cells #[.int .i64 x, .int .i64 y, .slice A n c] 24 (0, 0))
structure Ends (w : World) (g : Nat) (s d : ByteArray) : Prop where
  blk : w.heap[g]? = some (.cells #[.string s, .string d] 41 (0, 0))
section
variable {w w1 : World} {g : Nat} {x y : Int} {A : Option Addr} {n c : Nat} {s d : ByteArray}
theorem Dg.below (h : Dg w g x y A n c) (hb : Below w.heap.size w w1) : Dg w1 g x y A n c := ⟨blk_below h.blk hb⟩
theorem Dg.c0 (h : Dg w g x y A n c) : w.cell? ⟨g, 0, none⟩ = some (.int .i64 x) := (blk_cell h.blk 0).trans rfl
theorem Dg.c1 (h : Dg w g x y A n c) : w.cell? ⟨g, 1, none⟩ = some (.int .i64 y) := (blk_cell h.blk 1).trans rfl
theorem Dg.c2 (h : Dg w g x y A n c) : w.cell? ⟨g, 2, none⟩ = some (.slice A n c) := (blk_cell h.blk 2).trans rfl
theorem Dg.cs (h : Dg w g x y A n c) : w.cell? ⟨g, 0, none⟩ = some (.int .i64 x) ∧ w.cell? ⟨g, 1, none⟩ = some (.int .i64 y) ∧ w.cell? ⟨g, 2, none⟩ = some (.slice A n c) := ⟨h.c0, h.c1, h.c2⟩
theorem Ends.below (h : Ends w g s d) (hb : Below w.heap.size w w1) : Ends w1 g s d := ⟨blk_below h.blk hb⟩
theorem Ends.c0 (h : Ends w g s d) : w.cell? ⟨g, 0, none⟩ = some (.string s) := (blk_cell h.blk 0).trans rfl
theorem Ends.c1 (h : Ends w g s d) : w.cell? ⟨g, 1, none⟩ = some (.string d) := (blk_cell h.blk 1).trans rfl
theorem Dg.new (w : World) (x y : Int) (A : Option Addr) (n c : Nat) : Dg (w.alloc (.cells #[.int .i64 x, .int .i64 y, .slice A n c] 24)) w.heap.size x y A n c := ⟨blk_new _ _⟩
theorem Dg.alloc (h : Dg w g x y A n c) (o : Obj) : Dg (w.alloc o) g x y A n c := h.below (below_alloc (Below.refl _ _) o)
theorem Ends.alloc (h : Ends w g s d) (o : Obj) : Ends (w.alloc o) g s d := h.below (below_alloc (Below.refl _ _) o)
theorem Ends.new (w : World) (g : Nat) (s d : ByteArray) (hg : w.heap.size = g) : Ends (w.alloc (.cells #[.string s, .string d] 41)) g s d := by subst hg; exact ⟨blk_new _ _⟩
end

set_option maxHeartbeats 1000000 in
theorem udp_Bytes_bad (x y : Int) (A : Option Addr) (n c : Nat) (s d : ByteArray) (w : World) (hx : I64 x) (hy : I64 y) (hs : s.size ≤ 140737488351232) (hd : d.size ≤ 140737488351232) (hn : n ≤ 140737488355328)
    (h : ¬ (0 ≤ x ∧ x ≤ 65535 ∧ 0 ≤ y ∧ y ≤ 65535 ∧ pairOk s.size d.size)) :
    Calls Try.prog 9 #[.agg #[.int .i64 x, .int .i64 y, .slice A n c], .string s, .string d] w fun e w' => e = .returned (.tuple #[.slice none 0 0, .int .i64 1]) ∧ Below w.heap.size w w' := by
  have hB := Below.refl w.heap.size w
  have hl := k_or_low x y hx hy
  have hO := k_or_i64 x y
  unfold I64 at hO
  by_cases h1 : 0 ≤ x ∧ x ≤ 65535 ∧ 0 ≤ y ∧ y ≤ 65535
  · have hp : ¬ pairOk s.size d.size := fun q => h ⟨h1.1, h1.2.1, h1.2.2.1, h1.2.2.2, q⟩
    have h2 := hl.2 h1
    go_enter Try.func9, Try.ntmps9
    go_wp2_with fail
    refine (udp_may_no _ _ _ hs hd hp).mono ?_
    rintro e w2 ⟨rfl, hB2⟩
    replace hB2 := below_step2 (w := w) (by repeat (first | exact Below.refl _ _ | apply below_alloc | apply below_drew | apply pw_below_drewN)) hB2
    replace hB := below_step2 hB hB2
    clear hB2
    go_wp2
    go_ret2
    exact ⟨rfl, hB⟩
  · have h2 : ¬ (0 ≤ bits .or .i64 x y ∧ bits .or .i64 x y ≤ 65535) := fun q => h1 (hl.1 q)
    clear hl
    go_enter Try.func9, Try.ntmps9
    have e1 : (bits .or .i64 x y / 65536 != 0) = true := bne_iff_ne.mpr (by omega)
    go_wp2
    go_ret2
    exact ⟨rfl, below_alloc (below_alloc (Below.refl _ _) _) _⟩

set_option maxHeartbeats 1000000 in
theorem udp_Bytes_long (x y : Int) (A : Option Addr) (n c : Nat) (s d : ByteArray) (w : World) (hs : s.size ≤ 140737488351232) (hd : d.size ≤ 140737488351232) (hn : n ≤ 140737488355328)
    (h1 : 0 ≤ x ∧ x ≤ 65535 ∧ 0 ≤ y ∧ y ≤ 65535) (hp : pairOk s.size d.size) (h : 65535 < 8 + n) :
    Calls Try.prog 9 #[.agg #[.int .i64 x, .int .i64 y, .slice A n c], .string s, .string d] w fun e w' => e = .returned (.tuple #[.slice none 0 0, .int .i64 2]) ∧ Below w.heap.size w w' := by
  have hB := Below.refl w.heap.size w
  have h2 := (k_or_low x y (by unfold I64; omega) (by unfold I64; omega)).2 h1
  have d3 : decide (65535 < 8 + (n : Int)) = true := decide_eq_true (by omega)
  go_enter Try.func9, Try.ntmps9
  go_wp2_with fail
  refine (udp_may_yes _ _ _ hs hd hp).mono ?_
  rintro e w2 ⟨rfl, hB2⟩
  replace hB2 := below_step2 (w := w) (by repeat (first | exact Below.refl _ _ | apply below_alloc | apply below_drew | apply pw_below_drewN)) hB2
  replace hB := below_step2 hB hB2
  clear hB2
  go_wp2
  go_ret2
  exact ⟨rfl, hB⟩

set_option maxHeartbeats 4000000 in
theorem udp_Bytes_ok (x y : Int) (A : Option Addr) (n c : Nat) (xs : List Int) (s d : ByteArray) (w : World) (hs : s.size ≤ 140737488351232) (hd : d.size ≤ 140737488351232) (h0 : Bts w A n c xs)
    (h1 : 0 ≤ x ∧ x ≤ 65535 ∧ 0 ≤ y ∧ y ≤ 65535) (hp : pairOk s.size d.size) (h : 8 + n ≤ 65535) :
    Calls Try.prog 9 #[.agg #[.int .i64 x, .int .i64 y, .slice A n c], .string s, .string d] w fun e w' => ∃ v, e = .returned (.tuple #[v, .int .i64 0]) ∧ OwnB w' w.heap.size v (dgBytes x y xs (bytesOf s) (bytesOf d)) ∧ Below w.heap.size w w' := by
  have hB := Below.refl w.heap.size w
  have h2 := (k_or_low x y (by unfold I64; omega) (by unfold I64; omega)).2 h1
  have d3 : decide (65535 < 8 + (n : Int)) = false := decide_eq_false (by omega)
  go_enter Try.func9, Try.ntmps9
  go_wp2_with fail
  refine (udp_may_yes _ _ _ hs hd hp).mono ?_
  rintro e w2 ⟨rfl, hB2⟩
  have g1 := ((Dg.new w x y A n c).alloc _).below hB2
  have g2 := (Ends.new (w.alloc (.cells #[.int .i64 x, .int .i64 y, .slice A n c] 24)) (w.heap.size + 1) s d (by simp)).below hB2
  replace hB2 := below_step2 (w := w) (below_alloc (below_alloc (Below.refl _ _) _) _) hB2
  replace h0 := h0.below hB2
  replace hB := below_step2 hB hB2
  clear hB2 h2
  have c0 := g1.c0
  have c1 := g1.c1
  have c2 := (g1.alloc (.cells #[.int .u8 (x / 256), .int .u8 (x % 256), .int .u8 (y / 256), .int .u8 (y % 256), .int .u8 ((8 + (n : Int)) / 256), .int .u8 ((8 + (n : Int)) % 256), .int .u8 0, .int .u8 0] 5)).c2
  have c2' := g1.c2
  have hl := h0.len
  have o0 := Lib.hid (OwnB.lit_at w2 w2.heap.size w2.heap.size [x / 256, x % 256, y / 256, y % 256, (8 + (n : Int)) / 256, (8 + (n : Int)) % 256, 0, 0] rfl (Nat.le_refl _) (by simp only [byt_cons]; exact ⟨by omega, by omega, by omega, by omega, by omega, by omega, by omega, by omega, byt_nil⟩) (by simp))
  have G2 := Lib.hid g2
  have H0 := Lib.hid h0
  have HB := Lib.hid hB
  clear g1 g2 h0 hB
  go_wp2_with (at_builtin; refine hid_stop ?_)
  refine Lib.hid ?_
  refine append_own (w0 := w2) w2.heap.size rfl (.tmp 56) (.tmp 58) 22 rfl Try.underlying22 Try.info5 _ _ _ _ _ _ rfl rfl o0.out (H0.out.alloc _) ((Below.refl _ _).alloc (Nat.le_refl _) _) ((Below.refl _ w2).alloc (Nat.le_refl _) _).size (by simp; omega) ?_
  intro v3 w3 ho hB3 hg3
  have e3 : [x / 256, x % 256, y / 256, y % 256, (8 + (n : Int)) / 256, (8 + (n : Int)) % 256, 0, 0] ++ xs = dgFront x y xs ++ [0, 0] ++ xs := by
    unfold dgFront
    rw [hl]
    simp
  rw [e3] at ho
  clear e3 c0 c1 c2 c2' o0 hg3
  obtain ⟨g, m, cap, e1, r⟩ := ho.row (by simp [dgFront])
  subst e1
  have hm : m = 8 + n := by have := r.len; simp [dgFront] at this; omega
  subst hm
  have hww := HB.out.size
  have hgw : w.heap.size ≤ g := Nat.le_trans hww r.base_
  have g2 := G2.out.below hB3
  have hB := below_step2 HB.out hB3
  have c0 := g2.c0
  have c1 := g2.c1
  clear ho G2 H0 HB hB3
  have hD := dgSum_bd (dgFront x y xs ++ [0, 0] ++ xs) (bytesOf s) (bytesOf d)
  have hC : Hid (dgCheck x y xs (bytesOf s) (bytesOf d) = if 65535 - dgSum (dgFront x y xs ++ [0, 0] ++ xs) (bytesOf s) (bytesOf d) = 0 then 65535 else 65535 - dgSum (dgFront x y xs ++ [0, 0] ++ xs) (bytesOf s) (bytesOf d)) := rfl
  go_wp2_with fail
  refine (udp_sum _ _ _ _ _ _ _ hs hd r.bts hp h).mono ?_
  rintro e w4 ⟨rfl, hB4⟩
  generalize dgSum (dgFront x y xs ++ [0, 0] ++ xs) (bytesOf s) (bytesOf d) = D at hD hC ⊢
  replace r := r.below hB4
  replace hB := below_step2 hB hB4
  clear hB4 g2 c0 c1
  have c6 := r.cell 6 (by omega)
  have c7 := r.cell 7 (by omega)
  have f6 := r.free 6 (by omega)
  have f7 := r.free 7 (by omega)
  have R := Lib.hid r
  have HB := Lib.hid hB
  clear r hB
  by_cases hD1 : D = 65535
  · subst hD1
    go_wp2
    go_ret2
    refine ⟨_, rfl, ?_, below_set (below_set HB.out (p := ⟨g, 6, none⟩) hgw _) (p := ⟨g, 7, none⟩) hgw _⟩
    have q := ((R.out.set 6 255 (by omega)).set 7 255 (by omega)).ownB.lower (base' := w.heap.size) hww
    have e : ((dgFront x y xs ++ [0, 0] ++ xs).set 6 255).set 7 255 = dgBytes x y xs (bytesOf s) (bytesOf d) := by
      unfold dgBytes
      rw [hC.out, if_pos (by omega)]
      rfl
    rw [e] at q
    exact q
  · have e5 : (65535 - D == 0) = false := beq_eq_false_iff_ne.mpr (by omega)
    go_wp2
    go_ret2
    refine ⟨_, rfl, ?_, below_set (below_set HB.out (p := ⟨g, 6, none⟩) hgw _) (p := ⟨g, 7, none⟩) hgw _⟩
    have q := ((R.out.set 6 ((65535 - D) / 256) (by omega)).set 7 ((65535 - D) % 256) (by omega)).ownB.lower (base' := w.heap.size) hww
    have e : ((dgFront x y xs ++ [0, 0] ++ xs).set 6 ((65535 - D) / 256)).set 7 ((65535 - D) % 256) = dgBytes x y xs (bytesOf s) (bytesOf d) := by
      unfold dgBytes
      rw [hC.out, if_neg (by omega)]
      rfl
    rw [e] at q
    exact q
end Go.Proofs.Ytbmlbomildfmcaa

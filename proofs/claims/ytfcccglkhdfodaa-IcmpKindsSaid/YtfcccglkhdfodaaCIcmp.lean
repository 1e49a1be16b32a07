/- Contracts of the version's messages, their sums; laying a message. Conditions: those that each lemma states. -/
import Derived.Test.YtfcccglkhdfodaaCPs
import Derived.Test.YtfcccglkhdfodaaIcmp
namespace Go.Proofs.Ytfcccglkhdfodaa
open Go.RowKit Go.Proofs.YtfcccglkhdfodaaW.PrintWords

set_option maxHeartbeats 1000000 in
theorem icmp_of_no (s d : ByteArray) (w : World) (hs : s.size ≤ 140737488351232) (hd : d.size ≤ 140737488351232) (h : ¬ pairOk s.size d.size) :
    Calls Try.prog 23 #[.string s, .string d] w fun e w' => e = .returned (.tuple #[.nilIface, .int .i64 1]) ∧ w = w' := by
  go_enter Try.func23, Try.ntmps23
  go_wp2_with fail
  refine (inet_Pseudo_no _ _ _ _ _ hs hd (fun q => h ((psOk_zero _ _).1 q))).mono ?_
  rintro e w' ⟨rfl, rfl⟩
  go_wp2
  go_ret2
  exact ⟨rfl, rfl⟩

set_option maxHeartbeats 1000000 in
theorem icmp_of_four (s d : ByteArray) (w : World) (hs : s.size ≤ 140737488351232) (hd : d.size ≤ 140737488351232) (h : pairOk s.size d.size) (h4 : s.size = 4) :
    Calls Try.prog 23 #[.string s, .string d] w fun e w' => e = .returned (.tuple #[.iface 61 (.agg #[]), .int .i64 0]) ∧ Below w.heap.size w w' := by
  have hB := Below.refl w.heap.size w
  have d4 : ((s.size : Int) == 4) = true := by rw [beq_iff_eq]; omega
  clear h4
  go_enter Try.func23, Try.ntmps23
  go_wp2_with fail
  refine (inet_Pseudo_yes _ _ _ _ _ hs hd ((psOk_zero _ _).2 h)).mono ?_
  rintro e w2 ⟨rfl, hB2⟩
  replace hB2 := below_step2 (w := w) (by repeat (first | exact Below.refl _ _ | apply below_alloc | apply below_drew | apply pw_below_drewN)) hB2
  replace hB := below_step2 hB hB2
  clear hB2
  go_wp2
  go_ret2
  exact ⟨rfl, hB⟩

set_option maxHeartbeats 1000000 in
theorem icmp_of_six (s d : ByteArray) (w : World) (hs : s.size ≤ 140737488351232) (hd : d.size ≤ 140737488351232) (h : pairOk s.size d.size) (h4 : s.size ≠ 4) :
    Calls Try.prog 23 #[.string s, .string d] w fun e w' => e = .returned (.tuple #[.iface 63 (.agg #[.string s, .string d]), .int .i64 0]) ∧ Below w.heap.size w w' := by
  have hB := Below.refl w.heap.size w
  have d4 : ((s.size : Int) == 4) = false := beq_eq_false_iff_ne.mpr (by omega)
  clear h4
  go_enter Try.func23, Try.ntmps23
  go_wp2_with fail
  refine (inet_Pseudo_yes _ _ _ _ _ hs hd ((psOk_zero _ _).2 h)).mono ?_
  rintro e w2 ⟨rfl, hB2⟩
  replace hB2 := below_step2 (w := w) (by repeat (first | exact Below.refl _ _ | apply below_alloc | apply below_drew | apply pw_below_drewN)) hB2
  replace hB := below_step2 hB hB2
  clear hB2
  go_wp2
  go_ret2
  exact ⟨rfl, hB⟩

set_option maxHeartbeats 1000000 in
theorem icmp_narrow_sum (A : Option Addr) (n c : Nat) (xs : List Int) (w : World) (h : Bts w A n c xs) :
    Calls Try.prog (55) #[.agg #[], .slice A n c] w fun e w' => e = .returned (.int .i64 (sumL xs)) ∧ Below w.heap.size w w' := by
  have hB := below_alloc (Below.refl w.heap.size w) (.cells #[] 61)
  replace h := h.alloc (.cells #[] 61)
  go_enter Try.func55, Try.ntmps55
  go_wp2_with fail
  refine (inet_Sum _ _ _ _ _ h).mono ?_
  rintro e w' ⟨rfl, rfl⟩
  go_wp2
  go_ret
  exact ⟨rfl, hB⟩

set_option maxHeartbeats 1000000 in
theorem icmp_wide_sum (s d : ByteArray) (A : Option Addr) (n c : Nat) (xs : List Int) (w : World) (hs : s.size ≤ 140737488351232) (hd : d.size ≤ 140737488351232) (h : Bts w A n c xs) (hp : pairOk s.size d.size) (hn : n ≤ 65535) :
    Calls Try.prog (56) #[.agg #[.string s, .string d], .slice A n c] w fun e w' => e = .returned (.int .i64 (psSum 58 xs (bytesOf s) (bytesOf d))) ∧ Below w.heap.size w w' := by
  have hB := Below.refl w.heap.size w
  have hv : psSum 58 xs (bytesOf s) (bytesOf d) = addm (canon (psTot (bytesOf s) (bytesOf d) 58 n)) (sumL xs) := by unfold psSum; rw [h.len]
  rw [hv]
  clear hv
  go_enter Try.func56, Try.ntmps56
  go_wp2_with fail
  refine (inet_Pseudo_yes _ _ _ _ _ hs hd (psOk_of hp 58 n (by omega) (by omega) (by omega))).mono ?_
  rintro e w2 ⟨rfl, hB2⟩
  replace hB2 := below_step2 (w := w) (by repeat (first | exact Below.refl _ _ | apply below_alloc | apply below_drew | apply pw_below_drewN)) hB2
  replace h := h.below hB2
  replace hB := below_step2 hB hB2
  clear hB2
  go_wp2_with fail
  refine (inet_Sum _ _ _ _ _ h).mono ?_
  rintro e w' ⟨rfl, rfl⟩
  go_wp2_with fail
  refine (inet_Add _ _ _).mono ?_
  rintro e w' ⟨rfl, rfl⟩
  go_wp2
  go_ret
  exact ⟨rfl, hB⟩
/-- A message lies in block g. -/
structure Mg (w : World) (g : Nat) (t c r : Int) (A : Option Addr) (n k : Nat) : Prop where
  blk : w.heap[g]? = some (.cells #[.int .i64 t, .int .i64 c, .int .i64 r, .slice A n k] 24 (0, 0))
section
variable {w w1 : World} {g : Nat} {t c r : Int} {A : Option Addr} {n k : Nat}
theorem Mg.below (h : Mg w g t c r A n k) (hb : Below w.heap.size w w1) : Mg w1 g t c r A n k := ⟨blk_below h.blk hb⟩
theorem Mg.c0 (h : Mg w g t c r A n k) : w.cell? ⟨g, 0, none⟩ = some (.int .i64 t) := (blk_cell h.blk 0).trans rfl
theorem Mg.c1 (h : Mg w g t c r A n k) : w.cell? ⟨g, 1, none⟩ = some (.int .i64 c) := (blk_cell h.blk 1).trans rfl
theorem Mg.c2 (h : Mg w g t c r A n k) : w.cell? ⟨g, 2, none⟩ = some (.int .i64 r) := (blk_cell h.blk 2).trans rfl
theorem Mg.c3 (h : Mg w g t c r A n k) : w.cell? ⟨g, 3, none⟩ = some (.slice A n k) := (blk_cell h.blk 3).trans rfl
theorem Mg.cs (h : Mg w g t c r A n k) : w.cell? ⟨g, 0, none⟩ = some (.int .i64 t) ∧ w.cell? ⟨g, 1, none⟩ = some (.int .i64 c) ∧ w.cell? ⟨g, 2, none⟩ = some (.int .i64 r) ∧ w.cell? ⟨g, 3, none⟩ = some (.slice A n k) := ⟨h.c0, h.c1, h.c2, h.c3⟩
theorem Mg.f (h : Mg w g t c r A n k) (i : Nat) : w.frozen? ⟨g, i, none⟩ = false := blk_frozen h.blk i
theorem Mg.new (w : World) (t c r : Int) (A : Option Addr) (n k : Nat) : Mg (w.alloc (.cells #[.int .i64 t, .int .i64 c, .int .i64 r, .slice A n k] 24)) w.heap.size t c r A n k := ⟨blk_new _ _⟩
theorem Mg.at (w : World) (g : Nat) (t c r : Int) (A : Option Addr) (n k : Nat) (hg : w.heap.size = g) : Mg (w.alloc (.cells #[.int .i64 t, .int .i64 c, .int .i64 r, .slice A n k] 24)) g t c r A n k := by subst hg; exact Mg.new _ _ _ _ _ _ _
theorem Mg.alloc (h : Mg w g t c r A n k) (o : Obj) : Mg (w.alloc o) g t c r A n k := h.below (below_alloc (Below.refl _ _) o)
theorem Mg.drewN (h : Mg w g t c r A n k) (m : Nat) : Mg (w.drewN m) g t c r A n k := ⟨h.blk⟩
theorem Mg.far (h : Mg w g t c r A n k) {p : Addr} (hne : g ≠ p.block) (v : Value) : Mg (w.setCell p v) g t c r A n k := ⟨blk_far h.blk hne v⟩
theorem Mg.data (h : Mg w g t c r A n k) (A' : Option Addr) (n' k' : Nat) : Mg (w.setCell ⟨g, 3, none⟩ (.slice A' n' k')) g t c r A' n' k' := ⟨blk_set h.blk 3 _⟩
end

theorem k_or_low8 (x y : Int) (hx : I64 x) (hy : I64 y) : (0 ≤ bits .or .i64 x y ∧ bits .or .i64 x y ≤ 255) ↔ (0 ≤ x ∧ x ≤ 255 ∧ 0 ≤ y ∧ y ≤ 255) := by
  have ex := k_ofInt_toNat x
  have ey := k_ofInt_toNat y
  rw [k_or_def, IntKind.wrap_i64]
  generalize (BitVec.ofInt 64 x).toNat = X at ex ⊢
  generalize (BitVec.ofInt 64 y).toNat = Y at ey ⊢
  have hX : X < 2 ^ 64 := by omega
  have hY : Y < 2 ^ 64 := by omega
  have h1 : X ≤ X ||| Y := Nat.left_le_or
  have h2 : Y ≤ X ||| Y := Nat.right_le_or
  have h3 : X ||| Y < 2 ^ 64 := Nat.or_lt_two_pow hX hY
  have h4 : X < 2 ^ 8 → Y < 2 ^ 8 → X ||| Y < 2 ^ 8 := Nat.or_lt_two_pow
  unfold I64 at hx hy
  generalize X ||| Y = Z at h1 h2 h3 h4 ⊢
  omega
theorem k_or_comm (x y : Int) : bits .or .i64 x y = bits .or .i64 y x := by rw [k_or_def, k_or_def, Nat.or_comm]
theorem k_or_shift (a x : Int) (h0 : 0 ≤ a) (h1 : a < 2 ^ 40) (hx : 0 ≤ x ∧ x ≤ 255) : bits .or .i64 (a * 256) x = 256 * a + x := by
  rw [k_or_comm, k_or_join 8 (a * 256) x (by omega) (by omega) (by omega) (by omega) (by omega) (by omega)]
  omega
theorem k_or_i64 (x y : Int) : I64 (bits .or .i64 x y) := by
  rw [k_or_def, IntKind.wrap_i64]
  unfold I64
  omega
end Go.Proofs.Ytfcccglkhdfodaa

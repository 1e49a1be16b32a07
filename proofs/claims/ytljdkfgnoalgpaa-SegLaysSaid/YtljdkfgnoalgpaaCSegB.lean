/- Contracts of Check, Length, Offer, Same, few, out of the printed functions where they serve. Conditions: each argument is of its Go type. -/
import Derived.Test.YtljdkfgnoalgpaaCSeg
import Derived.Test.YtljdkfgnoalgpaaPSegLaysx2
namespace Go.Proofs.Ytljdkfgnoalgpaa
open Go.RowKit Go.Proofs.YtljdkfgnoalgpaaW.PrintWords Go.Proofs.Ytljdkfgnoalgpaa.PSegLays

theorem Bts.toC {w : World} {A : Option Addr} {n c : Nat} {xs : List Int} (h : Bts w A n c xs) : Kd.C (Kd.int .u8) w A n xs := Kd.C_of_reads (d := 0) h.rd
/-- Numbers of Go's int. -/
def SgI (S : Sg) : Prop := I64 S.p ∧ I64 S.q ∧ I64 S.s ∧ I64 S.a ∧ I64 S.f ∧ I64 S.w ∧ I64 S.u
theorem k_or_lown (N : Nat) (hN : ∃ i, N = 2 ^ i ∧ i ≤ 62) (x y : Int) (hx : I64 x) (hy : I64 y) : (0 ≤ bits .or .i64 x y ∧ bits .or .i64 x y < N) ↔ (0 ≤ x ∧ x < N ∧ 0 ≤ y ∧ y < N) := by
  obtain ⟨i, hi, hle⟩ := hN
  have hM : N ≤ 2 ^ 62 := by rw [hi]; exact Nat.pow_le_pow_right (by decide) hle
  have ex := k_ofInt_toNat x
  have ey := k_ofInt_toNat y
  rw [k_or_def, IntKind.wrap_i64]
  generalize (BitVec.ofInt 64 x).toNat = X at ex ⊢
  generalize (BitVec.ofInt 64 y).toNat = Y at ey ⊢
  have hX : X < 2 ^ 64 := by omega
  have hY : Y < 2 ^ 64 := by omega
  have h1 : X ≤ X ||| Y := Nat.left_le_or
  have h2 : Y ≤ X ||| Y := Nat.right_le_or
  have h3 : X ||| Y < 2 ^ 64 := Nat.or_lt_two_pow hX hY
  have h4 : X < N → Y < N → X ||| Y < N := by rw [hi]; exact Nat.or_lt_two_pow
  unfold I64 at hx hy
  generalize X ||| Y = Z at h1 h2 h3 h4 ⊢
  clear hi
  omega
theorem k_or_i64 (x y : Int) : I64 (bits .or .i64 x y) := by
  rw [k_or_def, IntKind.wrap_i64]
  unfold I64
  omega
theorem or_ports {p q w u : Int} (hp : I64 p) (hq : I64 q) (hw : I64 w) (hu : I64 u) : (Go.bits .or .i64 (Go.bits .or .i64 (Go.bits .or .i64 p q) w) u) / 65536 = 0 ↔ ((0 ≤ p ∧ p ≤ 65535) ∧ (0 ≤ q ∧ q ≤ 65535) ∧ (0 ≤ w ∧ w ≤ 65535) ∧ (0 ≤ u ∧ u ≤ 65535)) := by
  have a1 := k_or_lown 65536 ⟨16, rfl, by omega⟩ p q hp hq
  have a2 := k_or_lown 65536 ⟨16, rfl, by omega⟩ _ w (k_or_i64 p q) hw
  have a3 := k_or_lown 65536 ⟨16, rfl, by omega⟩ _ u (k_or_i64 (bits .or .i64 p q) w) hu
  generalize bits .or .i64 (bits .or .i64 (bits .or .i64 p q) w) u = Z3 at a3 ⊢
  generalize bits .or .i64 (bits .or .i64 p q) w = Z2 at a2 a3
  generalize bits .or .i64 p q = Z1 at a1 a2
  omega
theorem or_nums {s a : Int} (hs : I64 s) (ha : I64 a) : (Go.bits .or .i64 s a) / 4294967296 = 0 ↔ ((0 ≤ s ∧ s ≤ 4294967295) ∧ (0 ≤ a ∧ a ≤ 4294967295)) := by
  have a1 := k_or_lown 4294967296 ⟨32, rfl, by omega⟩ s a hs ha
  generalize bits .or .i64 s a = Z1 at a1 ⊢
  omega
theorem wrap_two (m n : Nat) (hm : m ≤ 1000) (hn : n ≤ 140737488355328) : wrap64 (wrap64 (20 + (m : Int)) + (n : Int)) = 20 + (m : Int) + (n : Int) := by
  have h1 : wrap64 (20 + (m : Int)) = 20 + (m : Int) := by unfold wrap64; omega
  rw [h1]
  unfold wrap64; omega
theorem check_f (S : Sg) (o : ByteArray) (xs : List Int) (hS : SgI S) (hx : xs.length ≤ 140737488355328) : seg_Check.f 1 S.p S.q S.s S.a S.f S.w S.u o xs = some (sgErr S o.size xs.length) := by
  obtain ⟨h1, h2, h3, h4, h5, h6, h7⟩ := hS
  have e1 := or_ports h1 h2 h6 h7
  have e2 := or_nums h3 h4
  have hj : ∀ b : Bool, seg_Check.j0 1 b S.p S.q S.s S.a S.f S.w S.u o xs = if b = true then some 1 else if wrap64 (wrap64 (20 + (o.size : Int)) + (xs.length : Int)) > 65535 then some 2 else some 0 := fun _ => rfl
  unfold seg_Check.f
  rw [hj, hj]
  generalize (Go.bits .or .i64 (Go.bits .or .i64 (Go.bits .or .i64 S.p S.q) S.w) S.u) / 65536 = X at e1 ⊢
  generalize (Go.bits .or .i64 S.s S.a) / 4294967296 = Y at e2 ⊢
  have bad : ∀ (_ : ¬ sgOk S o.size), some (1 : Int) = some (sgErr S o.size xs.length) := fun h => by unfold sgErr; rw [if_pos h]
  by_cases q1 : X = 0
  case neg =>
    rw [if_neg q1, if_pos rfl]
    exact bad (fun q => q1 (e1.2 ⟨q.1, q.2.1, q.2.2.1, q.2.2.2.1⟩))
  rw [if_pos q1]
  by_cases q2 : Y = 0
  case neg =>
    rw [if_neg q2, if_pos rfl]
    exact bad (fun q => q2 (e2.2 ⟨q.2.2.2.2.1, q.2.2.2.2.2.1⟩))
  rw [if_pos q2]
  by_cases q3 : S.f / 256 = 0
  case neg =>
    rw [if_neg q3, if_pos rfl]
    exact bad (fun q => q3 (by have := q.2.2.2.2.2.2.1; omega))
  rw [if_pos q3]
  by_cases q4 : (o.size : Int) % 4 = 0
  case neg =>
    rw [if_neg q4, if_pos rfl]
    exact bad (fun q => q4 (by have := q.2.2.2.2.2.2.2.1; omega))
  rw [if_pos q4]
  by_cases q5 : (o.size : Int) > 40
  · rw [decide_eq_true q5, if_pos rfl]
    exact bad (fun q => by have := q.2.2.2.2.2.2.2.2; omega)
  rw [decide_eq_false q5, if_neg (by decide)]
  have hok : sgOk S o.size := by
    have a := e1.1 q1
    have b := e2.1 q2
    exact ⟨a.1, a.2.1, a.2.2.1, a.2.2.2, b.1, b.2, by omega, by omega, by omega⟩
  rw [wrap_two o.size xs.length (by omega) hx]
  unfold sgErr
  rw [if_neg (show ¬ ¬ sgOk S o.size from fun q => q hok)]
  by_cases q6 : 65535 < 20 + o.size + xs.length
  · rw [if_pos (by omega), if_pos q6]
  · rw [if_neg (by omega), if_neg q6]
theorem seg_Check (S : Sg) (o : ByteArray) (A : Option Addr) (n c : Nat) (xs : List Int) (w : World) (hS : SgI S) (h : Bts w A n c xs) :
    Calls Try.prog 12 #[.agg #[.int .i64 S.p, .int .i64 S.q, .int .i64 S.s, .int .i64 S.a, .int .i64 S.f, .int .i64 S.w, .int .i64 S.u, .string o, .slice A n c]] w fun e w' => e = .returned (.int .i64 (sgErr S o.size n)) ∧ Below w.heap.size w w' := by
  obtain rfl := h.len
  exact seg_Check.calls 1 S.p S.q S.s S.a S.f S.w S.u o A c xs _ w h.toC h.le (check_f S o xs hS h.max)
theorem in_f (x m : Int) : redoubtref06_in.f x m = some (decide (0 ≤ x ∧ x ≤ m)) := by
  unfold redoubtref06_in.f
  by_cases h : x ≥ 0
  · rw [if_pos h]
    by_cases h2 : x ≤ m
    · rw [decide_eq_true h2, decide_eq_true ⟨h, h2⟩]
    · rw [decide_eq_false h2, decide_eq_false (fun q => h2 q.2)]
  · rw [if_neg h, decide_eq_false (fun q => h q.1)]
theorem refCheck_f (S : Sg) (o : ByteArray) (xs : List Int) (m : Nat) (hx : xs.length ≤ 140737488355328) : redoubtref06_Check.f (m + 2) S.p S.q S.s S.a S.f S.w S.u o xs = some (sgErr S o.size xs.length) := by
  have bad : ∀ (_ : ¬ sgOk S o.size), some (1 : Int) = some (sgErr S o.size xs.length) := fun h => by unfold sgErr; rw [if_pos h]
  have hj : ∀ b : Bool, redoubtref06_Check.j1 (m + 1) b S.p S.q S.s S.a S.f S.w S.u o xs = if b = true then some 1 else if wrap64 (wrap64 (20 + (o.size : Int)) + (xs.length : Int)) > 65535 then some 2 else some 0 := fun _ => by rw [redoubtref06_Check.j1]
  unfold redoubtref06_Check.f
  simp only [in_f, Option.bind_some, decide_eq_true_eq, hj, redoubtref06_Check.j0]
  by_cases q1 : 0 ≤ S.p ∧ S.p ≤ 65535
  case neg =>
    simp only [q1, if_false, Bool.false_eq_true, if_true]
    exact bad (fun q => q1 q.1)
  by_cases q2 : 0 ≤ S.q ∧ S.q ≤ 65535
  case neg =>
    simp only [q1, q2, if_false, Bool.false_eq_true, if_true]
    exact bad (fun q => q2 q.2.1)
  by_cases q3 : 0 ≤ S.w ∧ S.w ≤ 65535
  case neg =>
    simp only [q1, q2, q3, if_false, Bool.false_eq_true, if_true]
    exact bad (fun q => q3 q.2.2.1)
  by_cases q4 : 0 ≤ S.u ∧ S.u ≤ 65535
  case neg =>
    simp only [q1, q2, q3, q4, if_false, Bool.false_eq_true, if_true]
    exact bad (fun q => q4 q.2.2.2.1)
  by_cases q5 : 0 ≤ S.s ∧ S.s ≤ 4294967295
  case neg =>
    simp only [q1, q2, q3, q4, q5, if_false, Bool.false_eq_true, if_true, and_self]
    exact bad (fun q => q5 q.2.2.2.2.1)
  by_cases q6 : 0 ≤ S.a ∧ S.a ≤ 4294967295
  case neg =>
    simp only [q1, q2, q3, q4, q5, q6, if_false, Bool.false_eq_true, if_true, and_self]
    exact bad (fun q => q6 q.2.2.2.2.2.1)
  by_cases q7 : 0 ≤ S.f ∧ S.f ≤ 255
  case neg =>
    simp only [q1, q2, q3, q4, q5, q6, q7, if_false, Bool.false_eq_true, if_true, and_self]
    exact bad (fun q => q7 q.2.2.2.2.2.2.1)
  by_cases q8 : (o.size : Int) % 4 = 0
  case neg =>
    simp only [q1, q2, q3, q4, q5, q6, q7, q8, if_false, Bool.false_eq_true, if_true, and_self]
    exact bad (fun q => q8 (by have := q.2.2.2.2.2.2.2.1; omega))
  by_cases q9 : (o.size : Int) > 40
  · simp only [q1, q2, q3, q4, q5, q6, q7, q8, q9, if_false, Bool.false_eq_true, if_true, and_self]
    exact bad (fun q => by have := q.2.2.2.2.2.2.2.2; omega)
  simp only [q1, q2, q3, q4, q5, q6, q7, q8, q9, if_false, Bool.false_eq_true, if_true, and_self]
  have hok : sgOk S o.size := ⟨q1, q2, q3, q4, q5, q6, q7, by omega, by omega⟩
  rw [wrap_two o.size xs.length (by omega) hx]
  unfold sgErr
  rw [if_neg (show ¬ ¬ sgOk S o.size from fun q => q hok)]
  by_cases qq : 65535 < 20 + o.size + xs.length
  · rw [if_pos (by omega), if_pos qq]
  · rw [if_neg (by omega), if_neg qq]
theorem ref06_Check (S : Sg) (o : ByteArray) (A : Option Addr) (n c : Nat) (xs : List Int) (w : World) (h : Bts w A n c xs) :
    Calls Try.prog 11 #[.agg #[.int .i64 S.p, .int .i64 S.q, .int .i64 S.s, .int .i64 S.a, .int .i64 S.f, .int .i64 S.w, .int .i64 S.u, .string o, .slice A n c]] w fun e w' => e = .returned (.int .i64 (sgErr S o.size n)) ∧ Below w.heap.size w w' := by
  obtain rfl := h.len
  exact redoubtref06_Check.calls 2 S.p S.q S.s S.a S.f S.w S.u o A c xs _ w h.toC h.le (refCheck_f S o xs 0 h.max)
/-- Same, of two that are. -/
theorem ref06_Same (S : Sg) (o : ByteArray) (A : Option Addr) (n c : Nat) (B : Option Addr) (m d : Nat) (xs : List Int) (w : World) (h : Bts w A n c xs) (h2 : Bts w B m d xs) :
    Calls Try.prog 13 #[.agg #[.int .i64 S.p, .int .i64 S.q, .int .i64 S.s, .int .i64 S.a, .int .i64 S.f, .int .i64 S.w, .int .i64 S.u, .string o, .slice A n c], .agg #[.int .i64 S.p, .int .i64 S.q, .int .i64 S.s, .int .i64 S.a, .int .i64 S.f, .int .i64 S.w, .int .i64 S.u, .string o, .slice B m d]] w fun e w' => e = .returned (.bool true) ∧ Below w.heap.size w w' := by
  obtain rfl := h.len
  obtain rfl := h2.len
  refine redoubtref06_Same.calls S.p S.q S.s S.a S.f S.w S.u o A c xs S.p S.q S.s S.a S.f S.w S.u o B d xs true w h.toC h.le h2.toC h2.le ?_
  unfold redoubtref06_Same.f
  simp only [if_true, beq_self_eq_true]
def fewS (m n : Nat) : Bool := decide (m ≤ 300 ∧ (n ≤ 2000 ∨ (65450 < n ∧ n < 65600)))
theorem law06_few (S : Sg) (o : ByteArray) (A : Option Addr) (n c : Nat) (xs : List Int) (w : World) (h : Bts w A n c xs) :
    Calls Try.prog 8 #[.agg #[.int .i64 S.p, .int .i64 S.q, .int .i64 S.s, .int .i64 S.a, .int .i64 S.f, .int .i64 S.w, .int .i64 S.u, .string o, .slice A n c]] w fun e w' => e = .returned (.bool (fewS o.size n)) ∧ Below w.heap.size w w' := by
  obtain rfl := h.len
  refine redoubtlaw06_few.calls S.p S.q S.s S.a S.f S.w S.u o A c xs _ w h.toC h.le ?_
  unfold redoubtlaw06_few.f fewS
  by_cases q1 : (o.size : Int) ≤ 300
  case neg => rw [if_neg q1, decide_eq_false (fun q => q1 (by omega))]
  rw [if_pos q1]
  by_cases q2 : (xs.length : Int) ≤ 2000
  · rw [if_pos q2, decide_eq_true ⟨by omega, .inl (by omega)⟩]
  rw [if_neg q2]
  by_cases q3 : (xs.length : Int) > 65450
  case neg => rw [if_neg q3, decide_eq_false (fun q => by omega)]
  rw [if_pos q3]
  exact congrArg some (decide_eq_decide.2 (by omega))

/-- How much of a stream a segment takes. -/
def lenS (f : Int) (n : Nat) : Int := n + f / 2 % 2 + f % 2
theorem k_and_2 (f : Int) : bits .and .i64 f 2 = 2 * (f / 2 % 2) := by
  rw [k_and_def, show (BitVec.ofInt 64 2).toNat = 2 from rfl]
  have e := k_ofInt_toNat f
  generalize (BitVec.ofInt 64 f).toNat = F at e ⊢
  have h1 : F &&& 2 ≤ 2 := Nat.and_le_right
  have h2 : (F &&& 2) % 2 ^ 2 = (F % 2 ^ 2) &&& (2 % 2 ^ 2) := Nat.and_mod_two_pow
  have h3 : ∀ r, r < 4 → r &&& 2 = 2 * (r / 2) := by decide
  have h4 := h3 (F % 4) (by omega)
  have h5 : F &&& 2 = 2 * (F % 4 / 2) := by
    have : (F &&& 2) % 4 = (F % 4) &&& 2 := h2
    omega
  rw [h5, k_wrap_nat _ (by omega)]
  omega
theorem k_and_1 (f : Int) : bits .and .i64 f 1 = f % 2 := k_and_mask f 1 (by decide)
set_option maxHeartbeats 1000000 in
theorem seg_Length (S : Sg) (o : ByteArray) (A : Option Addr) (n c : Nat) (w : World) (hn : n ≤ 140737488355328) :
    Calls Try.prog 14 #[.agg #[.int .i64 S.p, .int .i64 S.q, .int .i64 S.s, .int .i64 S.a, .int .i64 S.f, .int .i64 S.w, .int .i64 S.u, .string o, .slice A n c]] w fun e w' => e = .returned (.int .i64 (lenS S.f n)) ∧ Below w.heap.size w w' := by
  have G := Sb.new w S o A n c
  have c4 := G.c4
  have c8 := G.c8
  have e1 := k_and_1 S.f
  have e2 := k_and_2 S.f
  have e3 : Int.tdiv (2 * (S.f / 2 % 2)) 2 = S.f / 2 % 2 := by rw [tdiv_pos _ _ (by omega)]; omega
  have e4 : 2 * (S.f / 2 % 2) / 2 = S.f / 2 % 2 := by omega
  have w0 : IntKind.i64.wrap (S.f / 2 % 2) = S.f / 2 % 2 := IntWalk.i64_in _ (by omega)
  have w1 : IntKind.i64.wrap ((n : Int) + S.f / 2 % 2) = (n : Int) + S.f / 2 % 2 := IntWalk.i64_in _ (by omega)
  have w2 : IntKind.i64.wrap ((n : Int) + S.f / 2 % 2 + S.f % 2) = (n : Int) + S.f / 2 % 2 + S.f % 2 := IntWalk.i64_in _ (by omega)
  clear G
  go_enter Try.func14, Try.ntmps14
  go_wp2
  go_ret
  exact ⟨rfl, below_alloc (Below.refl _ _) _⟩
set_option maxHeartbeats 1000000 in
theorem ref06_Length (S : Sg) (o : ByteArray) (A : Option Addr) (n c : Nat) (w : World) (hn : n ≤ 140737488355328) :
    Calls Try.prog 15 #[.agg #[.int .i64 S.p, .int .i64 S.q, .int .i64 S.s, .int .i64 S.a, .int .i64 S.f, .int .i64 S.w, .int .i64 S.u, .string o, .slice A n c]] w fun e w' => e = .returned (.int .i64 (lenS S.f n)) ∧ Below w.heap.size w w' := by
  have G := Sb.new w S o A n c
  have c4 := G.c4
  have c8 := G.c8
  clear G
  have hQ : Int.tmod (wrap64 (Int.tmod S.f 4 + 4)) 4 = S.f % 4 ∧ Int.tmod (wrap64 (Int.tmod S.f 4 + 4)) 2 = S.f % 2 := by
    have h := Int.tmod_add_mul_tdiv S.f 4
    have h1 := Int.tmod_lt_of_pos S.f (by decide : (0:Int) < 4)
    have h2 : -4 < Int.tmod S.f 4 := by
      rcases Int.le_total 0 S.f with h | h
      · have := Int.tmod_nonneg 4 h; omega
      · have e : Int.tmod S.f 4 = - Int.tmod (-S.f) 4 := by rw [Int.neg_tmod]; omega
        have := Int.tmod_lt_of_pos (-S.f) (by decide : (0:Int) < 4)
        omega
    have h3 : wrap64 (Int.tmod S.f 4 + 4) = Int.tmod S.f 4 + 4 := by unfold wrap64; omega
    rw [h3, tmod_pos _ 4 (by omega), tmod_pos _ 2 (by omega)]
    omega
  replace hQ := Lib.hid hQ
  go_enter Try.func15, Try.ntmps15
  go_wp2
  all_goals
    obtain ⟨hQ1, hQ2⟩ := hQ.out
    go_ret
    refine ⟨ret_int ?_, below_alloc (Below.refl _ _) _⟩
    rename_i hb1 hb2
    simp only [beq_iff_eq, beq_eq_false_iff_ne, ne_eq, hQ1, hQ2] at hb1 hb2
    unfold lenS
    omega
end Go.Proofs.Ytljdkfgnoalgpaa

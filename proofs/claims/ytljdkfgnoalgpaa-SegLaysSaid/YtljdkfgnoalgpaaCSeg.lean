/- A segment in memory; contracts of two, and of the sum. Conditions: those that each lemma states. -/
import Derived.Test.YtljdkfgnoalgpaaCPs
import Derived.Test.YtljdkfgnoalgpaaSeg
namespace Go.Proofs.Ytljdkfgnoalgpaa
open Go.RowKit Go.Proofs.YtljdkfgnoalgpaaW.PrintWords

/-- A segment's value, a segment's cells. -/
abbrev sgV (S : Sg) (o : ByteArray) (A : Option Addr) (n k : Nat) : Array Value := #[.int .i64 S.p, .int .i64 S.q, .int .i64 S.s, .int .i64 S.a, .int .i64 S.f, .int .i64 S.w, .int .i64 S.u, .string o, .slice A n k]
/-- A segment lies in block g. -/
structure Sb (w : World) (g : Nat) (S : Sg) (o : ByteArray) (A : Option Addr) (n k : Nat) : Prop where
  blk : w.heap[g]? = some (.cells #[.int .i64 S.p, .int .i64 S.q, .int .i64 S.s, .int .i64 S.a, .int .i64 S.f, .int .i64 S.w, .int .i64 S.u, .string o, .slice A n k] 24 (0, 0))
section
variable {w w1 : World} {g : Nat} {S : Sg} {o : ByteArray} {A : Option Addr} {n k : Nat}
theorem Sb.below (h : Sb w g S o A n k) (hb : Below w.heap.size w w1) : Sb w1 g S o A n k := ⟨blk_below h.blk hb⟩
theorem Sb.c0 (h : Sb w g S o A n k) : w.cell? ⟨g, 0, none⟩ = some (.int .i64 S.p) := (blk_cell h.blk 0).trans rfl
theorem Sb.c1 (h : Sb w g S o A n k) : w.cell? ⟨g, 1, none⟩ = some (.int .i64 S.q) := (blk_cell h.blk 1).trans rfl
theorem Sb.c2 (h : Sb w g S o A n k) : w.cell? ⟨g, 2, none⟩ = some (.int .i64 S.s) := (blk_cell h.blk 2).trans rfl
theorem Sb.c3 (h : Sb w g S o A n k) : w.cell? ⟨g, 3, none⟩ = some (.int .i64 S.a) := (blk_cell h.blk 3).trans rfl
theorem Sb.c4 (h : Sb w g S o A n k) : w.cell? ⟨g, 4, none⟩ = some (.int .i64 S.f) := (blk_cell h.blk 4).trans rfl
theorem Sb.c5 (h : Sb w g S o A n k) : w.cell? ⟨g, 5, none⟩ = some (.int .i64 S.w) := (blk_cell h.blk 5).trans rfl
theorem Sb.c6 (h : Sb w g S o A n k) : w.cell? ⟨g, 6, none⟩ = some (.int .i64 S.u) := (blk_cell h.blk 6).trans rfl
theorem Sb.c7 (h : Sb w g S o A n k) : w.cell? ⟨g, 7, none⟩ = some (.string o) := (blk_cell h.blk 7).trans rfl
theorem Sb.c8 (h : Sb w g S o A n k) : w.cell? ⟨g, 8, none⟩ = some (.slice A n k) := (blk_cell h.blk 8).trans rfl
theorem Sb.f (h : Sb w g S o A n k) (i : Nat) : w.frozen? ⟨g, i, none⟩ = false := blk_frozen h.blk i
theorem Sb.new (w : World) (S : Sg) (o : ByteArray) (A : Option Addr) (n k : Nat) : Sb (w.alloc (.cells #[.int .i64 S.p, .int .i64 S.q, .int .i64 S.s, .int .i64 S.a, .int .i64 S.f, .int .i64 S.w, .int .i64 S.u, .string o, .slice A n k] 24)) w.heap.size S o A n k := ⟨blk_new _ _⟩
theorem Sb.at (w : World) (g : Nat) (S : Sg) (o : ByteArray) (A : Option Addr) (n k : Nat) (hg : w.heap.size = g) : Sb (w.alloc (.cells #[.int .i64 S.p, .int .i64 S.q, .int .i64 S.s, .int .i64 S.a, .int .i64 S.f, .int .i64 S.w, .int .i64 S.u, .string o, .slice A n k] 24)) g S o A n k := by subst hg; exact Sb.new _ _ _ _ _ _
theorem Sb.alloc (h : Sb w g S o A n k) (x : Obj) : Sb (w.alloc x) g S o A n k := h.below (below_alloc (Below.refl _ _) x)
theorem Sb.drew (h : Sb w g S o A n k) : Sb w.drew g S o A n k := ⟨h.blk⟩
theorem Sb.far (h : Sb w g S o A n k) {p : Addr} (hne : g ≠ p.block) (v : Value) : Sb (w.setCell p v) g S o A n k := ⟨blk_far h.blk hne v⟩
end

/-- Numbers, each as two bytes. -/
def twos : List Int → List Int
  | [] => []
  | x :: r => x / 256 % 256 :: x % 256 :: twos r
theorem twos_snoc : ∀ (l : List Int) (x : Int), twos (l ++ [x]) = twos l ++ [x / 256 % 256, x % 256]
  | [], _ => rfl
  | y :: r, x => by rw [List.cons_append, twos, twos_snoc r x]; rfl
theorem twos_len : ∀ l : List Int, (twos l).length = 2 * l.length
  | [] => rfl
  | x :: r => by rw [twos, List.length_cons, List.length_cons, twos_len r, List.length_cons]; omega
theorem twos_take (l : List Int) (i : Nat) (h : i < l.length) : twos (l.take (i + 1)) = twos (l.take i) ++ [l.getD i 0 / 256 % 256, l.getD i 0 % 256] := by
  rw [List.take_succ_eq_append_getElem h, twos_snoc]
  simp [List.getD_eq_getElem?_getD, List.getElem?_eq_getElem h]

/-- A block of numbers. -/
abbrev intsO (ls : List Int) : Obj := .cells (nums .i64 ls).toArray 3
theorem ints_cell {w : World} {g : Nat} {ls : List Int} (h : w.heap[g]? = some (intsO ls)) (i : Nat) (hi : i < ls.length) : w.cell? ⟨g, i, none⟩ = some (.int .i64 (ls.getD i 0)) := by
  refine (blk_cell h i).trans ?_
  simp [nums, hi, List.getD_eq_getElem?_getD]
theorem OwnB.ne_ints {w : World} {base g : Nat} {v : Value} {xs ls : List Int} (h : OwnB w base v xs) (hb : w.heap[g]? = some (intsO ls)) : some g ≠ v.ownBlock := by
  intro e
  rcases h.own.2 with ⟨rfl, _⟩ | ⟨g', cap, cur, rfl, _, hgb, _⟩
  · simp [Value.ownBlock] at e
  · obtain rfl : g = g' := by simpa [Value.ownBlock] using e
    rw [hb] at hgb
    simp at hgb

set_option maxHeartbeats 2000000 in
/-- two, appended to a slice of the caller's own. -/
theorem seg_two (base : Nat) (w0 : World) (v : Value) (xs : List Int) (g m c : Nat) (ls : List Int) (w : World) (ho : OwnB w base v xs) (hl : ls.length = m) (hm : m ≤ 1000) (hg : w.heap[g]? = some (intsO ls)) (hb : base ≤ w.heap.size) (hB : Below base w0 w) (hx : xs.length + 2 * m ≤ 140737488355328) :
    Calls Try.prog 25 #[v, .slice (some ⟨g, 0, none⟩) m c] w fun e w' => ∃ v', e = .returned v' ∧ OwnB w' base v' (xs ++ twos ls) ∧ Below base w0 w' := by
  have O := Lib.hid (show OwnB w base v (xs ++ twos (ls.take 0)) by simpa [twos] using ho)
  have G := Lib.hid hg
  have HB := Lib.hid hB
  have HZ := Lib.hid hb
  clear ho hg hB hb
  go_enter Try.func25, Try.ntmps25
  go_wp2
  go_loopw [0, 9] (fun vo vi wr => ∃ i : Nat, i ≤ m ∧ vi = .int .i64 (i : Int) ∧ Hid (OwnB wr base vo (xs ++ twos (ls.take i))) ∧ Hid (wr.heap[g]? = some (intsO ls)) ∧ Hid (Below base w0 wr) ∧ Hid (base ≤ wr.heap.size)) (fun _ vi _ => m - (intOf vi).toNat)
  case atStart => exact ⟨0, by omega, rfl, O, G, HB, HZ⟩
  case round =>
    clear O G HB HZ
    obtain ⟨i, hi, rfl, O, G, HB, HZ⟩ := hrel
    by_cases hlt : i < m
    · have i1 : (i : Int) < (m : Int) := by omega
      have ci := ints_cell G.out i (by omega)
      have hlen : Hid ((xs ++ twos (ls.take i)).length = xs.length + 2 * i) := Lib.hid (by rw [List.length_append, twos_len, List.length_take]; omega)
      have ht : Hid (xs ++ twos (ls.take (i + 1)) = (xs ++ twos (ls.take i)) ++ [ls.getD i 0 / 256 % 256, ls.getD i 0 % 256]) := Lib.hid (by rw [twos_take ls i (by omega), List.append_assoc])
      have hz : Hid (I64 (ls.getD i 0) → True) := Lib.hid (fun _ => trivial)
      clear hz
      generalize ls.getD i 0 = x at ci ht
      have K := Lib.hid (Bts.lit_at wr wr.heap.size 5 [x / 256 % 256, x % 256] rfl (by simp only [byt_cons]; exact ⟨by omega, by omega, byt_nil⟩) (by simp))
      have O2 := Lib.hid (O.out.alloc (.cells (nums .u8 [x / 256 % 256, x % 256]).toArray 5))
      have HB2 := Lib.hid (HB.out.alloc HZ.out (.cells (nums .u8 [x / 256 % 256, x % 256]).toArray 5))
      have HZ2 : Hid (base ≤ (wr.alloc (.cells (nums .u8 [x / 256 % 256, x % 256]).toArray 5)).heap.size) := Lib.hid (by rw [World.size_alloc]; exact Nat.le_succ_of_le HZ.out)
      have G2 := Lib.hid (show (wr.alloc (.cells (nums .u8 [x / 256 % 256, x % 256]).toArray 5)).heap[g]? = some (intsO ls) from blk_below G.out (below_alloc (Below.refl _ _) _))
      go_wp2_with (at_builtin; refine append_own (w0 := w0) base rfl (.tmp 13) (.tmp 19) 22 rfl Try.underlying22 Try.info5 _ _ _ _ _ _ rfl rfl O2.out K.out HB2.out HZ2.out ?_ ?_)
      · rw [hlen.out]; simp; omega
      · intro v1 w1 ho1 hB1 hg1
        have G3 := Lib.hid ((hg1.block g (Array.getElem?_eq_some_iff.1 G2.out).1 (O2.out.ne_ints G2.out)).trans G2.out)
        have HZ3 := Lib.hid (Nat.le_trans HZ2.out hg1.size)
        replace ho1 : Hid (OwnB w1 base v1 (xs ++ twos (ls.take (i + 1)))) := Lib.hid (by rw [ht.out, List.append_assoc]; exact ho1)
        replace hB1 := Lib.hid hB1
        clear O G HB HZ O2 HB2 HZ2 G2 K hg1 ci ht hlen
        go_wp2
        refine ⟨⟨i + 1, by omega, by go_num, ho1, G3, hB1, HZ3⟩, by simp [intOf]; omega⟩
    · obtain rfl : i = m := by omega
      have ht : ls.take i = ls := List.take_of_length_le (by omega)
      rw [ht] at O
      go_wp2
      go_ret
      exact ⟨_, rfl, O.out, HB.out⟩
theorem k_or_comm (x y : Int) : bits .or .i64 x y = bits .or .i64 y x := by rw [k_or_def, k_or_def, Nat.or_comm]
theorem k_or_shift (a x : Int) (h0 : 0 ≤ a) (h1 : a < 2 ^ 40) (hx : 0 ≤ x ∧ x ≤ 255) : bits .or .i64 (a * 256) x = 256 * a + x := by
  rw [k_or_comm, k_or_join 8 (a * 256) x (by omega) (by omega) (by omega) (by omega) (by omega) (by omega)]
  omega
end Go.Proofs.Ytljdkfgnoalgpaa

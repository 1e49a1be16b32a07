/- Contracts of the signs of a version, kinds, what is made of a kind. Conditions: those that each lemma states. -/
import Derived.Test.YtfcccglkhdfodaaCIcmpC
import Derived.Laws.Tables
import Derived.Laws.Rows
namespace Go.Proofs.Ytfcccglkhdfodaa
open Go.RowKit Go.Proofs.YtfcccglkhdfodaaW.PrintWords

/-- The signs: kind, type, code (-1: every), the first code. -/
def rows (wide : Bool) : List (Int × Int × Int × Int) :=
  if wide then [(1, 128, 0, 0), (2, 129, 0, 0), (3, 1, -1, 0), (4, 2, -1, 0), (5, 3, -1, 0), (6, 4, -1, 0)]
  else [(1, 8, 0, 0), (2, 0, 0, 0), (4, 3, 4, 4), (3, 3, -1, 1), (5, 11, -1, 0), (6, 12, -1, 0)]
def rowCells (q : Int × Int × Int × Int) : List Value := [.int .i64 q.1, .int .i64 q.2.1, .int .i64 q.2.2.1, .int .i64 q.2.2.2]
def signs (wide : Bool) : Array Value := ((rows wide).map rowCells).flatten.toArray
theorem signs_size (wide : Bool) : (signs wide).size = 24 := by cases wide <;> rfl
theorem signs_one (wide : Bool) : (signs wide).all (·.oneCell') = true := by cases wide <;> decide +kernel

def zero24 : Array Value := (List.replicate 24 (Value.int .i64 0)).toArray
theorem signs_info (wide : Bool) : (Try.prog.info? 56).map (·.size) = some (signs wide).size := by rw [signs_size]; kernel_rfl
theorem below_setRow {w W : World} {base : Nat} (h : Below base w W) {g : Nat} (hg : base ≤ g) (cs : Array Value) : Below base w (W.setRow g cs) :=
  h.trans ⟨rfl, rfl, rfl, Nat.le_of_eq (by simp [World.setRow]), fun k hk => by
    simp only [World.setRow, Array.getElem?_modify]
    rw [if_neg (by omega)]⟩
/-- The return of a function whose one result lies in memory. -/
theorem ret_cell1 {P : Program} {fn : Func} {p : Tmp} {ty : TypeId} (hr : fn.results = #[.cell p ty]) {R : Ending → World → Prop} {tmps : Array Value} {w : World} {g : Nat} {t : TypeId} {cs : Array Value} {d : TypeDesc}
    (hp : tmps.getD p undef = .pointer (some ⟨g, 0, none⟩)) (hg : w.heap[g]? = some (.cells cs t (0, 0))) (hu : P.underlying ty = some d) (hd : (match d with | .struct _ | .array _ _ => true | _ => false) = true) (hi : (P.info? ty).map (·.size) = some cs.size)
    (h : R (.returned (.agg cs)) w) : bodyPost P fn R .ret { tmps := tmps, defers := [] } w :=
  ⟨rfl, _, results_cell_row hr tmps w g t cs (0, 0) d hp hg hu hd hi, h⟩


set_option maxHeartbeats 1000000 in
theorem icmp_signs (wide : Bool) (w : World) :
    Calls Try.prog 29 #[.bool wide] w fun e w' => e = .returned (.agg (signs wide)) ∧ Below w.heap.size w w' := by
  cases wide
  · go_enter Try.func29, Try.ntmps29
    go_wp2_with (refine wpList_store_row rfl 56 _ _ rfl w.heap.size (signs false) rfl rfl 56 zero24 (blk_new w _) (signs_info _) rfl (signs_one _) (hid_stop ?_))
    have B := below_setRow (below_alloc (Below.refl w.heap.size w) (.cells zero24 56)) (g := w.heap.size) (Nat.le_refl _) (signs false)
    have Q := setRow_heap (w.alloc (.cells zero24 56)) w.heap.size _ (signs false) _ _ (blk_new w _)
    refine Lib.hid ?_
    change wpList _ _ _ _ _ ((w.alloc (.cells zero24 56)).setRow w.heap.size (signs false))
    generalize (w.alloc (.cells zero24 56)).setRow w.heap.size (signs false) = w2 at B Q ⊢
    go_wp2
    exact ret_cell1 rfl rfl Q Try.underlying56 rfl (signs_info _) ⟨rfl, B⟩
  · go_enter Try.func29, Try.ntmps29
    go_wp2_with (refine wpList_store_row rfl 56 _ _ rfl w.heap.size (signs true) rfl rfl 56 zero24 (blk_new w _) (signs_info _) rfl (signs_one _) (hid_stop ?_))
    have B := below_setRow (below_alloc (Below.refl w.heap.size w) (.cells zero24 56)) (g := w.heap.size) (Nat.le_refl _) (signs true)
    have Q := setRow_heap (w.alloc (.cells zero24 56)) w.heap.size _ (signs true) _ _ (blk_new w _)
    refine Lib.hid ?_
    change wpList _ _ _ _ _ ((w.alloc (.cells zero24 56)).setRow w.heap.size (signs true))
    generalize (w.alloc (.cells zero24 56)).setRow w.heap.size (signs true) = w2 at B Q ⊢
    go_wp2
    exact ret_cell1 rfl rfl Q Try.underlying56 rfl (signs_info _) ⟨rfl, B⟩

theorem slices_Clone_any (A : Option Addr) (n c : Nat) (xs : List Int) (w : World) (h : Bts w A n c xs) :
    Calls Try.prog (28) #[.slice A n c] w fun e w' => ∃ v, e = .returned v ∧ OwnB w' w.heap.size v xs ∧ Below w.heap.size w w' := by
  cases A with
  | some ad => exact slices_Clone ad n c xs w h
  | none =>
    have hn : n = 0 := by
      rcases Nat.eq_zero_or_pos n with q | q
      · exact q
      · obtain ⟨_, e, _⟩ := h.some_ q; cases e
    subst hn
    obtain rfl : xs = [] := List.eq_nil_of_length_eq_zero h.len
    have hnil : (binOp .eql 22 (.slice none 0 c) (.slice none 0 0)).run Try.prog w = .ok (.bool true) w := Lib.run_eql_slice_nil w _ _ _ _ _ _ _ Try.underlying22
    go_enter Try.func28, Try.ntmps28
    go_wp2
    go_ret
    exact ⟨_, rfl, OwnB.nil_ _ _, Below.refl _ _⟩

set_option maxHeartbeats 400000 in
theorem icmp_Error (k : Int) (w : World) : Calls Try.prog 21 #[.int .i64 k] w fun e w' => e = .returned (.bool (decide (3 ≤ k ∧ k ≤ 6))) ∧ w = w' := by
  by_cases h0 : 3 ≤ k
  · by_cases h1 : k ≤ 6
    · go_enter Try.func21, Try.ntmps21
      go_wp2
      go_ret
      exact ⟨by simp [h0, h1], rfl⟩
    · have d1 : decide (k ≤ 6) = false := decide_eq_false h1
      go_enter Try.func21, Try.ntmps21
      go_wp2
      go_ret
      exact ⟨by simp, rfl⟩
  · have d0 : decide (3 ≤ k) = false := decide_eq_false h0
    go_enter Try.func21, Try.ntmps21
    go_wp2
    go_ret
    exact ⟨by simp, rfl⟩

set_option maxHeartbeats 1000000 in
theorem ref07_Same (x y r x' y' r' : Int) (A A' : Option Addr) (n c n' c' : Nat) (xs ys : List Int) (w : World) (h : Bts w A n c xs) (h' : Bts w A' n' c' ys) :
    Calls Try.prog 12 #[.agg #[.int .i64 x, .int .i64 y, .int .i64 r, .slice A n c], .agg #[.int .i64 x', .int .i64 y', .int .i64 r', .slice A' n' c']] w fun e w' => e = .returned (.bool (decide (x = x' ∧ y = y' ∧ r = r' ∧ xs = ys))) ∧ Below w.heap.size w w' := by
  have hB0 : Below w.heap.size w ((w.alloc (.cells #[.int .i64 x, .int .i64 y, .int .i64 r, .slice A n c] 24)).alloc (.cells #[.int .i64 x', .int .i64 y', .int .i64 r', .slice A' n' c'] 24)) := below_alloc (below_alloc (Below.refl _ _) _) _
  have hB := Lib.hid hB0
  have k1 := (h.below hB0).run_string (P := Try.prog) 22 9 Try.underlying22 Try.underlying5 Try.underlying9
  have k2 := (h'.below hB0).run_string (P := Try.prog) 22 9 Try.underlying22 Try.underlying5 Try.underlying9
  have e1 := str_eqb h.byt h'.byt
  clear hB0 h h'
  go_enter Try.func12, Try.ntmps12
  by_cases h0 : x = x'
  · subst h0
    by_cases h1 : y = y'
    · subst h1
      by_cases h3 : r = r'
      · subst h3
        by_cases h2 : xs = ys
        · subst h2
          clear e1
          go_wp2
          go_ret
          exact ⟨by simp, hB.out⟩
        · have e2 : decide (xs = ys) = false := decide_eq_false h2
          rw [e2] at e1
          go_wp2
          go_ret
          exact ⟨by simp, hB.out⟩
      · have d1 : (r == r') = false := beq_eq_false_iff_ne.mpr h3
        go_wp2
        go_ret
        exact ⟨by simp, hB.out⟩
    · have d1 : (y == y') = false := beq_eq_false_iff_ne.mpr h1
      go_wp2
      go_ret
      exact ⟨by simp, hB.out⟩
  · have d0 : (x == x') = false := beq_eq_false_iff_ne.mpr h0
    go_wp2
    go_ret
    exact ⟨by simp [h0], hB.out⟩
end Go.Proofs.Ytfcccglkhdfodaa

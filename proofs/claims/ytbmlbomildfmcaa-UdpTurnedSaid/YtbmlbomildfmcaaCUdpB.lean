/- Contracts of functions that take datagrams: which are few, which may be, which are the same; a copy. Conditions: those that each lemma states. -/
import Derived.Test.YtbmlbomildfmcaaCUdp
import Derived.Test.YtbmlbomildfmcaaStr
import Derived.Lib.SliceRun
namespace Go.Proofs.Ytbmlbomildfmcaa
open Go.RowKit Go.Proofs.YtbmlbomildfmcaaW.PrintWords

def fewOk (a b n : Nat) : Prop := a + b ≤ 300 ∧ (n ≤ 2000 ∨ (65500 < n ∧ n < 65600))
instance (a b n : Nat) : Decidable (fewOk a b n) := by unfold fewOk; infer_instance
set_option maxHeartbeats 1000000 in
theorem law05_few (x y : Int) (A : Option Addr) (n c : Nat) (s d : ByteArray) (w : World) (hs : s.size ≤ 140737488351232) (hd : d.size ≤ 140737488351232) (hn : n ≤ 140737488355328) :
    Calls Try.prog 7 #[.agg #[.int .i64 x, .int .i64 y, .slice A n c], .string s, .string d] w fun e w' => e = .returned (.bool (decide (fewOk s.size d.size n))) ∧ Below w.heap.size w w' := by
  have hB : Hid (Below w.heap.size w (w.alloc (.cells #[.int .i64 x, .int .i64 y, .slice A n c] 24))) := Lib.hid (below_alloc (Below.refl _ _) _)
  go_enter Try.func7, Try.ntmps7
  by_cases h0 : s.size + d.size ≤ 300
  · have d0 : decide ((s.size : Int) + (d.size : Int) ≤ 300) = true := decide_eq_true (by omega)
    have d0' : decide (s.size + d.size ≤ 300) = true := decide_eq_true h0
    by_cases h1 : n ≤ 2000
    · have d1 : decide ((n : Int) ≤ 2000) = true := decide_eq_true (by omega)
      have d1' : decide (n ≤ 2000) = true := decide_eq_true h1
      have e : decide (fewOk s.size d.size n) = true := decide_eq_true ⟨h0, .inl h1⟩
      rw [e]
      go_wp2
      go_ret
      exact ⟨rfl, hB.out⟩
    · have d1 : decide ((n : Int) ≤ 2000) = false := decide_eq_false (by omega)
      have d1' : decide (n ≤ 2000) = false := decide_eq_false h1
      by_cases h2 : 65500 < n
      · have d2 : decide (65500 < (n : Int)) = true := decide_eq_true (by omega)
        have d2' : decide (65500 < n) = true := decide_eq_true h2
        by_cases h3 : n < 65600
        · have d3 : decide ((n : Int) < 65600) = true := decide_eq_true (by omega)
          have d3' : decide (n < 65600) = true := decide_eq_true h3
          have e : decide (fewOk s.size d.size n) = true := decide_eq_true ⟨h0, .inr ⟨h2, h3⟩⟩
          rw [e]
          go_wp2
          go_ret
          exact ⟨rfl, hB.out⟩
        · have d3 : decide ((n : Int) < 65600) = false := decide_eq_false (by omega)
          have d3' : decide (n < 65600) = false := decide_eq_false h3
          have e : decide (fewOk s.size d.size n) = false := decide_eq_false (by unfold fewOk; omega)
          rw [e]
          go_wp2
          go_ret
          exact ⟨rfl, hB.out⟩
      · have d2 : decide (65500 < (n : Int)) = false := decide_eq_false (by omega)
        have d2' : decide (65500 < n) = false := decide_eq_false h2
        have e : decide (fewOk s.size d.size n) = false := decide_eq_false (by unfold fewOk; omega)
        rw [e]
        go_wp2
        go_ret
        exact ⟨rfl, hB.out⟩
  · have d0 : decide ((s.size : Int) + (d.size : Int) ≤ 300) = false := decide_eq_false (by omega)
    have d0' : decide (s.size + d.size ≤ 300) = false := decide_eq_false h0
    have e : decide (fewOk s.size d.size n) = false := decide_eq_false (by unfold fewOk; omega)
    rw [e]
    go_wp2
    go_ret
    exact ⟨rfl, hB.out⟩

set_option maxHeartbeats 1000000 in
theorem ref05_Check (x y : Int) (A : Option Addr) (n c : Nat) (s d : ByteArray) (w : World) (hn : n ≤ 140737488355328) :
    Calls Try.prog 10 #[.agg #[.int .i64 x, .int .i64 y, .slice A n c], .string s, .string d] w fun e w' => e = .returned (.int .i64 (dgLayErr x y n s.size d.size)) ∧ Below w.heap.size w w' := by
  have hB : Hid (Below w.heap.size w (w.alloc (.cells #[.int .i64 x, .int .i64 y, .slice A n c] 24))) := Lib.hid (below_alloc (Below.refl _ _) _)
  go_enter Try.func10, Try.ntmps10
  go_wp2_with fail
  refine (ref05_port _ _).mono ?_
  rintro e w' ⟨rfl, rfl⟩
  by_cases h0 : 0 ≤ x ∧ x ≤ 65535
  · have d0 : decide (0 ≤ x ∧ x ≤ 65535) = true := decide_eq_true h0
    rw [d0]
    go_wp2_with fail
    refine (ref05_port _ _).mono ?_
    rintro e w' ⟨rfl, rfl⟩
    by_cases h1 : 0 ≤ y ∧ y ≤ 65535
    · have d1 : decide (0 ≤ y ∧ y ≤ 65535) = true := decide_eq_true h1
      rw [d1]
      go_wp2_with fail
      refine (ref05_Pair _ _ _).mono ?_
      rintro e w' ⟨rfl, rfl⟩
      by_cases h2 : pairOk s.size d.size
      · have d2 : decide (pairOk s.size d.size) = true := decide_eq_true h2
        rw [d2]
        by_cases h3 : 65535 < 8 + n
        · have d3 : decide (65535 < 8 + (n : Int)) = true := decide_eq_true (by omega)
          have d3' : decide (65535 < 8 + n) = true := decide_eq_true h3
          have e : dgLayErr x y n s.size d.size = 2 := by unfold dgLayErr; rw [if_neg (by simp only [Decidable.not_not]; exact ⟨h0.1, h0.2, h1.1, h1.2, h2⟩), if_pos h3]
          replace e := Lib.hid e
          clear h0 h1 h2 d0 d1 d2
          go_wp2
          go_ret
          exact ⟨ret_int e.out.symm, hB.out⟩
        · have d3 : decide (65535 < 8 + (n : Int)) = false := decide_eq_false (by omega)
          have d3' : decide (65535 < 8 + n) = false := decide_eq_false h3
          have e : dgLayErr x y n s.size d.size = 0 := by unfold dgLayErr; rw [if_neg (by simp only [Decidable.not_not]; exact ⟨h0.1, h0.2, h1.1, h1.2, h2⟩), if_neg h3]
          replace e := Lib.hid e
          clear h0 h1 h2 d0 d1 d2
          go_wp2
          go_ret
          exact ⟨ret_int e.out.symm, hB.out⟩
      · have d2 : decide (pairOk s.size d.size) = false := decide_eq_false h2
        rw [d2]
        have e : dgLayErr x y n s.size d.size = 1 := by unfold dgLayErr; rw [if_pos (fun q => h2 q.2.2.2.2)]
        replace e := Lib.hid e
        clear h0 h1 h2 d0 d1 d2
        go_wp2
        go_ret
        exact ⟨ret_int e.out.symm, hB.out⟩
    · have d1 : decide (0 ≤ y ∧ y ≤ 65535) = false := decide_eq_false h1
      rw [d1]
      have e : dgLayErr x y n s.size d.size = 1 := by unfold dgLayErr; rw [if_pos (fun q => h1 ⟨q.2.2.1, q.2.2.2.1⟩)]
      replace e := Lib.hid e
      clear h0 h1 d0 d1
      go_wp2
      go_ret
      exact ⟨ret_int e.out.symm, hB.out⟩
  · have d0 : decide (0 ≤ x ∧ x ≤ 65535) = false := decide_eq_false h0
    rw [d0]
    have e : dgLayErr x y n s.size d.size = 1 := by unfold dgLayErr; rw [if_pos (fun q => h0 ⟨q.1, q.2.1⟩)]
    replace e := Lib.hid e
    clear h0 d0
    go_wp2
    go_ret
    exact ⟨ret_int e.out.symm, hB.out⟩

set_option maxHeartbeats 1000000 in
theorem ref05_Same (x y x' y' : Int) (A A' : Option Addr) (n c n' c' : Nat) (xs ys : List Int) (w : World) (h : Bts w A n c xs) (h' : Bts w A' n' c' ys) :
    Calls Try.prog 11 #[.agg #[.int .i64 x, .int .i64 y, .slice A n c], .agg #[.int .i64 x', .int .i64 y', .slice A' n' c']] w fun e w' => e = .returned (.bool (decide (x = x' ∧ y = y' ∧ xs = ys))) ∧ Below w.heap.size w w' := by
  have hB0 : Below w.heap.size w ((w.alloc (.cells #[.int .i64 x, .int .i64 y, .slice A n c] 24)).alloc (.cells #[.int .i64 x', .int .i64 y', .slice A' n' c'] 24)) := below_alloc (below_alloc (Below.refl _ _) _) _
  have hB := Lib.hid hB0
  have k1 := (h.below hB0).run_string (P := Try.prog) 22 9 Try.underlying22 Try.underlying5 Try.underlying9
  have k2 := (h'.below hB0).run_string (P := Try.prog) 22 9 Try.underlying22 Try.underlying5 Try.underlying9
  have e1 := str_eqb h.byt h'.byt
  clear hB0 h h'
  go_enter Try.func11, Try.ntmps11
  by_cases h0 : x = x'
  · subst h0
    by_cases h1 : y = y'
    · subst h1
      by_cases h2 : xs = ys
      · subst h2
        clear e1
        go_wp2
        go_ret
        exact ⟨by simp, hB.out⟩
      · have e2 : decide (xs = ys) = false := decide_eq_false h2
        rw [e2] at e1
        go_wp2
        go_ret
        exact ⟨by simp, hB.out⟩
    · have d1 : (y == y') = false := beq_eq_false_iff_ne.mpr h1
      go_wp2
      go_ret
      exact ⟨by simp, hB.out⟩
  · have d0 : (x == x') = false := beq_eq_false_iff_ne.mpr h0
    go_wp2
    go_ret
    exact ⟨by simp [h0], hB.out⟩

set_option maxHeartbeats 1000000 in
theorem slices_Clone (ad : Addr) (n c : Nat) (xs : List Int) (w : World) (h : Bts w (some ad) n c xs) :
    Calls Try.prog (24) #[.slice (some ad) n c] w fun e w' => ∃ v, e = .returned v ∧ OwnB w' w.heap.size v xs ∧ Below w.heap.size w w' := by
  have o0 := Lib.hid (OwnB.lit_at w w.heap.size w.heap.size [] rfl (Nat.le_refl _) byt_nil (by simp))
  have hB0 := Lib.hid ((Below.refl w.heap.size w).alloc (Nat.le_refl _) (.cells (nums .u8 []).toArray 5))
  have hl := h.len
  have hm := h.max
  have h1 := Lib.hid h
  have hnil : (binOp .eql 22 (.slice (some ad) n c) (.slice none 0 0)).run Try.prog w = .ok (.bool false) w := Lib.run_eql_slice_nil w _ _ _ _ _ _ _ Try.underlying22
  go_enter Try.func24, Try.ntmps24
  go_wp2_with (at_builtin; refine hid_stop ?_)
  refine Lib.hid ?_
  refine append_own (w0 := w) w.heap.size rfl (.tmp 5) (.tmp 6) 22 rfl Try.underlying22 Try.info5 _ _ _ _ _ _ rfl rfl o0.out (h1.out.alloc _) hB0.out hB0.out.size (by simp; omega) ?_
  intro v1 w1 ho hB1 hg1
  go_wp2
  go_ret
  exact ⟨_, rfl, by rwa [List.nil_append] at ho, hB1⟩
end Go.Proofs.Ytbmlbomildfmcaa

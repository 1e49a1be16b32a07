/- Contracts of the small functions on datagrams between ports. Conditions: those that each lemma states. -/
import Derived.Test.YtbmlbomildfmcaaUdp
import Derived.Test.YtbmlbomildfmcaaCPseudo
import Derived.Test.YtbmlbomildfmcaaCRefPseudo
namespace Go.Proofs.Ytbmlbomildfmcaa
open Go.RowKit Go.Proofs.YtbmlbomildfmcaaW.PrintWords

set_option maxHeartbeats 1000000 in
theorem udp_may_yes (s d : ByteArray) (w : World) (hs : s.size ≤ 140737488351232) (hd : d.size ≤ 140737488351232) (h : pairOk s.size d.size) :
    Calls Try.prog (16) #[.agg #[.string s, .string d]] w fun e w' => e = .returned (.bool true) ∧ Below w.heap.size w w' := by
  have hB := Below.refl w.heap.size w
  go_enter Try.func16, Try.ntmps16
  go_wp2_with fail
  refine (inet_Pseudo_yes _ _ _ _ _ hs hd ((psOk_zero _ _).2 h)).mono ?_
  rintro e w2 ⟨rfl, hB2⟩
  replace hB2 := below_step2 (w := w) (by repeat (first | exact Below.refl _ _ | apply below_alloc | apply below_drew | apply pw_below_drewN)) hB2
  replace hB := below_step2 hB hB2
  clear hB2
  go_wp2
  go_ret
  exact ⟨rfl, hB⟩

set_option maxHeartbeats 1000000 in
theorem udp_may_no (s d : ByteArray) (w : World) (hs : s.size ≤ 140737488351232) (hd : d.size ≤ 140737488351232) (h : ¬ pairOk s.size d.size) :
    Calls Try.prog (16) #[.agg #[.string s, .string d]] w fun e w' => e = .returned (.bool false) ∧ Below w.heap.size w w' := by
  go_enter Try.func16, Try.ntmps16
  go_wp2_with fail
  refine (inet_Pseudo_no _ _ _ _ _ hs hd (fun q => h ((psOk_zero _ _).1 q))).mono ?_
  rintro e w' ⟨rfl, rfl⟩
  go_wp2
  go_ret
  exact ⟨rfl, below_alloc (Below.refl _ _) _⟩

set_option maxHeartbeats 1000000 in
theorem udp_sum (s d : ByteArray) (A : Option Addr) (n c : Nat) (xs : List Int) (w : World) (hs : s.size ≤ 140737488351232) (hd : d.size ≤ 140737488351232) (h : Bts w A n c xs) (hp : pairOk s.size d.size) (hn : n ≤ 65535) :
    Calls Try.prog (17) #[.agg #[.string s, .string d], .slice A n c] w fun e w' => e = .returned (.tuple #[.int .i64 (dgSum xs (bytesOf s) (bytesOf d)), .int .i64 0]) ∧ Below w.heap.size w w' := by
  have hB := Below.refl w.heap.size w
  have hv : dgSum xs (bytesOf s) (bytesOf d) = addm (canon (psTot (bytesOf s) (bytesOf d) 17 n)) (sumL xs) := by unfold dgSum; rw [h.len]
  rw [hv]
  clear hv
  go_enter Try.func17, Try.ntmps17
  go_wp2_with fail
  refine (inet_Pseudo_yes _ _ _ _ _ hs hd (psOk_of hp 17 n (by omega) (by omega) hn)).mono ?_
  rintro e w2 ⟨rfl, hB2⟩
  replace hB2 := below_step2 (w := w) (by repeat (first | exact Below.refl _ _ | apply below_alloc | apply below_drew | apply pw_below_drewN)) hB2
  replace h := h.below hB2
  replace hB := below_step2 hB hB2
  clear hB2
  go_wp2_with fail
  refine (inet_Sum _ _ _ _ _ h).mono ?_
  rintro e w' ⟨rfl, rfl⟩
  go_wp2_with fail
  refine (inet_Add _ _ _).mono ?_
  rintro e w' ⟨rfl, rfl⟩
  go_wp2
  go_ret2
  exact ⟨rfl, hB⟩

set_option maxHeartbeats 1000000 in
theorem udp_whole (s d : ByteArray) (A : Option Addr) (n c : Nat) (xs : List Int) (w : World) (hs : s.size ≤ 140737488351232) (hd : d.size ≤ 140737488351232) (h : Bts w A n c xs) (hp : pairOk s.size d.size) (hn : n ≤ 65535) :
    Calls Try.prog 23 #[.agg #[.string s, .string d], .slice A n c, .func (.func (17)) #[] #[]] w fun e w' => e = .returned (.bool (decide (dgSum xs (bytesOf s) (bytesOf d) = 65535))) ∧ Below w.heap.size w w' := by
  have hB := Below.refl w.heap.size w
  generalize hD : dgSum xs (bytesOf s) (bytesOf d) = D
  replace hD := Lib.hid hD
  go_enter Try.func23, Try.ntmps23
  go_wp2_with fail
  refine (udp_sum _ _ _ _ _ _ _ hs hd (h.alloc _) hp hn).mono ?_
  rintro e w2 ⟨rfl, hB2⟩
  replace hB2 := below_step2 (w := w) (by repeat (first | exact Below.refl _ _ | apply below_alloc | apply below_drew | apply pw_below_drewN)) hB2
  replace h := h.below hB2
  replace hB := below_step2 hB hB2
  clear hB2
  rw [hD.out]
  by_cases hD : D = 65535
  · subst hD
    go_wp2
    go_ret
    exact ⟨rfl, hB⟩
  · have e : (D == 65535) = false := beq_eq_false_iff_ne.mpr hD
    go_wp2
    go_ret
    exact ⟨by simp [hD], hB⟩

set_option maxHeartbeats 1000000 in
theorem ref05_port (n : Int) (w : World) : Calls Try.prog 18 #[.int .i64 n] w fun e w' => e = .returned (.bool (decide (0 ≤ n ∧ n ≤ 65535))) ∧ w = w' := by
  go_enter Try.func18, Try.ntmps18
  by_cases h0 : 0 ≤ n
  · by_cases h1 : n ≤ 65535
    · go_wp2
      go_ret
      exact ⟨by simp [h0, h1], rfl⟩
    · have d1 : decide (n ≤ 65535) = false := decide_eq_false h1
      go_wp2
      go_ret
      exact ⟨by simp, rfl⟩
  · have d0 : decide (0 ≤ n) = false := decide_eq_false h0
    go_wp2
    go_ret
    exact ⟨by simp, rfl⟩

set_option maxHeartbeats 1000000 in
theorem ref05_Pair (s d : ByteArray) (w : World) : Calls Try.prog 19 #[.string s, .string d] w fun e w' => e = .returned (.bool (decide (pairOk s.size d.size))) ∧ w = w' := by
  go_enter Try.func19, Try.ntmps19
  by_cases h0 : s.size = d.size
  · have d0 : ((s.size : Int) == (d.size : Int)) = true := by rw [h0]; simp
    have d0' : (s.size == d.size) = true := by rw [h0]; simp
    by_cases h1 : s.size = 4
    · have d1 : ((s.size : Int) == 4) = true := by rw [h1]; rfl
      have e : decide (pairOk s.size d.size) = true := decide_eq_true ⟨h0, .inl h1⟩
      rw [e]
      clear h0 h1 e
      go_wp2
      go_ret
      exact ⟨rfl, rfl⟩
    · have d1 : ((s.size : Int) == 4) = false := beq_eq_false_iff_ne.mpr (by omega)
      by_cases h2 : s.size = 16
      · have d2 : ((s.size : Int) == 16) = true := by rw [h2]; rfl
        have e : decide (pairOk s.size d.size) = true := decide_eq_true ⟨h0, .inr h2⟩
        rw [e]
        clear h0 h1 h2 e
        go_wp2
        go_ret
        exact ⟨rfl, rfl⟩
      · have d2 : ((s.size : Int) == 16) = false := beq_eq_false_iff_ne.mpr (by omega)
        have e : decide (pairOk s.size d.size) = false := decide_eq_false (by unfold pairOk; omega)
        rw [e]
        clear h0 h1 h2 e
        go_wp2
        go_ret
        exact ⟨rfl, rfl⟩
  · have d0 : ((s.size : Int) == (d.size : Int)) = false := beq_eq_false_iff_ne.mpr (by omega)
    have d0' : (s.size == d.size) = false := beq_eq_false_iff_ne.mpr h0
    have e : decide (pairOk s.size d.size) = false := decide_eq_false (by unfold pairOk; omega)
    rw [e]
    clear h0 e
    go_wp2
    go_ret
    exact ⟨rfl, rfl⟩

set_option maxHeartbeats 1000000 in
theorem ref05_Sum (s d : ByteArray) (A : Option Addr) (n c : Nat) (xs : List Int) (w : World) (hs : s.size ≤ 140737488351232) (hd : d.size ≤ 140737488351232) (h : Bts w A n c xs) (hp : pairOk s.size d.size) (hn : n ≤ 65535) :
    Calls Try.prog 21 #[.slice A n c, .string s, .string d, .int .i64 17] w fun e w' => e = .returned (.int .i64 (dgSum xs (bytesOf s) (bytesOf d))) ∧ Below w.heap.size w w' := by
  have hB := Below.refl w.heap.size w
  have hv : dgSum xs (bytesOf s) (bytesOf d) = addm (canon (psTot (bytesOf s) (bytesOf d) 17 n)) (sumL xs) := by unfold dgSum; rw [h.len]
  rw [hv]
  clear hv
  go_enter Try.func21, Try.ntmps21
  go_wp2_with fail
  refine (ref01_Pseudo_yes _ _ _ _ _ hs hd (psOk_of hp 17 n (by omega) (by omega) hn)).mono ?_
  rintro e w2 ⟨rfl, hB2⟩
  replace hB2 := below_step2 (w := w) (by repeat (first | exact Below.refl _ _ | apply below_alloc | apply below_drew | apply pw_below_drewN)) hB2
  replace h := h.below hB2
  replace hB := below_step2 hB hB2
  clear hB2
  go_wp2_with fail
  refine (ref01_Sum _ _ _ _ _ h).mono ?_
  rintro e w' ⟨rfl, rfl⟩
  go_wp2_with fail
  refine (ref01_Add _ _ _).mono ?_
  rintro e w' ⟨rfl, rfl⟩
  go_wp2
  go_ret
  exact ⟨rfl, hB⟩
end Go.Proofs.Ytbmlbomildfmcaa

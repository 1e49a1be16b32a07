/- Contracts of the reference's Pair and Sum, for any protocol; a copy. Conditions: those that each lemma states. -/
import Derived.Test.YtljdkfgnoalgpaaPs
import Derived.Test.YtljdkfgnoalgpaaCPseudo
import Derived.Test.YtljdkfgnoalgpaaCRefPseudo
import Derived.Test.YtljdkfgnoalgpaaStr
import Derived.Lib.SliceRun
namespace Go.Proofs.Ytljdkfgnoalgpaa
open Go.RowKit Go.Proofs.YtljdkfgnoalgpaaW.PrintWords

set_option maxHeartbeats 1000000 in
theorem ref05_Pair (s d : ByteArray) (w : World) : Calls Try.prog 34 #[.string s, .string d] w fun e w' => e = .returned (.bool (decide (pairOk s.size d.size))) ∧ w = w' := by
  go_enter Try.func34, Try.ntmps34
  by_cases h0 : s.size = d.size
  · have d0 : ((s.size : Int) == (d.size : Int)) = true := by rw [h0]; simp
    have d0' : (s.size == d.size) = true := by rw [h0]; simp
    by_cases h1 : s.size = 4
    · have d1 : ((s.size : Int) == 4) = true := by rw [h1]; rfl
      have e : decide (pairOk s.size d.size) = true := decide_eq_true ⟨h0, .inl h1⟩
      rw [e]
      clear h0 h1 e
      go_wp2
      go_ret
      exact ⟨rfl, rfl⟩
    · have d1 : ((s.size : Int) == 4) = false := beq_eq_false_iff_ne.mpr (by omega)
      by_cases h2 : s.size = 16
      · have d2 : ((s.size : Int) == 16) = true := by rw [h2]; rfl
        have e : decide (pairOk s.size d.size) = true := decide_eq_true ⟨h0, .inr h2⟩
        rw [e]
        clear h0 h1 h2 e
        go_wp2
        go_ret
        exact ⟨rfl, rfl⟩
      · have d2 : ((s.size : Int) == 16) = false := beq_eq_false_iff_ne.mpr (by omega)
        have e : decide (pairOk s.size d.size) = false := decide_eq_false (by unfold pairOk; omega)
        rw [e]
        clear h0 h1 h2 e
        go_wp2
        go_ret
        exact ⟨rfl, rfl⟩
  · have d0 : ((s.size : Int) == (d.size : Int)) = false := beq_eq_false_iff_ne.mpr (by omega)
    have d0' : (s.size == d.size) = false := beq_eq_false_iff_ne.mpr h0
    have e : decide (pairOk s.size d.size) = false := decide_eq_false (by unfold pairOk; omega)
    rw [e]
    clear h0 e
    go_wp2
    go_ret
    exact ⟨rfl, rfl⟩

set_option maxHeartbeats 1000000 in
theorem ref05_Sum (p : Int) (s d : ByteArray) (A : Option Addr) (n c : Nat) (xs : List Int) (w : World) (hs : s.size ≤ 140737488351232) (hd : d.size ≤ 140737488351232) (h : Bts w A n c xs) (hp : pairOk s.size d.size) (hn : n ≤ 65535) (h0 : 0 ≤ p) (h1 : p ≤ 255) :
    Calls Try.prog 31 #[.slice A n c, .string s, .string d, .int .i64 p] w fun e w' => e = .returned (.int .i64 (psSum p xs (bytesOf s) (bytesOf d))) ∧ Below w.heap.size w w' := by
  have hB := Below.refl w.heap.size w
  have hv : psSum p xs (bytesOf s) (bytesOf d) = addm (canon (psTot (bytesOf s) (bytesOf d) p n)) (sumL xs) := by unfold psSum; rw [h.len]
  rw [hv]
  clear hv
  go_enter Try.func31, Try.ntmps31
  go_wp2_with fail
  refine (ref01_Pseudo_yes _ _ _ _ _ hs hd (psOk_of hp p n h0 h1 (by omega))).mono ?_
  rintro e w2 ⟨rfl, hB2⟩
  replace hB2 := below_step2 (w := w) (by repeat (first | exact Below.refl _ _ | apply below_alloc | apply below_drew | apply pw_below_drewN)) hB2
  replace h := h.below hB2
  replace hB := below_step2 hB hB2
  clear hB2
  go_wp2_with fail
  refine (ref01_Sum _ _ _ _ _ h).mono ?_
  rintro e w' ⟨rfl, rfl⟩
  go_wp2_with fail
  refine (ref01_Add _ _ _).mono ?_
  rintro e w' ⟨rfl, rfl⟩
  go_wp2
  go_ret
  exact ⟨rfl, hB⟩

set_option maxHeartbeats 1000000 in
theorem slices_Clone (ad : Addr) (n c : Nat) (xs : List Int) (w : World) (h : Bts w (some ad) n c xs) :
    Calls Try.prog (33) #[.slice (some ad) n c] w fun e w' => ∃ v, e = .returned v ∧ OwnB w' w.heap.size v xs ∧ Below w.heap.size w w' := by
  have o0 := Lib.hid (OwnB.lit_at w w.heap.size w.heap.size [] rfl (Nat.le_refl _) byt_nil (by simp))
  have hB0 := Lib.hid ((Below.refl w.heap.size w).alloc (Nat.le_refl _) (.cells (nums .u8 []).toArray 5))
  have hl := h.len
  have hm := h.max
  have h1 := Lib.hid h
  have hnil : (binOp .eql 22 (.slice (some ad) n c) (.slice none 0 0)).run Try.prog w = .ok (.bool false) w := Lib.run_eql_slice_nil w _ _ _ _ _ _ _ Try.underlying22
  go_enter Try.func33, Try.ntmps33
  go_wp2_with (at_builtin; refine hid_stop ?_)
  refine Lib.hid ?_
  refine append_own (w0 := w) w.heap.size rfl (.tmp 5) (.tmp 6) 22 rfl Try.underlying22 Try.info5 _ _ _ _ _ _ rfl rfl o0.out (h1.out.alloc _) hB0.out hB0.out.size (by simp; omega) ?_
  intro v1 w1 ho hB1 hg1
  go_wp2
  go_ret
  exact ⟨_, rfl, by rwa [List.nil_append] at ho, hB1⟩
theorem OwnB.sl {w : World} {base : Nat} {A : Option Addr} {n c : Nat} {xs : List Int} (h : OwnB w base (.slice A n c) xs) : Bts w A n c xs := by
  obtain ⟨A', n', c', e, hb⟩ := h.bts
  injection e with e1 e2 e3
  subst e1 e2 e3
  exact hb
/-- What a call of Bytes hands back. -/
def LaidPost (err : Int) (bs : List Int) (w : World) (e : Ending) (w' : World) : Prop :=
  ∃ A n c, e = .returned (.tuple #[.slice A n c, .int .i64 err]) ∧ OwnB w' w.heap.size (.slice A n c) (if err = 0 then bs else []) ∧ Below w.heap.size w w'
theorem below_size_lt {w w1 : World} {o : Obj} (h : Below (w.alloc o).heap.size (w.alloc o) w1) : w.heap.size < w1.heap.size := by
  have := h.size
  simp at this
  omega
end Go.Proofs.Ytljdkfgnoalgpaa

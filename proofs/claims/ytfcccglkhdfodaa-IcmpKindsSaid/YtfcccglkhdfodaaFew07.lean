/- Few of layer 7. Conditions: none. -/
import Derived.Test.YtfcccglkhdfodaaAwake07
namespace Go.Proofs.Ytfcccglkhdfodaa
open Go.RowKit Go.Proofs.YtfcccglkhdfodaaW.PrintWords

def fewOk (a b n : Nat) : Prop := a + b ≤ 300 ∧ (n ≤ 2000 ∨ (65500 < n ∧ n < 65600))
instance (a b n : Nat) : Decidable (fewOk a b n) := by unfold fewOk; infer_instance
set_option maxHeartbeats 1000000 in
theorem law07_few (x y r : Int) (A : Option Addr) (n c : Nat) (s d : ByteArray) (w : World) (hs : s.size ≤ 140737488351232) (hd : d.size ≤ 140737488351232) (hn : n ≤ 140737488355328) :
    Calls Try.prog 8 #[.agg #[.int .i64 x, .int .i64 y, .int .i64 r, .slice A n c], .string s, .string d] w fun e w' => e = .returned (.bool (decide (fewOk s.size d.size n))) ∧ Below w.heap.size w w' := by
  have hB : Hid (Below w.heap.size w (w.alloc (.cells #[.int .i64 x, .int .i64 y, .int .i64 r, .slice A n c] 24))) := Lib.hid (below_alloc (Below.refl _ _) _)
  go_enter Try.func8, Try.ntmps8
  by_cases h0 : s.size + d.size ≤ 300
  · have d0 : decide ((s.size : Int) + (d.size : Int) ≤ 300) = true := decide_eq_true (by omega)
    have d0' : decide (s.size + d.size ≤ 300) = true := decide_eq_true h0
    by_cases h1 : n ≤ 2000
    · have d1 : decide ((n : Int) ≤ 2000) = true := decide_eq_true (by omega)
      have d1' : decide (n ≤ 2000) = true := decide_eq_true h1
      have e : decide (fewOk s.size d.size n) = true := decide_eq_true ⟨h0, .inl h1⟩
      rw [e]
      go_wp2
      go_ret
      exact ⟨rfl, hB.out⟩
    · have d1 : decide ((n : Int) ≤ 2000) = false := decide_eq_false (by omega)
      have d1' : decide (n ≤ 2000) = false := decide_eq_false h1
      by_cases h2 : 65500 < n
      · have d2 : decide (65500 < (n : Int)) = true := decide_eq_true (by omega)
        have d2' : decide (65500 < n) = true := decide_eq_true h2
        by_cases h3 : n < 65600
        · have d3 : decide ((n : Int) < 65600) = true := decide_eq_true (by omega)
          have d3' : decide (n < 65600) = true := decide_eq_true h3
          have e : decide (fewOk s.size d.size n) = true := decide_eq_true ⟨h0, .inr ⟨h2, h3⟩⟩
          rw [e]
          go_wp2
          go_ret
          exact ⟨rfl, hB.out⟩
        · have d3 : decide ((n : Int) < 65600) = false := decide_eq_false (by omega)
          have d3' : decide (n < 65600) = false := decide_eq_false h3
          have e : decide (fewOk s.size d.size n) = false := decide_eq_false (by unfold fewOk; omega)
          rw [e]
          go_wp2
          go_ret
          exact ⟨rfl, hB.out⟩
      · have d2 : decide (65500 < (n : Int)) = false := decide_eq_false (by omega)
        have d2' : decide (65500 < n) = false := decide_eq_false h2
        have e : decide (fewOk s.size d.size n) = false := decide_eq_false (by unfold fewOk; omega)
        rw [e]
        go_wp2
        go_ret
        exact ⟨rfl, hB.out⟩
  · have d0 : decide ((s.size : Int) + (d.size : Int) ≤ 300) = false := decide_eq_false (by omega)
    have d0' : decide (s.size + d.size ≤ 300) = false := decide_eq_false h0
    have e : decide (fewOk s.size d.size n) = false := decide_eq_false (by unfold fewOk; omega)
    rw [e]
    go_wp2
    go_ret
    exact ⟨rfl, hB.out⟩

end Go.Proofs.Ytfcccglkhdfodaa

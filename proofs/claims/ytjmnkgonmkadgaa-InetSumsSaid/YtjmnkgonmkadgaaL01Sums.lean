/- InetSums holds: words are added, bytes summed and checked as the reference does it. Conditions: none beside the row's own reach. -/
import Derived.Test.YtjmnkgonmkadgaaAwake01
import Derived.Test.YtjmnkgonmkadgaaCRefB
import Derived.Test.YtjmnkgonmkadgaaCBoth
namespace Go.Proofs.Ytjmnkgonmkadgaa
open Go.RowKit Go.Proofs.YtjmnkgonmkadgaaW.PrintWords

set_option maxHeartbeats 1000000 in
theorem InetSums_any (A : Option Addr) (n c : Nat) (xs : List Int) (x y : Int) (w : World) (h : Bts w A n c xs) (_hx : I64 x) (_hy : I64 y) :
    Calls Try.prog 3 #[.slice A n c, .int .i64 x, .int .i64 y] w fun e w' => e = .returned (.bool true) ∧ Below w.heap.size w w' := by
  have hl := h.len
  by_cases hn : 3000 < n
  · have hn' : (3000 : Int) < (n : Int) := by omega
    go_enter Try.func3, Try.ntmps3
    go_wp2
    go_ret
    exact ⟨rfl, Below.refl _ _⟩
  have hn' : ¬ (3000 : Int) < (n : Int) := by omega
  go_enter Try.func3, Try.ntmps3
  go_wp2_with fail
  refine (ref01_Both _ _ _ [xs] _ (Rws.one _ _ _ rfl h) (by simp; omega)).mono ?_
  rintro e w1 ⟨v, rfl, ho, hB⟩
  obtain ⟨A1, n1, c1, rfl, h1⟩ := ho.bts
  simp only [List.flatten_cons, List.flatten_nil, List.append_nil] at h1
  clear ho
  replace hB := ((Below.refl _ w).alloc (Nat.le_refl _) _).trans (hB.mono (by simp))
  have h2 := h.below hB
  go_wp2_with fail
  refine (awake01 _).mono ?_
  rintro e w2 ⟨rfl, hB2⟩
  replace hB := hB.trans (hB2.mono hB.size)
  replace h1 := h1.below hB2
  replace h2 := h2.below hB2
  clear hB2
  go_wp2_with fail
  refine (inet_Sum _ _ _ _ _ h1).mono ?_
  rintro e w' ⟨rfl, rfl⟩
  go_wp2_with fail
  refine (ref01_Sum _ _ _ _ _ h2).mono ?_
  rintro e w' ⟨rfl, rfl⟩
  go_wp2_with fail
  refine (inet_Check _ _ _ _ _ h1).mono ?_
  rintro e w' ⟨rfl, rfl⟩
  go_wp2_with fail
  refine (ref01_Check _ _ _ _ _ h2).mono ?_
  rintro e w' ⟨rfl, rfl⟩
  go_wp2_with fail
  refine (inet_Add _ _ _).mono ?_
  rintro e w' ⟨rfl, rfl⟩
  go_wp2_with fail
  refine (ref01_Add _ _ _).mono ?_
  rintro e w' ⟨rfl, rfl⟩
  have k1 := h1.run_string (P := Try.prog) 22 9 Try.underlying22 Try.underlying5 Try.underlying9
  have k2 := h2.run_string (P := Try.prog) 22 9 Try.underlying22 Try.underlying5 Try.underlying9
  go_wp2
  go_ret
  exact ⟨rfl, hB⟩
end Go.Proofs.Ytjmnkgonmkadgaa

/- The printed functions of the law on roots, with every number reckoned at once. Conditions: none. -/
import Derived.Test.YtaooibcihjkhfaaDoorPDigestRootsx3
namespace Go.Proofs.YtaooibcihjkhfaaDoor
open Go.RowKit Go.Proofs.YtaooibcihjkhfaaDoorW.PrintWords Go.Proofs.YtaooibcihjkhfaaDoor.PDigestRoots

set_option linter.unusedSimpArgs false
/-- A number reckoned ahead. -/
def fI {α : Type} (v : Int) (f : Int → Option α) : Option α := match v with
  | .ofNat 0 => f 0
  | .ofNat (n + 1) => f (.ofNat (n + 1))
  | .negSucc n => f (.negSucc n)
theorem fI_eq {α : Type} (v : Int) (f : Int → Option α) : fI v f = f v := by
  unfold fI
  split <;> rfl
def fL {α : Type} : List Int → (List Int → Option α) → Option α
  | [], f => f []
  | a :: r, f => fI a fun a' => fL r fun r' => f (a' :: r')
theorem fL_eq {α : Type} : ∀ (l : List Int) (f : List Int → Option α), fL l f = f l
  | [], _ => rfl
  | a :: r, f => by rw [fL, fI_eq, fL_eq r]
mutual
def s_times.l0 : Nat → List Int → List Int → List Int → Int → Option (List Int)
  | 0, _, _, _, _ => none
  | k + 1, x0, x1, x5, x6 => fL x0 fun x0 => fL x1 fun x1 => fL x5 fun x5 => fI x6 fun x6 => if x6 < (x0.length : Int) then (s_times.l1 k x0 x1 x5 x6 0) else (s_times.l2 k x5 0)
def s_times.l1 : Nat → List Int → List Int → List Int → Int → Int → Option (List Int)
  | 0, _, _, _, _, _ => none
  | k + 1, x0, x1, x5, x6, x7 => fL x0 fun x0 => fL x1 fun x1 => fL x5 fun x5 => fI x6 fun x6 => fI x7 fun x7 => if x7 < (x1.length : Int) then (if 0 ≤ (wrap64 (x6 + x7)) then (if (wrap64 (x6 + x7)) < (x5.length : Int) then (if 0 ≤ x6 then (if x6 < (x0.length : Int) then (if 0 ≤ x7 then ((some (x5.set ((wrap64 (x6 + x7)) : Int).toNat (wrap64 ((rd x5 (wrap64 (x6 + x7))) + (wrap64 ((rd x0 x6) * (rd x1 x7))))) : List Int)).bind fun y113 => (if 0 ≤ (wrap64 ((wrap64 (x6 + x7)) + 1)) then (if (wrap64 ((wrap64 (x6 + x7)) + 1)) < (x5.length : Int) then ((some (y113.set ((wrap64 ((wrap64 (x6 + x7)) + 1)) : Int).toNat (wrap64 ((rd y113 (wrap64 ((wrap64 (x6 + x7)) + 1))) + (wrap64 (Int.tdiv (rd y113 (wrap64 (x6 + x7))) 65536)))) : List Int)).bind fun y116 => (s_times.l1 k x0 x1 (y116.set ((wrap64 (x6 + x7)) : Int).toNat (Int.tmod (rd y116 (wrap64 (x6 + x7))) 65536)) x6 (wrap64 (x7 + 1)))) else (none)) else (none))) else (none)) else (none)) else (none)) else (none)) else (none)) else (s_times.l0 k x0 x1 x5 (wrap64 (x6 + 1)))
def s_times.l2 : Nat → List Int → Int → Option (List Int)
  | 0, _, _ => none
  | k + 1, x5, x8 => fL x5 fun x5 => fI x8 fun x8 => if (wrap64 (x8 + 1)) < (x5.length : Int) then (if 0 ≤ (wrap64 (x8 + 1)) then (if 0 ≤ x8 then (if x8 < (x5.length : Int) then ((some (x5.set ((wrap64 (x8 + 1)) : Int).toNat (wrap64 ((rd x5 (wrap64 (x8 + 1))) + (wrap64 (Int.tdiv (rd x5 x8) 65536)))) : List Int)).bind fun y121 => (s_times.l2 k (y121.set (x8 : Int).toNat (Int.tmod (rd y121 x8) 65536)) (wrap64 (x8 + 1)))) else (none)) else (none)) else (none)) else (some x5)
end
def s_times.f (k : Nat) (l0 : List Int) (l1 : List Int) : Option (List Int) := if 0 ≤ (wrap64 ((wrap64 ((l0.length : Int) + (l1.length : Int))) + 1)) then (if (wrap64 ((wrap64 ((l0.length : Int) + (l1.length : Int))) + 1) : Int).toNat ≤ 35184372088832 then (s_times.l0 k l0 l1 (List.replicate (wrap64 ((wrap64 ((l0.length : Int) + (l1.length : Int))) + 1) : Int).toNat 0) 0) else (none)) else (none)
def s_front.l0 : Nat → List Int → Int → Int → Int → Option (Int)
  | 0, _, _, _, _ => none
  | k + 1, x0, x1, x5, x6 => fL x0 fun x0 => fI x1 fun x1 => fI x5 fun x5 => fI x6 fun x6 => if x6 ≥ x1 then (if 0 ≤ x6 then (if x6 < (x0.length : Int) then (s_front.l0 k x0 x1 (wrap64 ((wrap64 (65536 * x5)) + (rd x0 x6))) (wrap64 (x6 - 1))) else (none)) else (none)) else (some x5)
def s_front.f (k : Nat) (l0 : List Int) (a1 : Int) : Option (Int) := s_front.l0 k l0 a1 0 (wrap64 ((l0.length : Int) - 1))
def s_root.f (k : Nat) (a0 : Int) (a1 : Int) (a2 : Int) (a3 : Bool) : Option (Bool) := (some (([Int.tmod a1 65536, wrap64 (Int.tdiv a1 65536), a0] : List Int) : List Int)).bind fun y125 => ((some (([Int.tmod (wrap64 (a1 + 1)) 65536, Int.tmod (wrap64 (Int.tdiv (wrap64 (a1 + 1)) 65536)) 65536, wrap64 (a0 + (wrap64 (Int.tdiv (wrap64 (a1 + 1)) 4294967296)))] : List Int) : List Int)).bind fun y128 => ((s_times.f k y125 y125).bind fun t131 => ((s_times.f k y128 y128).bind fun t134 => (if a3 = true then ((s_times.f k t131 y125).bind fun t137 => ((s_times.f k t134 y128).bind fun t140 => ((s_front.f k t137 6).bind fun t143 => (if t143 < a2 then ((s_front.f k t140 6).bind fun t144 => (some (decide (t144 ≥ a2)))) else (some false))))) else ((s_front.f k t131 4).bind fun t145 => (if t145 < a2 then ((s_front.f k t134 4).bind fun t146 => (some (decide (t146 ≥ a2)))) else (some false)))))))
theorem s_times_eq : ∀ k, (∀ x0 x1 x5 x6, s_times.l0 k x0 x1 x5 x6 = redoubtlaw10_times.l0 k x0 x1 x5 x6) ∧ (∀ x0 x1 x5 x6 x7, s_times.l1 k x0 x1 x5 x6 x7 = redoubtlaw10_times.l1 k x0 x1 x5 x6 x7) ∧ (∀ x5 x8, s_times.l2 k x5 x8 = redoubtlaw10_times.l2 k x5 x8)
  | 0 => ⟨fun _ _ _ _ => by rw [s_times.l0, redoubtlaw10_times.l0], fun _ _ _ _ _ => by rw [s_times.l1, redoubtlaw10_times.l1], fun _ _ => by rw [s_times.l2, redoubtlaw10_times.l2]⟩
  | k + 1 => by
    obtain ⟨h0, h1, h2⟩ := s_times_eq k
    refine ⟨fun _ _ _ _ => ?_, fun _ _ _ _ _ => ?_, fun _ _ => ?_⟩
    · rw [s_times.l0, redoubtlaw10_times.l0]; simp only [fL_eq, fI_eq, h0, h1, h2]
    · rw [s_times.l1, redoubtlaw10_times.l1]; simp only [fL_eq, fI_eq, h0, h1, h2]
    · rw [s_times.l2, redoubtlaw10_times.l2]; simp only [fL_eq, fI_eq, h0, h1, h2]
theorem s_timesF (k : Nat) (a b : List Int) : s_times.f k a b = redoubtlaw10_times.f k a b := by
  unfold s_times.f redoubtlaw10_times.f
  simp only [(s_times_eq k).1]
theorem s_front_eq : ∀ k x0 x1 x5 x6, s_front.l0 k x0 x1 x5 x6 = redoubtlaw10_front.l0 k x0 x1 x5 x6
  | 0, _, _, _, _ => by rw [s_front.l0, redoubtlaw10_front.l0]
  | k + 1, _, _, _, _ => by rw [s_front.l0, redoubtlaw10_front.l0]; simp only [fL_eq, fI_eq, s_front_eq k]
theorem s_frontF (k : Nat) (a : List Int) (n : Int) : s_front.f k a n = redoubtlaw10_front.f k a n := by
  unfold s_front.f redoubtlaw10_front.f
  rw [s_front_eq]
theorem s_rootF (k : Nat) (a b c : Int) (d : Bool) : s_root.f k a b c d = redoubtlaw10_root.f k a b c d := by
  unfold s_root.f redoubtlaw10_root.f
  simp only [s_timesF, s_frontF]
end Go.Proofs.YtaooibcihjkhfaaDoor

/- The reference's Kind and Make, by the printed functions. Conditions: each argument is of its Go type; few bytes. -/
import Derived.Test.YtfcccglkhdfodaaFew07
import Derived.Test.YtfcccglkhdfodaaPIcmpKindsx2
namespace Go.Proofs.Ytfcccglkhdfodaa
open Go.RowKit Go.Proofs.YtfcccglkhdfodaaW.PrintWords Go.Proofs.Ytfcccglkhdfodaa.PIcmpKinds

/-- Bytes that are read, as the printed functions tell them. -/
theorem Bts.toC {w : World} {A : Option Addr} {n c : Nat} {xs : List Int} (h : Bts w A n c xs) : Kd.C (Kd.int .u8) w A n xs := Kd.C_of_reads (d := 0) h.rd
theorem reads_move {w W : World} {A : Option Addr} {n : Nat} {xs : List Int} (h : ReadsInt w .u8 A n xs) (hm : ∀ k, k < w.heap.size → W.heap[k]? = w.heap[k]?) : ReadsInt W .u8 A n xs := by
  refine ⟨h.1, h.2.1, fun hn => ?_⟩
  obtain ⟨ad, e, hc⟩ := h.2.2 hn
  refine ⟨ad, e, fun j hj => ?_⟩
  have hj' := hc j hj
  exact (World.cell?_of_block (hm _ (World.block_lt_of_cell? w _ hj'))).trans hj'
theorem Bts.toV {w : World} {A : Option Addr} {c : Nat} {xs : List Int} (e base : Nat) (h : Bts w A xs.length c xs) : Kd.V (Kd.int .u8) e w base (fun _ => True) (.slice A xs.length c) xs :=
  Kd.V_mk h.le (fun _ hW => Kd.C_of_reads (d := 0) (reads_move h.rd (fun k hk => hW k trivial hk)))
theorem OwnB.ofR {w : World} {base : Nat} {ok : Nat → Prop} {v : Value} {xs : List Int} (h : Kd.R (Kd.int .u8) 5 w base ok v xs) (hb : Byt xs) (hm : xs.length ≤ 140737488355328) : OwnB w base v xs := ⟨Kd.own_of_R h, hm, hb⟩

theorem rKind (m : Nat) (t c r : Int) (l : List Int) (wide : Bool) : redoubtref07_Kind.f (m + 1) t c r l wide = some (icKind t c wide) := by
  unfold redoubtref07_Kind.f redoubtref07_Kind.j0 icKind
  cases wide
  · simp only [Bool.false_eq_true, if_false]
    repeat' split
    all_goals first | rfl | omega
  · simp only [if_true]
    by_cases h1 : t = 128
    · subst h1
      by_cases h2 : c = 0 <;> simp [h2] <;> (unfold wrap64; omega)
    · by_cases h3 : t = 129
      · subst h3
        by_cases h2 : c = 0 <;> simp [h2] <;> (unfold wrap64; omega)
      · simp [h1, h3]
        repeat' split
        all_goals first | rfl | omega
def step5 (k : Int) (wide : Bool) (t : Int) (s : Int × Int) (c : Int) : Int × Int := if icKind t c wide = k then (t, c) else s
def inner (k : Int) (wide : Bool) (t : Int) (s : Int × Int) : Int × Int := step5 k wide t (step5 k wide t (step5 k wide t (step5 k wide t (step5 k wide t s 4) 3) 2) 1) 0
def outer (k : Int) (wide : Bool) : Nat → Int × Int → Int × Int
  | 0, s => s
  | n + 1, s => outer k wide n (inner k wide (n : Int) s)
def fin (k : Int) (wide : Bool) (s : Int × Int) (r : Int) (d : List Int) : Option (Int × Int × Int × List Int × Int) :=
  if k = 3 then (if wide = true then some (s.1, s.2, r, d, 0) else some (s.1, 1, r, d, 0)) else some (s.1, s.2, r, d, 0)
theorem wrap64_pred (n : Int) (h0 : 0 ≤ n) (h1 : n ≤ 1000) : wrap64 (n - 1) = n - 1 := by unfold wrap64; omega
theorem l1_one (m : Nat) (k : Int) (wide : Bool) (t c : Int) (s : Int × Int) (r : Int) (d : List Int) (h0 : 0 ≤ c) (h1 : c ≤ 4) :
    redoubtref07_Make.l1 (m + 2) k wide t c s.1 s.2 r d = redoubtref07_Make.l1 (m + 1) k wide t (c - 1) (step5 k wide t s c).1 (step5 k wide t s c).2 r d := by
  rw [redoubtref07_Make.l1, if_pos h0, rKind, Option.bind_some, wrap64_pred c h0 (by omega)]
  unfold step5
  split <;> rfl
theorem l1_five (m : Nat) (k : Int) (wide : Bool) (t : Int) (s : Int × Int) (r : Int) (d : List Int) :
    redoubtref07_Make.l1 (m + 7) k wide t 4 s.1 s.2 r d = redoubtref07_Make.l0 (m + 1) k wide (wrap64 (t - 1)) (inner k wide t s).1 (inner k wide t s).2 r d := by
  rw [l1_one (m + 5) k wide t 4 s r d (by decide) (by decide), l1_one (m + 4) k wide t (4 - 1) _ r d (by decide) (by decide), l1_one (m + 3) k wide t (4 - 1 - 1) _ r d (by decide) (by decide), l1_one (m + 2) k wide t (4 - 1 - 1 - 1) _ r d (by decide) (by decide), l1_one (m + 1) k wide t (4 - 1 - 1 - 1 - 1) _ r d (by decide) (by decide)]
  rw [redoubtref07_Make.l1, if_neg (by decide)]
  rfl
theorem l0_all : ∀ (n : Nat) (k : Int) (wide : Bool) (s : Int × Int) (r : Int) (d : List Int), n ≤ 256 → redoubtref07_Make.l0 (7 * n + 2) k wide ((n : Int) - 1) s.1 s.2 r d = fin k wide (outer k wide n s) r d
  | 0, k, wide, s, r, d, _ => by
    rw [redoubtref07_Make.l0, if_neg (by omega)]
    rfl
  | n + 1, k, wide, s, r, d, h => by
    have e : 7 * (n + 1) + 2 = (7 * n + 1 + 7) + 1 := by omega
    have e1 : (((n + 1 : Nat) : Int) - 1) = (n : Int) := by omega
    rw [e, e1, redoubtref07_Make.l0, if_pos (by omega), l1_five, wrap64_pred _ (by omega) (by omega), l0_all n k wide (inner k wide n s) r d (by omega), outer]
set_option maxRecDepth 100000 in
theorem outer_all (wide : Bool) (k : Int) (h1 : 1 ≤ k) (h2 : k ≤ 6) : outer k wide 256 (0, 0) = (icType k wide, if k = 3 then 0 else icCode k wide) := by
  obtain rfl | rfl | rfl | rfl | rfl | rfl : k = 1 ∨ k = 2 ∨ k = 3 ∨ k = 4 ∨ k = 5 ∨ k = 6 := by omega
  all_goals cases wide <;> decide +kernel
theorem rBoth1 (m : Nat) (xs : List Int) (h : xs.length < 140737488355328) : redoubtref01_Both.f (m + 2) [xs] = some xs := by
  unfold redoubtref01_Both.f
  rw [redoubtref01_Both.l0, if_pos (by simp), if_pos (by omega), if_pos (by simpa [rd_L1] using h)]
  rw [redoubtref01_Both.l0, if_neg (by simp [wrap64])]
  simp [rd_L1]
theorem rMake (k r : Int) (wide : Bool) (xs : List Int) (h : xs.length < 140737488355328) :
    redoubtref07_Make.f 1795 k wide r xs = if icMakeErr k r = 0 then some (icType k wide, icCode k wide, r, xs, 0) else some (0, 0, 0, [], 1) := by
  have e : ∀ b : Bool, redoubtref07_Make.j0 1795 k wide r xs b = if b = true then some (0, 0, 0, [], 1) else fin k wide (outer k wide 256 (0, 0)) r xs := by
    intro b
    rw [redoubtref07_Make.j0, rBoth1 _ _ h, Option.bind_some]
    rw [show redoubtref07_Make.l0 1794 k wide 255 0 0 r xs = fin k wide (outer k wide 256 (0, 0)) r xs from l0_all 256 k wide (0, 0) r xs (Nat.le_refl _)]
  unfold redoubtref07_Make.f
  by_cases q : icMakeErr k r = 0
  · obtain ⟨h1, h2, h3, h4⟩ := icMakeErr_zero.1 q
    rw [if_pos q, if_neg (by omega), if_neg (by omega), if_neg (by omega), e, if_neg (by simp; omega), outer_all wide k h1 h2]
    unfold fin
    by_cases h5 : k = 3
    · subst h5
      cases wide <;> rfl
    · rw [if_neg h5, if_neg h5]
  · rw [if_neg q]
    split
    · rw [e]; rfl
    · split
      · rw [e]; rfl
      · split
        · rw [e]; rfl
        · rw [e, if_pos]
          rw [decide_eq_true_iff]
          by_cases z : r ≤ 4294967295
          · exact absurd (icMakeErr_zero.2 ⟨by omega, by omega, by omega, z⟩) q
          · omega
theorem ref07_Kind (t c r : Int) (A : Option Addr) (n d : Nat) (xs : List Int) (wide : Bool) (w : World) (h : Bts w A n d xs) :
    Calls Try.prog 20 #[.agg #[.int .i64 t, .int .i64 c, .int .i64 r, .slice A n d], .bool wide] w fun e w' => e = .returned (.int .i64 (icKind t c wide)) ∧ Below w.heap.size w w' := by
  obtain rfl := h.len
  exact redoubtref07_Kind.calls 1 t c r A d xs wide _ w h.toC h.le (rKind 0 t c r xs wide)
theorem ref07_Error (k : Int) (w : World) : Calls Try.prog 22 #[.int .i64 k] w fun e w' => e = .returned (.bool (decide (3 ≤ k ∧ k ≤ 6))) ∧ Below w.heap.size w w' := by
  refine (redoubtref07_Error.calls k (decide (3 ≤ k ∧ k ≤ 6)) w ?_).mono fun e w' ⟨he, hd⟩ => ⟨he, hd.below⟩
  unfold redoubtref07_Error.f
  by_cases h : 3 ≤ k
  · rw [if_pos h]; simp [h]
  · rw [if_neg h]; simp [h]
/-- What the reference makes of a kind, as one form. -/
theorem ref07_Make (k r : Int) (wide : Bool) (A : Option Addr) (n d : Nat) (xs : List Int) (w : World) (h : Bts w A n d xs) (hn : n ≤ 2000) :
    Calls Try.prog 18 #[.int .i64 k, .bool wide, .int .i64 r, .slice A n d] w fun e w' =>
      ∃ (x y q : Int) (A : Option Addr) (n c : Nat) (zs : List Int), e = .returned (.tuple #[.agg #[.int .i64 x, .int .i64 y, .int .i64 q, .slice A n c], .int .i64 (icMakeErr k r)]) ∧ Bts w' A n c zs ∧ Below w.heap.size w w' ∧
        x = (if icMakeErr k r = 0 then icType k wide else 0) ∧ y = (if icMakeErr k r = 0 then icCode k wide else 0) ∧ q = (if icMakeErr k r = 0 then r else 0) ∧ zs = (if icMakeErr k r = 0 then xs else []) := by
  obtain rfl := h.len
  have hm := rMake k r wide xs (by omega)
  by_cases q : icMakeErr k r = 0
  · rw [if_pos q] at hm
    refine (redoubtref07_Make.calls 1795 k wide r (fun _ => True) A d xs _ _ _ _ _ w (h.toV _ _) hm).mono ?_
    rintro e w' ⟨v, rfl, hR, hB⟩
    obtain ⟨A', n', c', rfl, hb⟩ := (OwnB.ofR hR h.byt h.max).bts
    exact ⟨_, _, _, A', n', c', xs, by rw [q], hb, hB, by rw [if_pos q], by rw [if_pos q], by rw [if_pos q], by rw [if_pos q]⟩
  · rw [if_neg q] at hm
    have q1 : icMakeErr k r = 1 := by unfold icMakeErr at q ⊢; split <;> simp_all
    refine (redoubtref07_Make.calls 1795 k wide r (fun _ => True) A d xs _ _ _ _ _ w (h.toV _ _) hm).mono ?_
    rintro e w' ⟨v, rfl, hR, hB⟩
    obtain ⟨A', n', c', rfl, hb⟩ := (OwnB.ofR hR byt_nil (by simp)).bts
    exact ⟨_, _, _, A', n', c', [], by rw [q1], hb, hB, by rw [if_neg q], by rw [if_neg q], by rw [if_neg q], by rw [if_neg q]⟩
end Go.Proofs.Ytfcccglkhdfodaa

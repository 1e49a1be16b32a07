-- PRINTED BY print.sh 35421559b90ae4d0a3588c463048766b98c2df88dd9212a6774a882060cdf62d: not written by this session
import Derived.Test.YtgkphopdmkfcgaaPCtrTurnsx0
import Derived.Test.YtgkphopdmkfcgaaPCtrTurnsx1
import Derived.Test.YtgkphopdmkfcgaaPCtrTurnsx3
namespace Go.Proofs.Ytgkphopdmkfcgaa.PCtrTurns
open Go.RowKit Go.Proofs.YtgkphopdmkfcgaaW.PrintWords Go.Proofs.YtgkphopdmkfcgaaW.PrintLast Go.Proofs.YtgkphopdmkfcgaaW.PrintMore
attribute [local go_sem] max2_int min2_int max_two min_two max_three min_three max_four min_four   -- for this text's walks alone
set_option linter.unusedVariables false
set_option linter.unusedSimpArgs false

/-! ### redoubtref08_By: function 24 -/
mutual
def redoubtref08_By.l0 : Nat → List Int → List Int → List Int → List Int → Int → Option (List Int)
  | 0, _, _, _, _, _ => none
  | k + 1, x0, x1, x2, x7, x8 => if x8 < 16 then (if 0 ≤ x8 then (if x8 < (x2.length : Int) then (if x8 < (x7.length : Int) then (redoubtref08_By.l0 k x0 x1 x2 (x7.set (x8 : Int).toNat (wrap64 (rd x2 x8))) (wrap64 (x8 + 1))) else (none)) else (none)) else (none)) else ((redoubtref08_with.f k x7 x1).bind fun t188 => (redoubtref08_By.l1 k x0 x1 t188 16))
def redoubtref08_By.l1 : Nat → List Int → List Int → List Int → Int → Option (List Int)
  | 0, _, _, _, _ => none
  | k + 1, x0, x1, x7, x9 => if x9 < (x1.length : Int) then (if 16 ≤ 35184372088832 then (redoubtref08_By.l2 k x0 x1 x7 x9 (List.replicate 16 0) 0) else (none)) else (if 16 ≤ 281474976710656 then (redoubtref08_By.l4 k x7 (List.replicate 16 0) 0) else (none))
def redoubtref08_By.l2 : Nat → List Int → List Int → List Int → Int → List Int → Int → Option (List Int)
  | 0, _, _, _, _, _, _ => none
  | k + 1, x0, x1, x7, x9, x10, x11 => if x11 < 16 then (if 0 ≤ (wrap64 ((Int.tmod x11 4) + (wrap64 (4 * (Int.tmod (wrap64 ((wrap64 (Int.tdiv x11 4)) + (Int.tmod x11 4))) 4))))) then (if (wrap64 ((Int.tmod x11 4) + (wrap64 (4 * (Int.tmod (wrap64 ((wrap64 (Int.tdiv x11 4)) + (Int.tmod x11 4))) 4))))) < (x7.length : Int) then (if 0 ≤ (rd x7 (wrap64 ((Int.tmod x11 4) + (wrap64 (4 * (Int.tmod (wrap64 ((wrap64 (Int.tdiv x11 4)) + (Int.tmod x11 4))) 4)))))) then (if (rd x7 (wrap64 ((Int.tmod x11 4) + (wrap64 (4 * (Int.tmod (wrap64 ((wrap64 (Int.tdiv x11 4)) + (Int.tmod x11 4))) 4)))))) < (x0.length : Int) then (if 0 ≤ x11 then (if x11 < (x10.length : Int) then (redoubtref08_By.l2 k x0 x1 x7 x9 (x10.set (x11 : Int).toNat (rd x0 (rd x7 (wrap64 ((Int.tmod x11 4) + (wrap64 (4 * (Int.tmod (wrap64 ((wrap64 (Int.tdiv x11 4)) + (Int.tmod x11 4))) 4)))))))) (wrap64 (x11 + 1))) else (none)) else (none)) else (none)) else (none)) else (none)) else (none)) else (if (wrap64 (x9 + 16)) < (x1.length : Int) then (if 16 ≤ 35184372088832 then (redoubtref08_By.l3 k x0 x1 x9 x10 (List.replicate 16 0) 0) else (none)) else (if 0 ≤ x9 then (if x9 ≤ (x1.length : Int) then ((redoubtref08_with.f k x10 (x1.drop (x9 : Int).toNat)).bind fun t212 => (redoubtref08_By.l1 k x0 x1 t212 (wrap64 (x9 + 16)))) else (none)) else (none)))
def redoubtref08_By.l3 : Nat → List Int → List Int → Int → List Int → List Int → Int → Option (List Int)
  | 0, _, _, _, _, _, _ => none
  | k + 1, x0, x1, x9, x10, x12, x13 => if x13 < 16 then (if 0 ≤ x13 then (if x13 < (x10.length : Int) then ((redoubtref08_Times.f k (rd x10 x13) 2).bind fun t201 => (if 0 ≤ (wrap64 ((wrap64 ((wrap64 (Int.tdiv x13 4)) * 4)) + (Int.tmod (wrap64 (x13 + 1)) 4))) then (if (wrap64 ((wrap64 ((wrap64 (Int.tdiv x13 4)) * 4)) + (Int.tmod (wrap64 (x13 + 1)) 4))) < (x10.length : Int) then ((redoubtref08_Times.f k (rd x10 (wrap64 ((wrap64 ((wrap64 (Int.tdiv x13 4)) * 4)) + (Int.tmod (wrap64 (x13 + 1)) 4)))) 3).bind fun t203 => (if 0 ≤ (wrap64 ((wrap64 ((wrap64 (Int.tdiv x13 4)) * 4)) + (Int.tmod (wrap64 (x13 + 2)) 4))) then (if (wrap64 ((wrap64 ((wrap64 (Int.tdiv x13 4)) * 4)) + (Int.tmod (wrap64 (x13 + 2)) 4))) < (x10.length : Int) then (if 0 ≤ (wrap64 ((wrap64 ((wrap64 (Int.tdiv x13 4)) * 4)) + (Int.tmod (wrap64 (x13 + 3)) 4))) then (if (wrap64 ((wrap64 ((wrap64 (Int.tdiv x13 4)) * 4)) + (Int.tmod (wrap64 (x13 + 3)) 4))) < (x10.length : Int) then (if x13 < (x12.length : Int) then (redoubtref08_By.l3 k x0 x1 x9 x10 (x12.set (x13 : Int).toNat (Go.bits .xor .i64 (Go.bits .xor .i64 (Go.bits .xor .i64 t201 t203) (rd x10 (wrap64 ((wrap64 ((wrap64 (Int.tdiv x13 4)) * 4)) + (Int.tmod (wrap64 (x13 + 2)) 4))))) (rd x10 (wrap64 ((wrap64 ((wrap64 (Int.tdiv x13 4)) * 4)) + (Int.tmod (wrap64 (x13 + 3)) 4)))))) (wrap64 (x13 + 1))) else (none)) else (none)) else (none)) else (none)) else (none))) else (none)) else (none))) else (none)) else (none)) else (if 0 ≤ x9 then (if x9 ≤ (x1.length : Int) then ((redoubtref08_with.f k x12 (x1.drop (x9 : Int).toNat)).bind fun t208 => (redoubtref08_By.l1 k x0 x1 t208 (wrap64 (x9 + 16)))) else (none)) else (none))
def redoubtref08_By.l4 : Nat → List Int → List Int → Int → Option (List Int)
  | 0, _, _, _ => none
  | k + 1, x7, x15, x16 => if x16 < 16 then (if 0 ≤ x16 then (if x16 < (x7.length : Int) then (if x16 < (x15.length : Int) then (redoubtref08_By.l4 k x7 (x15.set (x16 : Int).toNat ((rd x7 x16) % 256)) (wrap64 (x16 + 1))) else (none)) else (none)) else (none)) else (some x15)
end
def redoubtref08_By.f (k : Nat) (l0 : List Int) (l1 : List Int) (l2 : List Int) : Option (List Int) := if 16 ≤ 35184372088832 then (redoubtref08_By.l0 k l0 l1 l2 (List.replicate 16 0) 0) else (none)
theorem redoubtref08_By.mono_l : ∀ k, (∀ y0 y1 y2 y3 y4, LeO (redoubtref08_By.l0 k y0 y1 y2 y3 y4) (redoubtref08_By.l0 (k + 1) y0 y1 y2 y3 y4)) ∧ (∀ y0 y1 y2 y3, LeO (redoubtref08_By.l1 k y0 y1 y2 y3) (redoubtref08_By.l1 (k + 1) y0 y1 y2 y3)) ∧ (∀ y0 y1 y2 y3 y4 y5, LeO (redoubtref08_By.l2 k y0 y1 y2 y3 y4 y5) (redoubtref08_By.l2 (k + 1) y0 y1 y2 y3 y4 y5)) ∧ (∀ y0 y1 y2 y3 y4 y5, LeO (redoubtref08_By.l3 k y0 y1 y2 y3 y4 y5) (redoubtref08_By.l3 (k + 1) y0 y1 y2 y3 y4 y5)) ∧ (∀ y0 y1 y2, LeO (redoubtref08_By.l4 k y0 y1 y2) (redoubtref08_By.l4 (k + 1) y0 y1 y2))
  | 0 => ⟨fun _ _ _ _ _ r h => by simp [redoubtref08_By.l0] at h, fun _ _ _ _ r h => by simp [redoubtref08_By.l1] at h, fun _ _ _ _ _ _ r h => by simp [redoubtref08_By.l2] at h, fun _ _ _ _ _ _ r h => by simp [redoubtref08_By.l3] at h, fun _ _ _ r h => by simp [redoubtref08_By.l4] at h⟩
  | k + 1 => by
    obtain ⟨ih0, ih1, ih2, ih3, ih4⟩ := redoubtref08_By.mono_l k
    refine ⟨?_, ?_, ?_, ?_, ?_⟩
    · intro y0 y1 y2 y3 y4
      unfold redoubtref08_By.l0
      repeat' first
      | (with_reducible exact ih0 _ _ _ _ _)
      | (with_reducible exact ih1 _ _ _ _)
      | (with_reducible exact ih2 _ _ _ _ _ _)
      | (with_reducible exact ih3 _ _ _ _ _ _)
      | (with_reducible exact ih4 _ _ _)
      | (with_reducible exact redoubtref08_Times.mono _ _ _)
      | (with_reducible exact redoubtref08_with.mono _ _ _)
      | (with_reducible exact LeO.refl _)
      | (with_reducible exact LeO.none _)
      | (with_reducible refine LeO.ite ?_ ?_)
      | (with_reducible refine LeO.bind ?_ (fun _ => ?_))
      | exact ih0 _ _ _ _ _
      | exact ih1 _ _ _ _
      | exact ih2 _ _ _ _ _ _
      | exact ih3 _ _ _ _ _ _
      | exact ih4 _ _ _
      | exact redoubtref08_Times.mono _ _ _
      | exact redoubtref08_with.mono _ _ _
      | exact LeO.none _
      | refine LeO.ite ?_ ?_
      | refine LeO.bind ?_ (fun _ => ?_)
    · intro y0 y1 y2 y3
      unfold redoubtref08_By.l1
      repeat' first
      | (with_reducible exact ih0 _ _ _ _ _)
      | (with_reducible exact ih1 _ _ _ _)
      | (with_reducible exact ih2 _ _ _ _ _ _)
      | (with_reducible exact ih3 _ _ _ _ _ _)
      | (with_reducible exact ih4 _ _ _)
      | (with_reducible exact redoubtref08_Times.mono _ _ _)
      | (with_reducible exact redoubtref08_with.mono _ _ _)
      | (with_reducible exact LeO.refl _)
      | (with_reducible exact LeO.none _)
      | (with_reducible refine LeO.ite ?_ ?_)
      | (with_reducible refine LeO.bind ?_ (fun _ => ?_))
      | exact ih0 _ _ _ _ _
      | exact ih1 _ _ _ _
      | exact ih2 _ _ _ _ _ _
      | exact ih3 _ _ _ _ _ _
      | exact ih4 _ _ _
      | exact redoubtref08_Times.mono _ _ _
      | exact redoubtref08_with.mono _ _ _
      | exact LeO.none _
      | refine LeO.ite ?_ ?_
      | refine LeO.bind ?_ (fun _ => ?_)
    · intro y0 y1 y2 y3 y4 y5
      unfold redoubtref08_By.l2
      repeat' first
      | (with_reducible exact ih0 _ _ _ _ _)
      | (with_reducible exact ih1 _ _ _ _)
      | (with_reducible exact ih2 _ _ _ _ _ _)
      | (with_reducible exact ih3 _ _ _ _ _ _)
      | (with_reducible exact ih4 _ _ _)
      | (with_reducible exact redoubtref08_Times.mono _ _ _)
      | (with_reducible exact redoubtref08_with.mono _ _ _)
      | (with_reducible exact LeO.refl _)
      | (with_reducible exact LeO.none _)
      | (with_reducible refine LeO.ite ?_ ?_)
      | (with_reducible refine LeO.bind ?_ (fun _ => ?_))
      | exact ih0 _ _ _ _ _
      | exact ih1 _ _ _ _
      | exact ih2 _ _ _ _ _ _
      | exact ih3 _ _ _ _ _ _
      | exact ih4 _ _ _
      | exact redoubtref08_Times.mono _ _ _
      | exact redoubtref08_with.mono _ _ _
      | exact LeO.none _
      | refine LeO.ite ?_ ?_
      | refine LeO.bind ?_ (fun _ => ?_)
    · intro y0 y1 y2 y3 y4 y5
      unfold redoubtref08_By.l3
      repeat' first
      | (with_reducible exact ih0 _ _ _ _ _)
      | (with_reducible exact ih1 _ _ _ _)
      | (with_reducible exact ih2 _ _ _ _ _ _)
      | (with_reducible exact ih3 _ _ _ _ _ _)
      | (with_reducible exact ih4 _ _ _)
      | (with_reducible exact redoubtref08_Times.mono _ _ _)
      | (with_reducible exact redoubtref08_with.mono _ _ _)
      | (with_reducible exact LeO.refl _)
      | (with_reducible exact LeO.none _)
      | (with_reducible refine LeO.ite ?_ ?_)
      | (with_reducible refine LeO.bind ?_ (fun _ => ?_))
      | exact ih0 _ _ _ _ _
      | exact ih1 _ _ _ _
      | exact ih2 _ _ _ _ _ _
      | exact ih3 _ _ _ _ _ _
      | exact ih4 _ _ _
      | exact redoubtref08_Times.mono _ _ _
      | exact redoubtref08_with.mono _ _ _
      | exact LeO.none _
      | refine LeO.ite ?_ ?_
      | refine LeO.bind ?_ (fun _ => ?_)
    · intro y0 y1 y2
      unfold redoubtref08_By.l4
      repeat' first
      | (with_reducible exact ih0 _ _ _ _ _)
      | (with_reducible exact ih1 _ _ _ _)
      | (with_reducible exact ih2 _ _ _ _ _ _)
      | (with_reducible exact ih3 _ _ _ _ _ _)
      | (with_reducible exact ih4 _ _ _)
      | (with_reducible exact redoubtref08_Times.mono _ _ _)
      | (with_reducible exact redoubtref08_with.mono _ _ _)
      | (with_reducible exact LeO.refl _)
      | (with_reducible exact LeO.none _)
      | (with_reducible refine LeO.ite ?_ ?_)
      | (with_reducible refine LeO.bind ?_ (fun _ => ?_))
      | exact ih0 _ _ _ _ _
      | exact ih1 _ _ _ _
      | exact ih2 _ _ _ _ _ _
      | exact ih3 _ _ _ _ _ _
      | exact ih4 _ _ _
      | exact redoubtref08_Times.mono _ _ _
      | exact redoubtref08_with.mono _ _ _
      | exact LeO.none _
      | refine LeO.ite ?_ ?_
      | refine LeO.bind ?_ (fun _ => ?_)
theorem redoubtref08_By.mono : ∀ a0 a1 a2 k, LeO (redoubtref08_By.f k a0 a1 a2) (redoubtref08_By.f (k + 1) a0 a1 a2) := by
  intro a0 a1 a2 k
  obtain ⟨ih0, ih1, ih2, ih3, ih4⟩ := redoubtref08_By.mono_l k
  unfold redoubtref08_By.f
  repeat' first
      | (with_reducible exact ih0 _ _ _ _ _)
      | (with_reducible exact ih1 _ _ _ _)
      | (with_reducible exact ih2 _ _ _ _ _ _)
      | (with_reducible exact ih3 _ _ _ _ _ _)
      | (with_reducible exact ih4 _ _ _)
      | (with_reducible exact redoubtref08_Times.mono _ _ _)
      | (with_reducible exact redoubtref08_with.mono _ _ _)
      | (with_reducible exact LeO.refl _)
      | (with_reducible exact LeO.none _)
      | (with_reducible refine LeO.ite ?_ ?_)
      | (with_reducible refine LeO.bind ?_ (fun _ => ?_))
      | exact ih0 _ _ _ _ _
      | exact ih1 _ _ _ _
      | exact ih2 _ _ _ _ _ _
      | exact ih3 _ _ _ _ _ _
      | exact ih4 _ _ _
      | exact redoubtref08_Times.mono _ _ _
      | exact redoubtref08_with.mono _ _ _
      | exact LeO.none _
      | refine LeO.ite ?_ ?_
      | refine LeO.bind ?_ (fun _ => ?_)
def redoubtref08_By.T21 : Bool × List (List Nat × List Nat) := (true, [([], []), ([], []), ([], []), ([], []), ([2, 3], [2, 3]), ([4], [4]), ([5], [5]), ([], []), ([], []), ([], []), ([9], [9]), ([10], [10]), ([8, 11], [8, 11]), ([7, 12], [7, 12]), ([13], [13]), ([14, 6], [14]), ([6, 15], [6, 15]), ([], []), ([], []), ([], []), ([19], [19]), ([20], [20]), ([18, 21], [18, 21]), ([17, 22], [17, 22]), ([23], [23]), ([16, 24], [16, 24]), ([], []), ([], []), ([], []), ([28], [28]), ([29], [29]), ([27, 30], [27, 30]), ([26, 31], [26, 31]), ([32], [32]), ([25, 33], [25, 33]), ([0, 1, 0, 1, 2, 3, 4, 5, 6, 7, 8, 9, 10, 11, 12, 13, 14, 15, 16, 17, 18, 19, 20, 21, 22, 23, 24, 25, 26, 27, 28, 29, 30, 31, 32, 33, 34], [0, 1]), ([35, 34, 15, 0, 1, 2, 3, 4, 5, 6, 7, 8, 9, 10, 11, 12, 13, 14, 15, 16, 17, 18, 19, 20, 21, 22, 23, 24, 25, 26, 27, 28, 29, 30, 31, 32, 33, 34], [34, 35])])
def redoubtref08_By.B21 : List Nat := [0, 0, 0, 0, 12, 28, 60, 0, 0, 0, 512, 1536, 3840, 8064, 16256, 32764, 65532, 0, 0, 0, 524288, 1572864, 3932160, 8257536, 16646144, 33554428, 0, 0, 0, 268435456, 805306368, 2013265920, 4227858432, 8522825728, 17179869180, 34359738367, 68719476735]
theorem redoubtref08_By.tab21 : rtab .any (opsOf Try.f24 21) = redoubtref08_By.T21 := by kernel_rfl
theorem redoubtref08_By.bits21 : waitsOk redoubtref08_By.T21.2 redoubtref08_By.B21 = true := by kernel_rfl
set_option maxHeartbeats 8000000 in
set_option maxRecDepth 100000 in
theorem redoubtref08_By.calls (k : Nat) (A0 : Option Addr) (c0 : Nat) (l0 : List Int) (A1 : Option Addr) (c1 : Nat) (l1 : List Int) (A2 : Option Addr) (c2 : Nat) (l2 : List Int) (r : List Int) (w : World) (hr0 : Kd.C (Kd.int .i64) w A0 l0.length l0) (hc0 : l0.length ≤ c0) (hr1 : Kd.C (Kd.int .u8) w A1 l1.length l1) (hc1 : l1.length ≤ c1) (hr2 : Kd.C (Kd.int .u8) w A2 l2.length l2) (hc2 : l2.length ≤ c2) (h : redoubtref08_By.f k l0 l1 l2 = some r) :
    Calls Try.prog 24 #[.slice A0 l0.length c0, .slice A1 l1.length c1, .slice A2 l2.length c2] w fun e w' => ∃ v0_ : Value, e = .returned (v0_) ∧ Kd.R (Kd.int .u8) 5 w' w.heap.size (fun _ => True) v0_ r ∧ Below w.heap.size w w' := by
  have HR0 := Aside0.mk hr0
  have HC0 := Aside0.mk hc0
  clear hr0 hc0
  have HR1 := Aside0.mk hr1
  have HC1 := Aside0.mk hc1
  clear hr1 hc1
  have HR2 := Aside0.mk hr2
  have HC2 := Aside0.mk hc2
  clear hr2 hc2
  have HB := Aside0.mk (Below.refl w.heap.size w)
  have H : (if 16 ≤ 35184372088832 then (redoubtref08_By.l0 k l0 l1 l2 (List.replicate 16 0) 0) else (none)) = some r := h
  clear h
  by_cases c4 : 16 ≤ 35184372088832
  · rw [if_pos c4] at H
    have c4b0 := eq_true c4
    have c4b1 : decide (16 ≤ 35184372088832) = true := decide_eq_true c4
    clear c4
    obtain ⟨y183, hy183⟩ : ∃ y_ : List Int, y_ = (List.replicate 16 0) := ⟨_, rfl⟩
    replace H : (redoubtref08_By.l0 k l0 l1 l2 y183 0) = some r := by first | (rw [hy183]; with_reducible exact H) | (have H2_ := (Option.bind_some _ _).symm.trans H; rw [hy183]; with_reducible exact H2_) | (have H2_ := (Option.bind_some _ _).symm.trans H; with_reducible exact H2_) | with_reducible exact H | (rw [hy183]; exact H) | exact H
    have Ny183 := Aside0.mk hy183
    clear hy183
    have H' := Aside0.mk H
    clear H
    go_enter Try.func24, Try.ntmps24
    go_wp2_with (first | ((with_reducible refine gate_dst (N := 17) rfl ?_); refine Kd.R_make (Kd.int .i64) _ 3 rfl (N := 17) rfl 43 _ _ rfl 16 rfl rfl Try.underlying43 (.int .i64 0) 8 info3 rfl (by decide) (by omega) 0 (ok := fun _ => True) (okp := fun _ => True) rfl (fun _ hk => hk) trivial (by omega) (by omega) (Below.refl _ _) (Nat.le_refl _) ?_; intro v184 w5 ho6 hb hg_ hnew_; clear hg_ hnew_; (first | rw [← Ny183.out] at ho6 | (simp only [Int.reduceToNat] at ho6; rw [← Ny183.out] at ho6)); have n0_ := Aside0.mk (Kd.R_lower ho6 (below_size (by repeat (first | (with_reducible first | exact HB.out | apply below_alloc | apply pw_below_drewN | apply below_drew1) | exact HB.out)))); have n1_ := Aside0.mk (below_step (by repeat (first | (with_reducible first | exact HB.out | apply below_alloc | apply pw_below_drewN | apply below_drew1) | exact HB.out)) hb); clear HB; have HO185 := n0_; have HB := n1_; clear n0_ n1_; clear hb ho6))
    go_loopg [8] k (fun kq v8 w' => ∃ (x7_1 : List Int) (x8_1 : Int), v8 = .int .i64 x8_1 ∧ Aside0 (redoubtref08_By.l0 kq l0 l1 l2 x7_1 x8_1 = some r) ∧ Aside0 (kq ≤ k) ∧ Aside0 (Kd.R (Kd.int .i64) 3 w' w.heap.size (fun _ => True) v184 x7_1) ∧ Aside0 (Below w.heap.size w w'))
    case atStart => exact ⟨(y183), (0), (by first | rfl | (simp; done) | (simp [*]; done)), H', ⟨Nat.le_refl _⟩, ⟨by (with_reducible repeat (first | apply Kd.R_alloc | apply Kd.R_drewN | apply Kd.R_drew)); exact HO185.out⟩, ⟨by repeat (first | (with_reducible first | exact HB.out | apply below_alloc | apply pw_below_drewN | apply below_drew1) | exact HB.out)⟩⟩
    case round =>
      clear H'
      try clear c1
      try clear c2
      try clear p2
      try clear c4
      try clear c4b0
      try clear c4b1
      obtain ⟨x7_1, x8_1, rfl, HA, HK1, HO_7, HB⟩ := hrel
      cases gk with
      | zero => exact absurd HA.out (by simp [redoubtref08_By.l0])
      | succ k1 =>
        have H := HA.out
        clear HA
        simp only [redoubtref08_By.l0] at H
        by_cases c7 : x8_1 < 16
        · rw [if_pos c7] at H
          have c7b0 : decide (x8_1 < 16) = true := decide_eq_true c7
          clear c7
          by_cases c8 : 0 ≤ x8_1
          · rw [if_pos c8] at H
            have c8b0 : decide (0 ≤ x8_1) = true := decide_eq_true c8
            clear c8
            by_cases c9 : x8_1 < (l2.length : Int)
            · rw [if_pos c9] at H
              have c9b0 : decide (x8_1 < (l2.length : Int)) = true := decide_eq_true c9
              clear c9
              by_cases c10 : x8_1 < (x7_1.length : Int)
              · rw [if_pos c10] at H
                have c10b0 : decide (x8_1 < (x7_1.length : Int)) = true := decide_eq_true c10
                clear c10
                obtain ⟨y187, hy187⟩ : ∃ y_ : List Int, y_ = (x7_1.set (x8_1 : Int).toNat (wrap64 (rd l2 x8_1))) := ⟨_, rfl⟩
                replace H : (redoubtref08_By.l0 k1 l0 l1 l2 y187 (wrap64 (x8_1 + 1))) = some r := by first | (rw [hy187]; with_reducible exact H) | (have H2_ := (Option.bind_some _ _).symm.trans H; rw [hy187]; with_reducible exact H2_) | (have H2_ := (Option.bind_some _ _).symm.trans H; with_reducible exact H2_) | with_reducible exact H | (rw [hy187]; exact H) | exact H
                have Ny187 := Aside0.mk hy187
                clear hy187
                have H' := Aside0.mk H
                clear H
                have p186 : 0 ≤ (x8_1 : Int) := of_decide_eq_true (by first | (with_reducible assumption) | assumption)
                have q186 : x8_1 < (l2.length : Int) := of_decide_eq_true (by first | (with_reducible assumption) | assumption)
                obtain ⟨ad186, e186, hx186_0⟩ := Kd.at_int HR2.out x8_1 p186 q186
                cases e186
                replace hx186_0 := (HB.out.cell (World.block_lt_of_cell? w _ hx186_0)).trans hx186_0
                replace p186 := eq_true p186
                replace q186 := eq_true q186
                have p11 : 0 ≤ (x8_1 : Int) := of_decide_eq_true (by first | (with_reducible assumption) | assumption)
                have q11 : (x8_1 : Int) < ((x7_1.length : Int) : Int) := of_decide_eq_true (by first | (with_reducible assumption) | assumption)
                obtain ⟨go11, co11, eo11, gb11, gl11, cl11, HG11⟩ := Kd.R_form HO_7.out (by omega)
                (first | cases eo11 | (injection eo11 with ea_ en_ ec_; (first | subst ea_ | (injection ea_ with ea_; subst ea_)); subst ec_; clear en_))
                have GB11 := Aside0.mk gb11
                have GG11 := Aside0.mk HG11
                clear gb11 gl11 HG11
                obtain ⟨hx11_0, hf11_0⟩ := Kd.R_celln 0 HO_7.out (x8_1 : Int) p11 q11
                replace p11 := eq_true p11
                replace q11 := eq_true q11
                have HP12 := Kd.R_putg HO_7.out (x8_1 : Int) (wrap64 (rd l2 x8_1))
                go_wp2_with (first | ((with_reducible refine gate_store (t := 3) (p := 29) rfl ?_); refine store_event (t := 3) (p := 29) (v := ?vo_w13) (w1 := (wr.setCell ⟨go11, (x8_1 : Int).toNat, none⟩ (.int .i64 (wrap64 (rd l2 x8_1))))) ?hg ?ho ?hn ?hr ?_; (case ho => rfl); (case hg => rfl); (case hn => rfl); (case hr => first | (go_simp; done) | (go_simp; rfl)); intro w13 hw; have hg : wr.grownBy w13 (some go11) := (by rw [hw]; exact HP12.2); have hp_ : Kd.R (Kd.int .i64) 3 w13 w.heap.size (fun _ => True) (.slice (some ⟨go11, 0, none⟩) x7_1.length co11) y187 := (by rw [hw, Ny187.out]; exact HP12.1); clear HP12; have n0_ := Aside0.mk (hp_); have n1_ := Aside0.mk ((by rw [hw]; exact below_set (HB.out) GB11.out : Below w.heap.size w w13)); clear HO_7; clear HB; have HO_7 := n0_; have HB := n1_; clear n0_ n1_; clear hg hw hp_))
                go_roundg k1
                case measure => have := HK1.out; omega
                case rel => exact ⟨(y187), (wrap64 (x8_1 + 1)), (by first | rfl | (simp; done) | (simp [*]; done)), H', ⟨by have := HK1.out; omega⟩, ⟨by (with_reducible repeat (first | apply Kd.R_alloc | apply Kd.R_drewN | apply Kd.R_drew)); exact HO_7.out⟩, ⟨by repeat (first | (with_reducible first | exact HB.out | apply below_alloc | apply pw_below_drewN | apply below_drew1) | exact HB.out)⟩⟩
              · rw [if_neg c10] at H
                exact absurd H (by simp)
            · rw [if_neg c9] at H
              exact absurd H (by simp)
          · rw [if_neg c8] at H
            exact absurd H (by simp)
        · rw [if_neg c7] at H
          have c7b0 : decide (x8_1 < 16) = false := decide_eq_false c7
          clear c7
          replace H := Option.bind_eq_some_iff.mp H
          obtain ⟨t188, A140, H⟩ := H
          replace H : (redoubtref08_By.l1 k1 l0 l1 t188 16) = some r := H
          have A14 := Aside0.mk A140
          clear A140
          have H' := Aside0.mk H
          clear H
          obtain ⟨Ao15, co15, eo15⟩ := Kd.R_slice HO_7.out
          subst eo15
          go_wp2_with (first | ((with_reducible refine gate_callee (f := 33) rfl ?_); refine goesL_ (some 32) rfl rfl Try.func33 (by kernel_rfl) rfl #[.slice Ao15 x7_1.length co15, .slice A1 l1.length c1] rfl (by (try simp only [List.map_toArray, List.map_cons, List.map_nil]); first | done | rfl | (simp only [List.length_drop, List.length_take]; rfl)) ?_; (with_reducible refine (redoubtref08_with.calls k1 _ _ x7_1 _ _ l1 t188 _ ?side1 ?side2 ?side3 ?side4 A14.out).mono ?_); (case side1 => repeat (first | exact (Kd.R_reads' HO_7.out).2.2 | (with_reducible refine Kd.C_alloc ?_ _) | (with_reducible refine Kd.C_drewN ?_ _) | (with_reducible refine Kd.C_drew ?_))); (case side2 => exact (Kd.R_reads' HO_7.out).2.1); (case side3 => repeat (first | exact (Kd.C_below HR1.out HB.out) | (with_reducible refine Kd.C_alloc ?_ _) | (with_reducible refine Kd.C_drewN ?_ _) | (with_reducible refine Kd.C_drew ?_))); (case side4 => exact HC1.out); rintro e w16 ⟨v189, rfl, ho0, hb⟩; refine ⟨_, rfl, ?_⟩; have n0_ := Aside0.mk (Kd.R_elder' (by (with_reducible repeat (first | apply Kd.R_alloc | apply Kd.R_drewN | apply Kd.R_drew)); exact HO_7.out) (Kd.R_base ho0) hb); have n1_ := Aside0.mk (Kd.R_lower (Kd.R_new' ho0 (Kd.R_lt (by (with_reducible repeat (first | apply Kd.R_alloc | apply Kd.R_drewN | apply Kd.R_drew)); exact HO_7.out))) (below_size (by repeat (first | (with_reducible first | exact HB.out | apply below_alloc | apply pw_below_drewN | apply below_drew1) | exact HB.out)))); have n2_ := Aside0.mk (below_step (by repeat (first | (with_reducible first | exact HB.out | apply below_alloc | apply pw_below_drewN | apply below_drew1) | exact HB.out)) hb); clear HO_7; clear HB; have HO_7 := n0_; have HO190 := n1_; have HB := n2_; clear n0_ n1_ n2_; (try clear hb); (try clear hb2); (try clear hk); (try clear hi); (try clear ho0)))
          go_loopg [7, 9] k1 (fun kq v7 v9 w' => ∃ (x7_2 : List Int) (x9_2 : Int), v9 = .int .i64 x9_2 ∧ Aside0 (redoubtref08_By.l1 kq l0 l1 x7_2 x9_2 = some r) ∧ Aside0 (kq ≤ k1) ∧ Aside0 (Kd.R (Kd.int .i64) 3 w' w.heap.size (fun _ => True) v7 x7_2) ∧ Aside0 (Below w.heap.size w w'))
          case atStart => exact ⟨(t188), (16), (by first | rfl | (simp; done) | (simp [*]; done)), H', ⟨Nat.le_refl _⟩, ⟨by (with_reducible repeat (first | apply Kd.R_alloc | apply Kd.R_drewN | apply Kd.R_drew)); exact Kd.R_mono HO190.out (fun _ hk => trivial)⟩, ⟨by repeat (first | (with_reducible first | exact HB.out | apply below_alloc | apply pw_below_drewN | apply below_drew1) | exact HB.out)⟩⟩
          case round =>
            clear H'
            try clear c1
            try clear p1
            try clear q1
            try clear hx1
            try clear c2
            try clear p2
            try clear c3
            try clear c4
            try clear c4b0
            try clear c4b1
            try clear p6
            try clear c7
            try clear c7b0
            try clear c8
            try clear c8b0
            try clear c9
            try clear c9b0
            try clear c10
            try clear c10b0
            try clear p11
            try clear q11
            try clear hx11
            try clear hf11
            try clear hx11_0
            try clear hx186_0
            try clear p11
            try clear p186
            try clear p2
            try clear q11
            try clear q186
            obtain ⟨x7_2, x9_2, rfl, HA, HK2, HO_7, HB⟩ := hrel
            cases gk with
            | zero => exact absurd HA.out (by simp [redoubtref08_By.l1])
            | succ k2 =>
              have H := HA.out
              clear HA
              simp only [redoubtref08_By.l1] at H
              by_cases c17 : x9_2 < (l1.length : Int)
              · rw [if_pos c17] at H
                have c17b0 : decide (x9_2 < (l1.length : Int)) = true := decide_eq_true c17
                clear c17
                by_cases c18 : 16 ≤ 35184372088832
                · rw [if_pos c18] at H
                  have c18b0 := eq_true c18
                  have c18b1 : decide (16 ≤ 35184372088832) = true := decide_eq_true c18
                  clear c18
                  obtain ⟨y191, hy191⟩ : ∃ y_ : List Int, y_ = (List.replicate 16 0) := ⟨_, rfl⟩
                  replace H : (redoubtref08_By.l2 k2 l0 l1 x7_2 x9_2 y191 0) = some r := by first | (rw [hy191]; with_reducible exact H) | (have H2_ := (Option.bind_some _ _).symm.trans H; rw [hy191]; with_reducible exact H2_) | (have H2_ := (Option.bind_some _ _).symm.trans H; with_reducible exact H2_) | with_reducible exact H | (rw [hy191]; exact H) | exact H
                  have Ny191 := Aside0.mk hy191
                  clear hy191
                  have H' := Aside0.mk H
                  clear H
                  go_wp2_with (first | ((with_reducible refine gate_dst (N := 39) rfl ?_); refine Kd.R_make (Kd.int .i64) _ 3 rfl (N := 39) rfl 43 _ _ rfl 16 rfl rfl Try.underlying43 (.int .i64 0) 8 info3 rfl (by decide) (by omega) 0 (ok := fun _ => True) (okp := fun _ => True) rfl (fun _ hk => hk) trivial (by omega) (by omega) (Below.refl _ _) (Nat.le_refl _) ?_; intro v192 w19 ho20 hb hg_ hnew_; clear hg_ hnew_; (first | rw [← Ny191.out] at ho20 | (simp only [Int.reduceToNat] at ho20; rw [← Ny191.out] at ho20)); have n0_ := Aside0.mk (Kd.R_elder' (by (with_reducible repeat (first | apply Kd.R_alloc | apply Kd.R_drewN | apply Kd.R_drew)); exact HO_7.out) (Kd.R_base ho20) hb); have n1_ := Aside0.mk (Kd.R_lower (Kd.R_new' ho20 (Kd.R_lt (by (with_reducible repeat (first | apply Kd.R_alloc | apply Kd.R_drewN | apply Kd.R_drew)); exact HO_7.out))) (below_size (by repeat (first | (with_reducible first | exact HB.out | apply below_alloc | apply pw_below_drewN | apply below_drew1) | exact HB.out)))); have n2_ := Aside0.mk (below_step (by repeat (first | (with_reducible first | exact HB.out | apply below_alloc | apply pw_below_drewN | apply below_drew1) | exact HB.out)) hb); clear HO_7; clear HB; have HO_7 := n0_; have HO193 := n1_; have HB := n2_; clear n0_ n1_ n2_; clear hb ho20))
                  go_loopg [11] k2 (fun kq v11 w' => ∃ (x10_3 : List Int) (x11_3 : Int), v11 = .int .i64 x11_3 ∧ Aside0 (redoubtref08_By.l2 kq l0 l1 x7_2 x9_2 x10_3 x11_3 = some r) ∧ Aside0 (kq ≤ k2) ∧ Aside0 (Kd.R (Kd.int .i64) 3 w' w.heap.size (fun k_ => some k_ ≠ (v192 : Value).ownBlock) u7 x7_2) ∧ Aside0 (Kd.R (Kd.int .i64) 3 w' w.heap.size (fun k_ => some k_ ≠ (u7 : Value).ownBlock) v192 x10_3) ∧ Aside0 (Below w.heap.size w w'))
                  case atStart => exact ⟨(y191), (0), (by first | rfl | (simp; done) | (simp [*]; done)), H', ⟨Nat.le_refl _⟩, ⟨by (with_reducible repeat (first | apply Kd.R_alloc | apply Kd.R_drewN | apply Kd.R_drew)); exact Kd.R_mono HO_7.out (fun _ hk => hk.2)⟩, ⟨by (with_reducible repeat (first | apply Kd.R_alloc | apply Kd.R_drewN | apply Kd.R_drew)); exact Kd.R_mono HO193.out (fun _ hk => hk.2)⟩, ⟨by repeat (first | (with_reducible first | exact HB.out | apply below_alloc | apply pw_below_drewN | apply below_drew1) | exact HB.out)⟩⟩
                  case round =>
                    clear H'
                    try clear c1
                    try clear p1
                    try clear q1
                    try clear hx1
                    try clear c2
                    try clear p2
                    try clear c3
                    try clear c4
                    try clear c4b0
                    try clear c4b1
                    try clear p6
                    try clear c7
                    try clear c7b0
                    try clear c8
                    try clear c8b0
                    try clear c9
                    try clear c9b0
                    try clear c10
                    try clear c10b0
                    try clear p11
                    try clear q11
                    try clear hx11
                    try clear hf11
                    try clear c17
                    try clear c17b0
                    try clear c18
                    try clear c18b0
                    try clear c18b1
                    try clear p18
                    try clear q18
                    try clear hx18
                    try clear hx11_0
                    try clear hx186_0
                    try clear p1
                    try clear p11
                    try clear p186
                    try clear p2
                    try clear p6
                    try clear q1
                    try clear q11
                    try clear q186
                    obtain ⟨x10_3, x11_3, rfl, HA, HK3, HO_7, HO_10, HB⟩ := hrel
                    cases gk with
                    | zero => exact absurd HA.out (by simp [redoubtref08_By.l2])
                    | succ k3 =>
                      have H := HA.out
                      clear HA
                      simp only [redoubtref08_By.l2] at H
                      by_cases c21 : x11_3 < 16
                      · rw [if_pos c21] at H
                        have c21b0 : decide (x11_3 < 16) = true := decide_eq_true c21
                        clear c21
                        obtain ⟨ji22, hji22⟩ : ∃ j_ : Int, (wrap64 ((Int.tmod x11_3 4) + (wrap64 (4 * (Int.tmod (wrap64 ((wrap64 (Int.tdiv x11_3 4)) + (Int.tmod x11_3 4))) 4))))) = j_ := ⟨_, rfl⟩
                        replace H : (if 0 ≤ (ji22) then (if (ji22) < (x7_2.length : Int) then (if 0 ≤ (rd x7_2 (ji22)) then (if (rd x7_2 (ji22)) < (l0.length : Int) then (if 0 ≤ x11_3 then (if x11_3 < (x10_3.length : Int) then (redoubtref08_By.l2 k3 l0 l1 x7_2 x9_2 (x10_3.set (x11_3 : Int).toNat (rd l0 (rd x7_2 (ji22)))) (wrap64 (x11_3 + 1))) else (none)) else (none)) else (none)) else (none)) else (none)) else (none)) = some r := by first | (rw [hji22] at H; exact H) | (simp only [hji22] at H ⊢; exact H)
                        have hji22w : (IntKind.i64.wrap ((Int.tmod x11_3 4) + (wrap64 (4 * (Int.tmod (wrap64 ((wrap64 (Int.tdiv x11_3 4)) + (Int.tmod x11_3 4))) 4))))) = ji22 := (i64_w _).trans hji22
                        by_cases c23 : 0 ≤ (ji22)
                        · rw [if_pos c23] at H
                          have c23b0 : decide (0 ≤ (ji22)) = true := decide_eq_true c23
                          clear c23
                          by_cases c24 : (ji22) < (x7_2.length : Int)
                          · rw [if_pos c24] at H
                            have c24b0 : decide ((ji22) < (x7_2.length : Int)) = true := decide_eq_true c24
                            clear c24
                            by_cases c25 : 0 ≤ (rd x7_2 (ji22))
                            · rw [if_pos c25] at H
                              have c25b0 : decide (0 ≤ (rd x7_2 (ji22))) = true := decide_eq_true c25
                              clear c25
                              by_cases c26 : (rd x7_2 (ji22)) < (l0.length : Int)
                              · rw [if_pos c26] at H
                                have c26b0 : decide ((rd x7_2 (ji22)) < (l0.length : Int)) = true := decide_eq_true c26
                                clear c26
                                by_cases c27 : 0 ≤ x11_3
                                · rw [if_pos c27] at H
                                  have c27b0 : decide (0 ≤ x11_3) = true := decide_eq_true c27
                                  clear c27
                                  by_cases c28 : x11_3 < (x10_3.length : Int)
                                  · rw [if_pos c28] at H
                                    have c28b0 : decide (x11_3 < (x10_3.length : Int)) = true := decide_eq_true c28
                                    clear c28
                                    obtain ⟨y196, hy196⟩ : ∃ y_ : List Int, y_ = (x10_3.set (x11_3 : Int).toNat (rd l0 (rd x7_2 (ji22)))) := ⟨_, rfl⟩
                                    replace H : (redoubtref08_By.l2 k3 l0 l1 x7_2 x9_2 y196 (wrap64 (x11_3 + 1))) = some r := by first | (rw [hy196]; with_reducible exact H) | (have H2_ := (Option.bind_some _ _).symm.trans H; rw [hy196]; with_reducible exact H2_) | (have H2_ := (Option.bind_some _ _).symm.trans H; with_reducible exact H2_) | with_reducible exact H | (rw [hy196]; exact H) | exact H
                                    have Ny196 := Aside0.mk hy196
                                    clear hy196
                                    have H' := Aside0.mk H
                                    clear H
                                    obtain ⟨Ao30, co30, eo30⟩ := Kd.R_slice HO_7.out
                                    subst eo30
                                    have p194 : 0 ≤ ((ji22) : Int) := of_decide_eq_true (by first | (with_reducible assumption) | assumption)
                                    have q194 : (ji22) < (x7_2.length : Int) := of_decide_eq_true (by first | (with_reducible assumption) | assumption)
                                    obtain ⟨ad194, e194, hx194_0⟩ := Kd.at_int (Kd.R_reads' HO_7.out).2.2 (ji22) p194 q194
                                    cases e194
                                    replace p194 := eq_true p194
                                    replace q194 := eq_true q194
                                    have p195 : 0 ≤ ((rd x7_2 (ji22)) : Int) := of_decide_eq_true (by first | (with_reducible assumption) | assumption)
                                    have q195 : (rd x7_2 (ji22)) < (l0.length : Int) := of_decide_eq_true (by first | (with_reducible assumption) | assumption)
                                    obtain ⟨ad195, e195, hx195_0⟩ := Kd.at_int HR0.out (rd x7_2 (ji22)) p195 q195
                                    cases e195
                                    replace hx195_0 := (HB.out.cell (World.block_lt_of_cell? w _ hx195_0)).trans hx195_0
                                    replace p195 := eq_true p195
                                    replace q195 := eq_true q195
                                    have p29 : 0 ≤ (x11_3 : Int) := of_decide_eq_true (by first | (with_reducible assumption) | assumption)
                                    have q29 : (x11_3 : Int) < ((x10_3.length : Int) : Int) := of_decide_eq_true (by first | (with_reducible assumption) | assumption)
                                    obtain ⟨go29, co29, eo29, gb29, gl29, cl29, HG29⟩ := Kd.R_form HO_10.out (by omega)
                                    (first | cases eo29 | (injection eo29 with ea_ en_ ec_; (first | subst ea_ | (injection ea_ with ea_; subst ea_)); subst ec_; clear en_))
                                    have GB29 := Aside0.mk gb29
                                    have GG29 := Aside0.mk HG29
                                    clear gb29 gl29 HG29
                                    obtain ⟨hx29_0, hf29_0⟩ := Kd.R_celln 0 HO_10.out (x11_3 : Int) p29 q29
                                    replace p29 := eq_true p29
                                    replace q29 := eq_true q29
                                    have HP31 := Kd.R_putg HO_10.out (x11_3 : Int) (rd l0 (rd x7_2 (ji22)))
                                    go_wp2_with (first | ((with_reducible refine gate_store (t := 3) (p := 62) rfl ?_); refine store_event (t := 3) (p := 62) (v := ?vo_w32) (w1 := (wr.setCell ⟨go29, (x11_3 : Int).toNat, none⟩ (.int .i64 (rd l0 (rd x7_2 (ji22)))))) ?hg ?ho ?hn ?hr ?_; (case ho => rfl); (case hg => rfl); (case hn => rfl); (case hr => first | (go_simp; done) | (go_simp; rfl)); intro w32 hw; have hg : wr.grownBy w32 (some go29) := (by rw [hw]; exact HP31.2); have hp_ : Kd.R (Kd.int .i64) 3 w32 w.heap.size (fun k_ => some k_ ≠ (.slice (some ad194) x7_2.length co30 : Value).ownBlock) (.slice (some ⟨go29, 0, none⟩) x10_3.length co29) y196 := (by rw [hw, Ny196.out]; exact HP31.1); clear HP31; have n0_ := Aside0.mk (Kd.R_after (v := (.slice (some ⟨go29, 0, none⟩) x10_3.length co29)) (v1 := (.slice (some ⟨go29, 0, none⟩) x10_3.length co29)) (ok := (fun _ => True)) (by (with_reducible repeat (first | apply Kd.R_alloc | apply Kd.R_drewN | apply Kd.R_drew)); exact Kd.R_mono HO_7.out (fun _ hk => ⟨trivial, hk⟩)) hg (.inl rfl)); have n1_ := Aside0.mk (hp_); have n2_ := Aside0.mk ((by rw [hw]; exact below_set (HB.out) GB29.out : Below w.heap.size w w32)); clear HO_7; clear HO_10; clear HB; have HO_7 := n0_; have HO_10 := n1_; have HB := n2_; clear n0_ n1_ n2_; clear hg hw hp_))
                                    go_roundg k3
                                    case measure => have := HK1.out; have := HK2.out; have := HK3.out; omega
                                    case rel => exact ⟨(y196), (wrap64 (x11_3 + 1)), (by first | rfl | (simp; done) | (simp [*]; done)), H', ⟨by have := HK1.out; have := HK2.out; have := HK3.out; omega⟩, ⟨by (with_reducible repeat (first | apply Kd.R_alloc | apply Kd.R_drewN | apply Kd.R_drew)); exact Kd.R_mono HO_7.out (fun _ hk => hk.2)⟩, ⟨by (with_reducible repeat (first | apply Kd.R_alloc | apply Kd.R_drewN | apply Kd.R_drew)); exact HO_10.out⟩, ⟨by repeat (first | (with_reducible first | exact HB.out | apply below_alloc | apply pw_below_drewN | apply below_drew1) | exact HB.out)⟩⟩
                                  · rw [if_neg c28] at H
                                    exact absurd H (by simp)
                                · rw [if_neg c27] at H
                                  exact absurd H (by simp)
                              · rw [if_neg c26] at H
                                exact absurd H (by simp)
                            · rw [if_neg c25] at H
                              exact absurd H (by simp)
                          · rw [if_neg c24] at H
                            exact absurd H (by simp)
                        · rw [if_neg c23] at H
                          exact absurd H (by simp)
                      · rw [if_neg c21] at H
                        have c21b0 : decide (x11_3 < 16) = false := decide_eq_false c21
                        clear c21
                        by_cases c33 : (wrap64 (x9_2 + 16)) < (l1.length : Int)
                        · rw [if_pos c33] at H
                          have c33b0 : decide ((wrap64 (x9_2 + 16)) < (l1.length : Int)) = true := decide_eq_true c33
                          clear c33
                          by_cases c34 : 16 ≤ 35184372088832
                          · rw [if_pos c34] at H
                            have c34b0 := eq_true c34
                            have c34b1 : decide (16 ≤ 35184372088832) = true := decide_eq_true c34
                            clear c34
                            obtain ⟨y197, hy197⟩ : ∃ y_ : List Int, y_ = (List.replicate 16 0) := ⟨_, rfl⟩
                            replace H : (redoubtref08_By.l3 k3 l0 l1 x9_2 x10_3 y197 0) = some r := by first | (rw [hy197]; with_reducible exact H) | (have H2_ := (Option.bind_some _ _).symm.trans H; rw [hy197]; with_reducible exact H2_) | (have H2_ := (Option.bind_some _ _).symm.trans H; with_reducible exact H2_) | with_reducible exact H | (rw [hy197]; exact H) | exact H
                            have Ny197 := Aside0.mk hy197
                            clear hy197
                            have H' := Aside0.mk H
                            clear H
                            go_wp2_with (first | ((with_reducible refine gate_dst (N := 68) rfl ?_); refine Kd.R_make (Kd.int .i64) _ 3 rfl (N := 68) rfl 43 _ _ rfl 16 rfl rfl Try.underlying43 (.int .i64 0) 8 info3 rfl (by decide) (by omega) 0 (ok := fun _ => True) (okp := fun _ => True) rfl (fun _ hk => hk) trivial (by omega) (by omega) (Below.refl _ _) (Nat.le_refl _) ?_; intro v198 w35 ho36 hb hg_ hnew_; clear hg_ hnew_; (first | rw [← Ny197.out] at ho36 | (simp only [Int.reduceToNat] at ho36; rw [← Ny197.out] at ho36)); have n0_ := Aside0.mk (Kd.R_elder' (by (with_reducible repeat (first | apply Kd.R_alloc | apply Kd.R_drewN | apply Kd.R_drew)); exact HO_7.out) (Kd.R_base ho36) hb); have n1_ := Aside0.mk (Kd.R_elder' (by (with_reducible repeat (first | apply Kd.R_alloc | apply Kd.R_drewN | apply Kd.R_drew)); exact HO_10.out) (Kd.R_base ho36) hb); have n2_ := Aside0.mk (Kd.R_lower (Kd.R_new' (Kd.R_new' ho36 (Kd.R_lt (by (with_reducible repeat (first | apply Kd.R_alloc | apply Kd.R_drewN | apply Kd.R_drew)); exact HO_7.out))) (Kd.R_lt (by (with_reducible repeat (first | apply Kd.R_alloc | apply Kd.R_drewN | apply Kd.R_drew)); exact HO_10.out))) (below_size (by repeat (first | (with_reducible first | exact HB.out | apply below_alloc | apply pw_below_drewN | apply below_drew1) | exact HB.out)))); have n3_ := Aside0.mk (below_step (by repeat (first | (with_reducible first | exact HB.out | apply below_alloc | apply pw_below_drewN | apply below_drew1) | exact HB.out)) hb); clear HO_7; clear HO_10; clear HB; have HO_7 := n0_; have HO_10 := n1_; have HO199 := n2_; have HB := n3_; clear n0_ n1_ n2_ n3_; clear hb ho36))
                            go_loopg [13] k3 (fun kq v13 w' => ∃ (x12_4 : List Int) (x13_4 : Int), v13 = .int .i64 x13_4 ∧ Aside0 (redoubtref08_By.l3 kq l0 l1 x9_2 x10_3 x12_4 x13_4 = some r) ∧ Aside0 (kq ≤ k3) ∧ Aside0 (Kd.R (Kd.int .i64) 3 w' w.heap.size (fun k_ => some k_ ≠ (v198 : Value).ownBlock) v192 x10_3) ∧ Aside0 (Kd.R (Kd.int .i64) 3 w' w.heap.size (fun k_ => some k_ ≠ (v192 : Value).ownBlock) v198 x12_4) ∧ Aside0 (Below w.heap.size w w'))
                            case atStart => exact ⟨(y197), (0), (by first | rfl | (simp; done) | (simp [*]; done)), H', ⟨Nat.le_refl _⟩, ⟨by (with_reducible repeat (first | apply Kd.R_alloc | apply Kd.R_drewN | apply Kd.R_drew)); exact Kd.R_mono HO_10.out (fun _ hk => hk.2)⟩, ⟨by (with_reducible repeat (first | apply Kd.R_alloc | apply Kd.R_drewN | apply Kd.R_drew)); exact Kd.R_mono HO199.out (fun _ hk => hk.2)⟩, ⟨by repeat (first | (with_reducible first | exact HB.out | apply below_alloc | apply pw_below_drewN | apply below_drew1) | exact HB.out)⟩⟩
                            case round =>
                              clear H'
                              try clear c1
                              try clear p1
                              try clear q1
                              try clear hx1
                              try clear c2
                              try clear p2
                              try clear q2
                              try clear hx2
                              try clear c3
                              try clear c4
                              try clear c4b0
                              try clear c4b1
                              try clear p6
                              try clear c7
                              try clear c7b0
                              try clear c8
                              try clear c8b0
                              try clear c9
                              try clear c9b0
                              try clear c10
                              try clear c10b0
                              try clear p11
                              try clear q11
                              try clear hx11
                              try clear hf11
                              try clear c17
                              try clear c17b0
                              try clear c18
                              try clear c18b0
                              try clear c18b1
                              try clear p18
                              try clear q18
                              try clear hx18
                              try clear p19
                              try clear q19
                              try clear hx19
                              try clear c21
                              try clear c21b0
                              try clear c23
                              try clear c23b0
                              try clear c24
                              try clear c24b0
                              try clear c25
                              try clear c25b0
                              try clear c26
                              try clear c26b0
                              try clear c27
                              try clear c27b0
                              try clear c28
                              try clear c28b0
                              try clear p29
                              try clear q29
                              try clear hx29
                              try clear hf29
                              try clear c33
                              try clear c33b0
                              try clear c34
                              try clear c34b0
                              try clear c34b1
                              try clear hx11_0
                              try clear hx186_0
                              try clear hx194_0
                              try clear hx195_0
                              try clear hx29_0
                              try clear p1
                              try clear p11
                              try clear p18
                              try clear p186
                              try clear p194
                              try clear p195
                              try clear p2
                              try clear p29
                              try clear p6
                              try clear q1
                              try clear q11
                              try clear q18
                              try clear q186
                              try clear q194
                              try clear q195
                              try clear q29
                              obtain ⟨x12_4, x13_4, rfl, HA, HK4, HO_10, HO_12, HB⟩ := hrel
                              cases gk with
                              | zero => exact absurd HA.out (by simp [redoubtref08_By.l3])
                              | succ k4 =>
                                have H := HA.out
                                clear HA
                                simp only [redoubtref08_By.l3] at H
                                by_cases c37 : x13_4 < 16
                                · rw [if_pos c37] at H
                                  have c37b0 : decide (x13_4 < 16) = true := decide_eq_true c37
                                  clear c37
                                  by_cases c38 : 0 ≤ x13_4
                                  · rw [if_pos c38] at H
                                    have c38b0 : decide (0 ≤ x13_4) = true := decide_eq_true c38
                                    clear c38
                                    by_cases c39 : x13_4 < (x10_3.length : Int)
                                    · rw [if_pos c39] at H
                                      have c39b0 : decide (x13_4 < (x10_3.length : Int)) = true := decide_eq_true c39
                                      clear c39
                                      replace H := Option.bind_eq_some_iff.mp H
                                      obtain ⟨t201, A400, H⟩ := H
                                      replace H : (if 0 ≤ (wrap64 ((wrap64 ((wrap64 (Int.tdiv x13_4 4)) * 4)) + (Int.tmod (wrap64 (x13_4 + 1)) 4))) then (if (wrap64 ((wrap64 ((wrap64 (Int.tdiv x13_4 4)) * 4)) + (Int.tmod (wrap64 (x13_4 + 1)) 4))) < (x10_3.length : Int) then ((redoubtref08_Times.f k4 (rd x10_3 (wrap64 ((wrap64 ((wrap64 (Int.tdiv x13_4 4)) * 4)) + (Int.tmod (wrap64 (x13_4 + 1)) 4)))) 3).bind fun t203 => (if 0 ≤ (wrap64 ((wrap64 ((wrap64 (Int.tdiv x13_4 4)) * 4)) + (Int.tmod (wrap64 (x13_4 + 2)) 4))) then (if (wrap64 ((wrap64 ((wrap64 (Int.tdiv x13_4 4)) * 4)) + (Int.tmod (wrap64 (x13_4 + 2)) 4))) < (x10_3.length : Int) then (if 0 ≤ (wrap64 ((wrap64 ((wrap64 (Int.tdiv x13_4 4)) * 4)) + (Int.tmod (wrap64 (x13_4 + 3)) 4))) then (if (wrap64 ((wrap64 ((wrap64 (Int.tdiv x13_4 4)) * 4)) + (Int.tmod (wrap64 (x13_4 + 3)) 4))) < (x10_3.length : Int) then (if x13_4 < (x12_4.length : Int) then (redoubtref08_By.l3 k4 l0 l1 x9_2 x10_3 (x12_4.set (x13_4 : Int).toNat (Go.bits .xor .i64 (Go.bits .xor .i64 (Go.bits .xor .i64 t201 t203) (rd x10_3 (wrap64 ((wrap64 ((wrap64 (Int.tdiv x13_4 4)) * 4)) + (Int.tmod (wrap64 (x13_4 + 2)) 4))))) (rd x10_3 (wrap64 ((wrap64 ((wrap64 (Int.tdiv x13_4 4)) * 4)) + (Int.tmod (wrap64 (x13_4 + 3)) 4)))))) (wrap64 (x13_4 + 1))) else (none)) else (none)) else (none)) else (none)) else (none))) else (none)) else (none)) = some r := H
                                      have A40 := Aside0.mk A400
                                      clear A400
                                      obtain ⟨ji41, hji41⟩ : ∃ j_ : Int, (wrap64 ((wrap64 ((wrap64 (Int.tdiv x13_4 4)) * 4)) + (Int.tmod (wrap64 (x13_4 + 1)) 4))) = j_ := ⟨_, rfl⟩
                                      replace H : (if 0 ≤ (ji41) then (if (ji41) < (x10_3.length : Int) then ((redoubtref08_Times.f k4 (rd x10_3 (ji41)) 3).bind fun t203 => (if 0 ≤ (wrap64 ((wrap64 ((wrap64 (Int.tdiv x13_4 4)) * 4)) + (Int.tmod (wrap64 (x13_4 + 2)) 4))) then (if (wrap64 ((wrap64 ((wrap64 (Int.tdiv x13_4 4)) * 4)) + (Int.tmod (wrap64 (x13_4 + 2)) 4))) < (x10_3.length : Int) then (if 0 ≤ (wrap64 ((wrap64 ((wrap64 (Int.tdiv x13_4 4)) * 4)) + (Int.tmod (wrap64 (x13_4 + 3)) 4))) then (if (wrap64 ((wrap64 ((wrap64 (Int.tdiv x13_4 4)) * 4)) + (Int.tmod (wrap64 (x13_4 + 3)) 4))) < (x10_3.length : Int) then (if x13_4 < (x12_4.length : Int) then (redoubtref08_By.l3 k4 l0 l1 x9_2 x10_3 (x12_4.set (x13_4 : Int).toNat (Go.bits .xor .i64 (Go.bits .xor .i64 (Go.bits .xor .i64 t201 t203) (rd x10_3 (wrap64 ((wrap64 ((wrap64 (Int.tdiv x13_4 4)) * 4)) + (Int.tmod (wrap64 (x13_4 + 2)) 4))))) (rd x10_3 (wrap64 ((wrap64 ((wrap64 (Int.tdiv x13_4 4)) * 4)) + (Int.tmod (wrap64 (x13_4 + 3)) 4)))))) (wrap64 (x13_4 + 1))) else (none)) else (none)) else (none)) else (none)) else (none))) else (none)) else (none)) = some r := by first | (rw [hji41] at H; exact H) | (simp only [hji41] at H ⊢; exact H)
                                      (try rw [hji41] at A40)
                                      have hji41w : (IntKind.i64.wrap ((wrap64 ((wrap64 (Int.tdiv x13_4 4)) * 4)) + (Int.tmod (wrap64 (x13_4 + 1)) 4))) = ji41 := (i64_w _).trans hji41
                                      by_cases c42 : 0 ≤ (ji41)
                                      · rw [if_pos c42] at H
                                        have c42b0 : decide (0 ≤ (ji41)) = true := decide_eq_true c42
                                        clear c42
                                        by_cases c43 : (ji41) < (x10_3.length : Int)
                                        · rw [if_pos c43] at H
                                          have c43b0 : decide ((ji41) < (x10_3.length : Int)) = true := decide_eq_true c43
                                          clear c43
                                          replace H := Option.bind_eq_some_iff.mp H
                                          obtain ⟨t203, A440, H⟩ := H
                                          replace H : (if 0 ≤ (wrap64 ((wrap64 ((wrap64 (Int.tdiv x13_4 4)) * 4)) + (Int.tmod (wrap64 (x13_4 + 2)) 4))) then (if (wrap64 ((wrap64 ((wrap64 (Int.tdiv x13_4 4)) * 4)) + (Int.tmod (wrap64 (x13_4 + 2)) 4))) < (x10_3.length : Int) then (if 0 ≤ (wrap64 ((wrap64 ((wrap64 (Int.tdiv x13_4 4)) * 4)) + (Int.tmod (wrap64 (x13_4 + 3)) 4))) then (if (wrap64 ((wrap64 ((wrap64 (Int.tdiv x13_4 4)) * 4)) + (Int.tmod (wrap64 (x13_4 + 3)) 4))) < (x10_3.length : Int) then (if x13_4 < (x12_4.length : Int) then (redoubtref08_By.l3 k4 l0 l1 x9_2 x10_3 (x12_4.set (x13_4 : Int).toNat (Go.bits .xor .i64 (Go.bits .xor .i64 (Go.bits .xor .i64 t201 t203) (rd x10_3 (wrap64 ((wrap64 ((wrap64 (Int.tdiv x13_4 4)) * 4)) + (Int.tmod (wrap64 (x13_4 + 2)) 4))))) (rd x10_3 (wrap64 ((wrap64 ((wrap64 (Int.tdiv x13_4 4)) * 4)) + (Int.tmod (wrap64 (x13_4 + 3)) 4)))))) (wrap64 (x13_4 + 1))) else (none)) else (none)) else (none)) else (none)) else (none)) = some r := H
                                          have A44 := Aside0.mk A440
                                          clear A440
                                          obtain ⟨ji45, hji45⟩ : ∃ j_ : Int, (wrap64 ((wrap64 ((wrap64 (Int.tdiv x13_4 4)) * 4)) + (Int.tmod (wrap64 (x13_4 + 2)) 4))) = j_ := ⟨_, rfl⟩
                                          replace H : (if 0 ≤ (ji45) then (if (ji45) < (x10_3.length : Int) then (if 0 ≤ (wrap64 ((wrap64 ((wrap64 (Int.tdiv x13_4 4)) * 4)) + (Int.tmod (wrap64 (x13_4 + 3)) 4))) then (if (wrap64 ((wrap64 ((wrap64 (Int.tdiv x13_4 4)) * 4)) + (Int.tmod (wrap64 (x13_4 + 3)) 4))) < (x10_3.length : Int) then (if x13_4 < (x12_4.length : Int) then (redoubtref08_By.l3 k4 l0 l1 x9_2 x10_3 (x12_4.set (x13_4 : Int).toNat (Go.bits .xor .i64 (Go.bits .xor .i64 (Go.bits .xor .i64 t201 t203) (rd x10_3 (ji45))) (rd x10_3 (wrap64 ((wrap64 ((wrap64 (Int.tdiv x13_4 4)) * 4)) + (Int.tmod (wrap64 (x13_4 + 3)) 4)))))) (wrap64 (x13_4 + 1))) else (none)) else (none)) else (none)) else (none)) else (none)) = some r := by first | (rw [hji45] at H; exact H) | (simp only [hji45] at H ⊢; exact H)
                                          (try rw [hji45] at A40)
                                          (try rw [hji45] at A44)
                                          have hji45w : (IntKind.i64.wrap ((wrap64 ((wrap64 (Int.tdiv x13_4 4)) * 4)) + (Int.tmod (wrap64 (x13_4 + 2)) 4))) = ji45 := (i64_w _).trans hji45
                                          by_cases c46 : 0 ≤ (ji45)
                                          · rw [if_pos c46] at H
                                            have c46b0 : decide (0 ≤ (ji45)) = true := decide_eq_true c46
                                            clear c46
                                            by_cases c47 : (ji45) < (x10_3.length : Int)
                                            · rw [if_pos c47] at H
                                              have c47b0 : decide ((ji45) < (x10_3.length : Int)) = true := decide_eq_true c47
                                              clear c47
                                              obtain ⟨ji48, hji48⟩ : ∃ j_ : Int, (wrap64 ((wrap64 ((wrap64 (Int.tdiv x13_4 4)) * 4)) + (Int.tmod (wrap64 (x13_4 + 3)) 4))) = j_ := ⟨_, rfl⟩
                                              replace H : (if 0 ≤ (ji48) then (if (ji48) < (x10_3.length : Int) then (if x13_4 < (x12_4.length : Int) then (redoubtref08_By.l3 k4 l0 l1 x9_2 x10_3 (x12_4.set (x13_4 : Int).toNat (Go.bits .xor .i64 (Go.bits .xor .i64 (Go.bits .xor .i64 t201 t203) (rd x10_3 (ji45))) (rd x10_3 (ji48)))) (wrap64 (x13_4 + 1))) else (none)) else (none)) else (none)) = some r := by first | (rw [hji48] at H; exact H) | (simp only [hji48] at H ⊢; exact H)
                                              (try rw [hji48] at A40)
                                              (try rw [hji48] at A44)
                                              have hji48w : (IntKind.i64.wrap ((wrap64 ((wrap64 (Int.tdiv x13_4 4)) * 4)) + (Int.tmod (wrap64 (x13_4 + 3)) 4))) = ji48 := (i64_w _).trans hji48
                                              by_cases c49 : 0 ≤ (ji48)
                                              · rw [if_pos c49] at H
                                                have c49b0 : decide (0 ≤ (ji48)) = true := decide_eq_true c49
                                                clear c49
                                                by_cases c50 : (ji48) < (x10_3.length : Int)
                                                · rw [if_pos c50] at H
                                                  have c50b0 : decide ((ji48) < (x10_3.length : Int)) = true := decide_eq_true c50
                                                  clear c50
                                                  by_cases c51 : x13_4 < (x12_4.length : Int)
                                                  · rw [if_pos c51] at H
                                                    have c51b0 : decide (x13_4 < (x12_4.length : Int)) = true := decide_eq_true c51
                                                    clear c51
                                                    obtain ⟨y206, hy206⟩ : ∃ y_ : List Int, y_ = (x12_4.set (x13_4 : Int).toNat (Go.bits .xor .i64 (Go.bits .xor .i64 (Go.bits .xor .i64 t201 t203) (rd x10_3 (ji45))) (rd x10_3 (ji48)))) := ⟨_, rfl⟩
                                                    replace H : (redoubtref08_By.l3 k4 l0 l1 x9_2 x10_3 y206 (wrap64 (x13_4 + 1))) = some r := by first | (rw [hy206]; with_reducible exact H) | (have H2_ := (Option.bind_some _ _).symm.trans H; rw [hy206]; with_reducible exact H2_) | (have H2_ := (Option.bind_some _ _).symm.trans H; with_reducible exact H2_) | with_reducible exact H | (rw [hy206]; exact H) | exact H
                                                    have Ny206 := Aside0.mk hy206
                                                    clear hy206
                                                    have H' := Aside0.mk H
                                                    clear H
                                                    try go_wp2
                                                    have n0_ := Aside0.mk (Kd.R_drew HO_10.out)
                                                    have n1_ := Aside0.mk (Kd.R_drew HO_12.out)
                                                    have n2_ := Aside0.mk (below_drew1 HB.out)
                                                    clear HO_10
                                                    clear HO_12
                                                    clear HB
                                                    have HO_10 := n0_
                                                    have HO_12 := n1_
                                                    have HB := n2_
                                                    clear n0_ n1_ n2_
                                                    obtain ⟨Ao54, co54, eo54⟩ := Kd.R_slice HO_10.out
                                                    (first | subst eo54 | (injection eo54 with f1_ f2_ f3_; have f4_ := f1_.symm; have f5_ := f3_.symm; clear f1_ f2_ f3_; subst f4_; subst f5_))
                                                    have p200 : 0 ≤ (x13_4 : Int) := of_decide_eq_true (by first | (with_reducible assumption) | assumption)
                                                    have q200 : x13_4 < (x10_3.length : Int) := of_decide_eq_true (by first | (with_reducible assumption) | assumption)
                                                    obtain ⟨ad200, e200, hx200_0⟩ := Kd.at_int (Kd.R_reads' HO_10.out).2.2 x13_4 p200 q200
                                                    cases e200
                                                    replace p200 := eq_true p200
                                                    replace q200 := eq_true q200
                                                    have p202 : 0 ≤ ((ji41) : Int) := of_decide_eq_true (by first | (with_reducible assumption) | assumption)
                                                    have q202 : (ji41) < (x10_3.length : Int) := of_decide_eq_true (by first | (with_reducible assumption) | assumption)
                                                    obtain ⟨ad202, e202, hx202_0⟩ := Kd.at_int (Kd.R_reads' HO_10.out).2.2 (ji41) p202 q202
                                                    obtain rfl : ad200 = ad202 := (by injection e202)
                                                    replace p202 := eq_true p202
                                                    replace q202 := eq_true q202
                                                    have p204 : 0 ≤ ((ji45) : Int) := of_decide_eq_true (by first | (with_reducible assumption) | assumption)
                                                    have q204 : (ji45) < (x10_3.length : Int) := of_decide_eq_true (by first | (with_reducible assumption) | assumption)
                                                    obtain ⟨ad204, e204, hx204_0⟩ := Kd.at_int (Kd.R_reads' HO_10.out).2.2 (ji45) p204 q204
                                                    obtain rfl : ad200 = ad204 := (by injection e204)
                                                    replace p204 := eq_true p204
                                                    replace q204 := eq_true q204
                                                    have p205 : 0 ≤ ((ji48) : Int) := of_decide_eq_true (by first | (with_reducible assumption) | assumption)
                                                    have q205 : (ji48) < (x10_3.length : Int) := of_decide_eq_true (by first | (with_reducible assumption) | assumption)
                                                    obtain ⟨ad205, e205, hx205_0⟩ := Kd.at_int (Kd.R_reads' HO_10.out).2.2 (ji48) p205 q205
                                                    obtain rfl : ad200 = ad205 := (by injection e205)
                                                    replace p205 := eq_true p205
                                                    replace q205 := eq_true q205
                                                    refine start_ (n := 37) (S := fun w' => w'.cell? (ad200.add (x13_4).toNat) = some (.int .i64 (rd x10_3 x13_4)) ∧ w'.cell? (ad200.add ((ji41)).toNat) = some (.int .i64 (rd x10_3 (ji41))) ∧ w'.cell? (ad200.add ((ji45)).toNat) = some (.int .i64 (rd x10_3 (ji45))) ∧ w'.cell? (ad200.add ((ji48)).toNat) = some (.int .i64 (rd x10_3 (ji48)))) (ds := [36]) #[false, false, false, false, false, false, false, false, false, false, false, false, false, false, false, false, false, false, false, false, false, false, false, false, false, false, false, false, false, false, false, false, false, false, false, false, false] (by kernel_rfl) rfl rfl ⟨hx200_0, hx202_0, hx204_0, hx205_0⟩ (fun hHeld => ?_); refine with_tabW redoubtref08_By.tab21 redoubtref08_By.bits21 (fun HT_ HW_ => ?_)
                                                    generalize wr.drew = w53 at HO_10 HO_12 HB hx200_0 hx202_0 hx204_0 hx205_0 hHeld ⊢
                                                    refine pure_ (i := 0) (N := some 76) (v := ?_) (a' := ?_) #[true, false, false, false, false, false, false, false, false, false, false, false, false, false, false, false, false, false, false, false, false, false, false, false, false, false, false, false, false, false, false, false, false, false, false, false, false] rfl rfl (any_of HT_.out (by kernel_rfl)) (fun _ _ _ h => h) (Or.inl ⟨by rfl, ?_⟩) ?_ ?_
                                                    rotate_left
                                                    · intro w'
                                                      go_simp
                                                      with_reducible rfl
                                                    rotate_left
                                                    · simp only [Act.put, List.setIfInBounds_toArray, List.set_cons_zero, List.set_cons_succ, i64_w, i32_w]
                                                      rfl
                                                    refine pure_ (i := 1) (N := some 77) (v := ?_) (a' := ?_) #[true, true, false, false, false, false, false, false, false, false, false, false, false, false, false, false, false, false, false, false, false, false, false, false, false, false, false, false, false, false, false, false, false, false, false, false, false] rfl rfl (any_of HT_.out (by kernel_rfl)) (fun _ _ _ h => h) (Or.inl ⟨by rfl, ?_⟩) ?_ ?_
                                                    rotate_left
                                                    · intro w'
                                                      go_simp
                                                      with_reducible rfl
                                                    rotate_left
                                                    · simp only [Act.put, List.setIfInBounds_toArray, List.set_cons_zero, List.set_cons_succ, i64_w, i32_w]
                                                      rfl
                                                    refine pure_ (i := 2) (N := some 78) (v := ?_) (a' := ?_) #[true, true, true, false, false, false, false, false, false, false, false, false, false, false, false, false, false, false, false, false, false, false, false, false, false, false, false, false, false, false, false, false, false, false, false, false, false] rfl rfl (any_of HT_.out (by kernel_rfl)) (fun _ _ _ h => h) (Or.inl ⟨by rfl, ?_⟩) ?_ ?_
                                                    rotate_left
                                                    · intro w'
                                                      go_simp
                                                      with_reducible rfl
                                                    rotate_left
                                                    · simp only [Act.put, List.setIfInBounds_toArray, List.set_cons_zero, List.set_cons_succ, i64_w, i32_w]
                                                      rfl
                                                    refine pure_ (i := 3) (N := some 79) (v := ?_) (a' := ?_) #[true, true, true, true, false, false, false, false, false, false, false, false, false, false, false, false, false, false, false, false, false, false, false, false, false, false, false, false, false, false, false, false, false, false, false, false, false] rfl rfl (any_of HT_.out (by kernel_rfl)) (fun _ _ _ h => h) (Or.inl ⟨by rfl, ?_⟩) ?_ ?_
                                                    rotate_left
                                                    · intro w'
                                                      go_simp
                                                      with_reducible rfl
                                                    rotate_left
                                                    · simp only [Act.put, List.setIfInBounds_toArray, List.set_cons_zero, List.set_cons_succ, i64_w, i32_w]
                                                      rfl
                                                    refine pure_ (i := 4) (N := some 80) (v := ?_) (a' := ?_) #[true, true, true, true, true, false, false, false, false, false, false, false, false, false, false, false, false, false, false, false, false, false, false, false, false, false, false, false, false, false, false, false, false, false, false, false, false] rfl rfl (any_of HT_.out (by kernel_rfl)) (fun _ _ _ h => h) (Or.inl ⟨by rfl, ?_⟩) ?_ ?_
                                                    rotate_left
                                                    · intro w'
                                                      go_simp
                                                      with_reducible rfl
                                                    rotate_left
                                                    · simp only [Act.put, List.setIfInBounds_toArray, List.set_cons_zero, List.set_cons_succ, i64_w, i32_w]
                                                      rfl
                                                    refine pure_ (i := 7) (N := some 83) (v := ?_) (a' := ?_) #[true, true, true, true, true, false, false, true, false, false, false, false, false, false, false, false, false, false, false, false, false, false, false, false, false, false, false, false, false, false, false, false, false, false, false, false, false] rfl rfl (any_of HT_.out (by kernel_rfl)) (fun _ _ _ h => h) (Or.inl ⟨by rfl, ?_⟩) ?_ ?_
                                                    rotate_left
                                                    · intro w'
                                                      go_simp
                                                      with_reducible rfl
                                                    rotate_left
                                                    · simp only [Act.put, List.setIfInBounds_toArray, List.set_cons_zero, List.set_cons_succ, i64_w, i32_w]
                                                      rfl
                                                    refine pure_ (i := 8) (N := some 84) (v := ?_) (a' := ?_) #[true, true, true, true, true, false, false, true, true, false, false, false, false, false, false, false, false, false, false, false, false, false, false, false, false, false, false, false, false, false, false, false, false, false, false, false, false] rfl rfl (any_of HT_.out (by kernel_rfl)) (fun _ _ _ h => h) (Or.inl ⟨by rfl, ?_⟩) ?_ ?_
                                                    rotate_left
                                                    · intro w'
                                                      go_simp
                                                      with_reducible rfl
                                                    rotate_left
                                                    · simp only [Act.put, List.setIfInBounds_toArray, List.set_cons_zero, List.set_cons_succ, i64_w, i32_w]
                                                      rfl
                                                    refine pure_ (i := 9) (N := some 85) (v := ?_) (a' := ?_) #[true, true, true, true, true, false, false, true, true, true, false, false, false, false, false, false, false, false, false, false, false, false, false, false, false, false, false, false, false, false, false, false, false, false, false, false, false] rfl rfl (any_of HT_.out (by kernel_rfl)) (fun _ _ _ h => h) (Or.inl ⟨by rfl, ?_⟩) ?_ ?_
                                                    rotate_left
                                                    · intro w'
                                                      go_simp
                                                      with_reducible rfl
                                                    rotate_left
                                                    · simp only [Act.put, List.setIfInBounds_toArray, List.set_cons_zero, List.set_cons_succ, i64_w, i32_w]
                                                      rfl
                                                    refine pure_ (i := 10) (N := some 86) (v := ?_) (a' := ?_) #[true, true, true, true, true, false, false, true, true, true, true, false, false, false, false, false, false, false, false, false, false, false, false, false, false, false, false, false, false, false, false, false, false, false, false, false, false] rfl rfl (any_of HT_.out (by kernel_rfl)) (fun _ _ _ h => h) (Or.inl ⟨by rfl, ?_⟩) ?_ ?_
                                                    rotate_left
                                                    · intro w'
                                                      go_simp
                                                      with_reducible rfl
                                                    rotate_left
                                                    · simp only [Act.put, List.setIfInBounds_toArray, List.set_cons_zero, List.set_cons_succ, i64_w, i32_w]
                                                      rfl
                                                    refine pure_ (i := 11) (N := some 87) (v := ?_) (a' := ?_) #[true, true, true, true, true, false, false, true, true, true, true, true, false, false, false, false, false, false, false, false, false, false, false, false, false, false, false, false, false, false, false, false, false, false, false, false, false] rfl rfl (any_of HT_.out (by kernel_rfl)) (fun _ _ _ h => h) (Or.inl ⟨by rfl, ?_⟩) ?_ ?_
                                                    rotate_left
                                                    · intro w'
                                                      go_simp
                                                      with_reducible rfl
                                                    rotate_left
                                                    · simp only [Act.put, List.setIfInBounds_toArray, List.set_cons_zero, List.set_cons_succ, i64_w, i32_w]
                                                      rfl
                                                    refine pure_ (i := 12) (N := some 88) (v := ?_) (a' := ?_) #[true, true, true, true, true, false, false, true, true, true, true, true, true, false, false, false, false, false, false, false, false, false, false, false, false, false, false, false, false, false, false, false, false, false, false, false, false] rfl rfl (any_of HT_.out (by kernel_rfl)) (fun _ _ _ h => h) (Or.inl ⟨by rfl, ?_⟩) ?_ ?_
                                                    rotate_left
                                                    · intro w'
                                                      go_simp
                                                      with_reducible rfl
                                                    rotate_left
                                                    · simp only [Act.put, List.setIfInBounds_toArray, List.set_cons_zero, List.set_cons_succ, i64_w, i32_w]
                                                      rfl
                                                    refine pure_ (i := 13) (N := some 89) (v := ?_) (a' := ?_) #[true, true, true, true, true, false, false, true, true, true, true, true, true, true, false, false, false, false, false, false, false, false, false, false, false, false, false, false, false, false, false, false, false, false, false, false, false] rfl rfl (any_of HT_.out (by kernel_rfl)) (fun _ _ _ h => h) (Or.inl ⟨by rfl, ?_⟩) ?_ ?_
                                                    rotate_left
                                                    · intro w'
                                                      go_simp
                                                      with_reducible rfl
                                                    rotate_left
                                                    · simp only [Act.put, List.setIfInBounds_toArray, List.set_cons_zero, List.set_cons_succ, i64_w, i32_w]
                                                      rfl
                                                    refine pure_ (i := 17) (N := some 93) (v := ?_) (a' := ?_) #[true, true, true, true, true, false, false, true, true, true, true, true, true, true, false, false, false, true, false, false, false, false, false, false, false, false, false, false, false, false, false, false, false, false, false, false, false] rfl rfl (any_of HT_.out (by kernel_rfl)) (fun _ _ _ h => h) (Or.inl ⟨by rfl, ?_⟩) ?_ ?_
                                                    rotate_left
                                                    · intro w'
                                                      go_simp
                                                      with_reducible rfl
                                                    rotate_left
                                                    · simp only [Act.put, List.setIfInBounds_toArray, List.set_cons_zero, List.set_cons_succ, i64_w, i32_w]
                                                      rfl
                                                    refine pure_ (i := 18) (N := some 94) (v := ?_) (a' := ?_) #[true, true, true, true, true, false, false, true, true, true, true, true, true, true, false, false, false, true, true, false, false, false, false, false, false, false, false, false, false, false, false, false, false, false, false, false, false] rfl rfl (any_of HT_.out (by kernel_rfl)) (fun _ _ _ h => h) (Or.inl ⟨by rfl, ?_⟩) ?_ ?_
                                                    rotate_left
                                                    · intro w'
                                                      go_simp
                                                      with_reducible rfl
                                                    rotate_left
                                                    · simp only [Act.put, List.setIfInBounds_toArray, List.set_cons_zero, List.set_cons_succ, i64_w, i32_w]
                                                      rfl
                                                    refine pure_ (i := 19) (N := some 95) (v := ?_) (a' := ?_) #[true, true, true, true, true, false, false, true, true, true, true, true, true, true, false, false, false, true, true, true, false, false, false, false, false, false, false, false, false, false, false, false, false, false, false, false, false] rfl rfl (any_of HT_.out (by kernel_rfl)) (fun _ _ _ h => h) (Or.inl ⟨by rfl, ?_⟩) ?_ ?_
                                                    rotate_left
                                                    · intro w'
                                                      go_simp
                                                      with_reducible rfl
                                                    rotate_left
                                                    · simp only [Act.put, List.setIfInBounds_toArray, List.set_cons_zero, List.set_cons_succ, i64_w, i32_w]
                                                      rfl
                                                    refine pure_ (i := 20) (N := some 96) (v := ?_) (a' := ?_) #[true, true, true, true, true, false, false, true, true, true, true, true, true, true, false, false, false, true, true, true, true, false, false, false, false, false, false, false, false, false, false, false, false, false, false, false, false] rfl rfl (any_of HT_.out (by kernel_rfl)) (fun _ _ _ h => h) (Or.inl ⟨by rfl, ?_⟩) ?_ ?_
                                                    rotate_left
                                                    · intro w'
                                                      go_simp
                                                      with_reducible rfl
                                                    rotate_left
                                                    · simp only [Act.put, List.setIfInBounds_toArray, List.set_cons_zero, List.set_cons_succ, i64_w, i32_w]
                                                      rfl
                                                    refine pure_ (i := 21) (N := some 97) (v := ?_) (a' := ?_) #[true, true, true, true, true, false, false, true, true, true, true, true, true, true, false, false, false, true, true, true, true, true, false, false, false, false, false, false, false, false, false, false, false, false, false, false, false] rfl rfl (any_of HT_.out (by kernel_rfl)) (fun _ _ _ h => h) (Or.inl ⟨by rfl, ?_⟩) ?_ ?_
                                                    rotate_left
                                                    · intro w'
                                                      go_simp
                                                      with_reducible rfl
                                                    rotate_left
                                                    · simp only [Act.put, List.setIfInBounds_toArray, List.set_cons_zero, List.set_cons_succ, i64_w, i32_w]
                                                      rfl
                                                    refine pure_ (i := 22) (N := some 98) (v := ?_) (a' := ?_) #[true, true, true, true, true, false, false, true, true, true, true, true, true, true, false, false, false, true, true, true, true, true, true, false, false, false, false, false, false, false, false, false, false, false, false, false, false] rfl rfl (any_of HT_.out (by kernel_rfl)) (fun _ _ _ h => h) (Or.inl ⟨by rfl, ?_⟩) ?_ ?_
                                                    rotate_left
                                                    · intro w'
                                                      go_simp
                                                      with_reducible rfl
                                                    rotate_left
                                                    · simp only [Act.put, List.setIfInBounds_toArray, List.set_cons_zero, List.set_cons_succ, i64_w, i32_w]
                                                      rfl
                                                    refine pure_ (i := 23) (N := some 99) (v := ?_) (a' := ?_) #[true, true, true, true, true, false, false, true, true, true, true, true, true, true, false, false, false, true, true, true, true, true, true, true, false, false, false, false, false, false, false, false, false, false, false, false, false] rfl rfl (any_of HT_.out (by kernel_rfl)) (fun _ _ _ h => h) (Or.inl ⟨by rfl, ?_⟩) ?_ ?_
                                                    rotate_left
                                                    · intro w'
                                                      go_simp
                                                      with_reducible rfl
                                                    rotate_left
                                                    · simp only [Act.put, List.setIfInBounds_toArray, List.set_cons_zero, List.set_cons_succ, i64_w, i32_w]
                                                      rfl
                                                    refine pure_ (i := 26) (N := some 102) (v := ?_) (a' := ?_) #[true, true, true, true, true, false, false, true, true, true, true, true, true, true, false, false, false, true, true, true, true, true, true, true, false, false, true, false, false, false, false, false, false, false, false, false, false] rfl rfl (any_of HT_.out (by kernel_rfl)) (fun _ _ _ h => h) (Or.inl ⟨by rfl, ?_⟩) ?_ ?_
                                                    rotate_left
                                                    · intro w'
                                                      go_simp
                                                      with_reducible rfl
                                                    rotate_left
                                                    · simp only [Act.put, List.setIfInBounds_toArray, List.set_cons_zero, List.set_cons_succ, i64_w, i32_w]
                                                      rfl
                                                    refine pure_ (i := 27) (N := some 103) (v := ?_) (a' := ?_) #[true, true, true, true, true, false, false, true, true, true, true, true, true, true, false, false, false, true, true, true, true, true, true, true, false, false, true, true, false, false, false, false, false, false, false, false, false] rfl rfl (any_of HT_.out (by kernel_rfl)) (fun _ _ _ h => h) (Or.inl ⟨by rfl, ?_⟩) ?_ ?_
                                                    rotate_left
                                                    · intro w'
                                                      go_simp
                                                      with_reducible rfl
                                                    rotate_left
                                                    · simp only [Act.put, List.setIfInBounds_toArray, List.set_cons_zero, List.set_cons_succ, i64_w, i32_w]
                                                      rfl
                                                    refine pure_ (i := 28) (N := some 104) (v := ?_) (a' := ?_) #[true, true, true, true, true, false, false, true, true, true, true, true, true, true, false, false, false, true, true, true, true, true, true, true, false, false, true, true, true, false, false, false, false, false, false, false, false] rfl rfl (any_of HT_.out (by kernel_rfl)) (fun _ _ _ h => h) (Or.inl ⟨by rfl, ?_⟩) ?_ ?_
                                                    rotate_left
                                                    · intro w'
                                                      go_simp
                                                      with_reducible rfl
                                                    rotate_left
                                                    · simp only [Act.put, List.setIfInBounds_toArray, List.set_cons_zero, List.set_cons_succ, i64_w, i32_w]
                                                      rfl
                                                    refine pure_ (i := 29) (N := some 105) (v := ?_) (a' := ?_) #[true, true, true, true, true, false, false, true, true, true, true, true, true, true, false, false, false, true, true, true, true, true, true, true, false, false, true, true, true, true, false, false, false, false, false, false, false] rfl rfl (any_of HT_.out (by kernel_rfl)) (fun _ _ _ h => h) (Or.inl ⟨by rfl, ?_⟩) ?_ ?_
                                                    rotate_left
                                                    · intro w'
                                                      go_simp
                                                      with_reducible rfl
                                                    rotate_left
                                                    · simp only [Act.put, List.setIfInBounds_toArray, List.set_cons_zero, List.set_cons_succ, i64_w, i32_w]
                                                      rfl
                                                    refine pure_ (i := 30) (N := some 106) (v := ?_) (a' := ?_) #[true, true, true, true, true, false, false, true, true, true, true, true, true, true, false, false, false, true, true, true, true, true, true, true, false, false, true, true, true, true, true, false, false, false, false, false, false] rfl rfl (any_of HT_.out (by kernel_rfl)) (fun _ _ _ h => h) (Or.inl ⟨by rfl, ?_⟩) ?_ ?_
                                                    rotate_left
                                                    · intro w'
                                                      go_simp
                                                      with_reducible rfl
                                                    rotate_left
                                                    · simp only [Act.put, List.setIfInBounds_toArray, List.set_cons_zero, List.set_cons_succ, i64_w, i32_w]
                                                      rfl
                                                    refine pure_ (i := 31) (N := some 107) (v := ?_) (a' := ?_) #[true, true, true, true, true, false, false, true, true, true, true, true, true, true, false, false, false, true, true, true, true, true, true, true, false, false, true, true, true, true, true, true, false, false, false, false, false] rfl rfl (any_of HT_.out (by kernel_rfl)) (fun _ _ _ h => h) (Or.inl ⟨by rfl, ?_⟩) ?_ ?_
                                                    rotate_left
                                                    · intro w'
                                                      go_simp
                                                      with_reducible rfl
                                                    rotate_left
                                                    · simp only [Act.put, List.setIfInBounds_toArray, List.set_cons_zero, List.set_cons_succ, i64_w, i32_w]
                                                      rfl
                                                    refine pure_ (i := 32) (N := some 108) (v := ?_) (a' := ?_) #[true, true, true, true, true, false, false, true, true, true, true, true, true, true, false, false, false, true, true, true, true, true, true, true, false, false, true, true, true, true, true, true, true, false, false, false, false] rfl rfl (any_of HT_.out (by kernel_rfl)) (fun _ _ _ h => h) (Or.inl ⟨by rfl, ?_⟩) ?_ ?_
                                                    rotate_left
                                                    · intro w'
                                                      go_simp
                                                      with_reducible rfl
                                                    rotate_left
                                                    · simp only [Act.put, List.setIfInBounds_toArray, List.set_cons_zero, List.set_cons_succ, i64_w, i32_w]
                                                      rfl
                                                    refine take_ (i := 5) (N := some 81) (v := ?_) (a' := ?_) #[true, true, true, true, true, true, false, true, true, true, true, true, true, true, false, false, false, true, true, true, true, true, true, true, false, false, true, true, true, true, true, true, true, false, false, false, false] rfl rfl (take_ofW HT_.out HW_.out (by kernel_rfl)) (fun _ _ _ h => h) (Or.inl ⟨by rfl, ?_⟩) hHeld ?_ ?_
                                                    rotate_left
                                                    · rintro w' ⟨s0, s1, s2, s3⟩
                                                      go_simp
                                                      with_reducible rfl
                                                    rotate_left
                                                    · simp only [Act.put, List.setIfInBounds_toArray, List.set_cons_zero, List.set_cons_succ, i64_w, i32_w]
                                                      rfl
                                                    refine take_ (i := 14) (N := some 90) (v := ?_) (a' := ?_) #[true, true, true, true, true, true, false, true, true, true, true, true, true, true, true, false, false, true, true, true, true, true, true, true, false, false, true, true, true, true, true, true, true, false, false, false, false] rfl rfl (take_ofW HT_.out HW_.out (by kernel_rfl)) (fun _ _ _ h => h) (Or.inl ⟨by rfl, ?_⟩) hHeld ?_ ?_
                                                    rotate_left
                                                    · rintro w' ⟨s0, s1, s2, s3⟩
                                                      go_simp
                                                      with_reducible rfl
                                                    rotate_left
                                                    · simp only [Act.put, List.setIfInBounds_toArray, List.set_cons_zero, List.set_cons_succ, i64_w, i32_w]
                                                      rfl
                                                    refine take_ (i := 24) (N := some 100) (v := ?_) (a' := ?_) #[true, true, true, true, true, true, false, true, true, true, true, true, true, true, true, false, false, true, true, true, true, true, true, true, true, false, true, true, true, true, true, true, true, false, false, false, false] rfl rfl (take_ofW HT_.out HW_.out (by kernel_rfl)) (fun _ _ _ h => h) (Or.inl ⟨by rfl, ?_⟩) hHeld ?_ ?_
                                                    rotate_left
                                                    · rintro w' ⟨s0, s1, s2, s3⟩
                                                      go_simp
                                                      with_reducible rfl
                                                    rotate_left
                                                    · simp only [Act.put, List.setIfInBounds_toArray, List.set_cons_zero, List.set_cons_succ, i64_w, i32_w]
                                                      rfl
                                                    refine take_ (i := 33) (N := some 109) (v := ?_) (a' := ?_) #[true, true, true, true, true, true, false, true, true, true, true, true, true, true, true, false, false, true, true, true, true, true, true, true, true, false, true, true, true, true, true, true, true, true, false, false, false] rfl rfl (take_ofW HT_.out HW_.out (by kernel_rfl)) (fun _ _ _ h => h) (Or.inl ⟨by rfl, ?_⟩) hHeld ?_ ?_
                                                    rotate_left
                                                    · rintro w' ⟨s0, s1, s2, s3⟩
                                                      go_simp
                                                      with_reducible rfl
                                                    rotate_left
                                                    · simp only [Act.put, List.setIfInBounds_toArray, List.set_cons_zero, List.set_cons_succ, i64_w, i32_w]
                                                      rfl
                                                    refine one_ (i := 6) (N := some 82) #[true, true, true, true, true, true, true, true, true, true, true, true, true, true, true, false, false, true, true, true, true, true, true, true, true, false, true, true, true, true, true, true, true, true, false, false, false] rfl rfl (one_of HT_.out (by kernel_rfl)) (by decide) (fun K hK => ?_)
                                                    refine goes_ Try.func31 (by kernel_rfl) rfl #[.int .i64 (rd x10_3 x13_4), .int .i64 2] (by rfl) rfl rfl (by (try simp only [List.map_toArray, List.map_cons, List.map_nil]); first | done | rfl | (simp only [List.length_drop, List.length_take]; rfl)) ?_
                                                    with_reducible refine (redoubtref08_Times.calls k4 (rd x10_3 x13_4) 2 t201 _ A40.out).mono ?_
                                                    rintro e w' ⟨rfl, ⟨nd, rfl⟩⟩
                                                    refine ⟨_, rfl, ?_⟩
                                                    refine hK.out _ _ ⟨hHeld.1, hHeld.2.1, hHeld.2.2.1, hHeld.2.2.2⟩ (fun hHeld => ?_)
                                                    clear hK K
                                                    refine norm_ (a' := ?_) ?_ ?_
                                                    rotate_left
                                                    · show Act.put _ (some 82) _ = _
                                                      simp only [Act.put, List.setIfInBounds_toArray, List.set_cons_zero, List.set_cons_succ, i64_w, i32_w]
                                                      rfl
                                                    refine one_ (i := 15) (N := some 91) #[true, true, true, true, true, true, true, true, true, true, true, true, true, true, true, true, false, true, true, true, true, true, true, true, true, false, true, true, true, true, true, true, true, true, false, false, false] rfl rfl (one_of HT_.out (by kernel_rfl)) (by decide) (fun K hK => ?_)
                                                    refine goes_ Try.func31 (by kernel_rfl) rfl #[.int .i64 (rd x10_3 (ji41)), .int .i64 3] (by rfl) rfl rfl (by (try simp only [List.map_toArray, List.map_cons, List.map_nil]); first | done | (simp only [hji41]; rfl) | rfl | (simp only [List.length_drop, List.length_take]; rfl)) ?_
                                                    with_reducible refine (redoubtref08_Times.calls k4 (rd x10_3 (ji41)) 3 t203 _ A44.out).mono ?_
                                                    rintro e w' ⟨rfl, ⟨nd, rfl⟩⟩
                                                    refine ⟨_, rfl, ?_⟩
                                                    have p52 : 0 ≤ (x13_4 : Int) := of_decide_eq_true (by first | (with_reducible assumption) | assumption)
                                                    have q52 : (x13_4 : Int) < ((x12_4.length : Int) : Int) := of_decide_eq_true (by first | (with_reducible assumption) | assumption)
                                                    obtain ⟨go52, co52, eo52, gb52, gl52, cl52, HG52⟩ := Kd.R_form HO_12.out (by omega)
                                                    (first | cases eo52 | (injection eo52 with ea_ en_ ec_; (first | subst ea_ | (injection ea_ with ea_; subst ea_)); subst ec_; clear en_))
                                                    have GB52 := Aside0.mk gb52
                                                    have GG52 := Aside0.mk HG52
                                                    clear gb52 gl52 HG52
                                                    obtain ⟨hx52_0, hf52_0⟩ := Kd.R_celln 0 HO_12.out (x13_4 : Int) p52 q52
                                                    replace p52 := eq_true p52
                                                    replace q52 := eq_true q52
                                                    have HP55 := Kd.R_putn HO_12.out (x13_4 : Int) (Go.bits .xor .i64 (Go.bits .xor .i64 (Go.bits .xor .i64 t201 t203) (rd x10_3 (ji45))) (rd x10_3 (ji48)))
                                                    rw [← Ny206.out] at HP55
                                                    have HQ55 := Aside0.mk HP55
                                                    clear HP55
                                                    refine hK.out _ _ ⟨hHeld.1, hHeld.2.1, hHeld.2.2.1, hHeld.2.2.2⟩ (fun hHeld => ?_)
                                                    clear hK K
                                                    refine norm_ (a' := ?_) ?_ ?_
                                                    rotate_left
                                                    · show Act.put _ (some 91) _ = _
                                                      simp only [Act.put, List.setIfInBounds_toArray, List.set_cons_zero, List.set_cons_succ, i64_w, i32_w]
                                                      rfl
                                                    refine pure_ (i := 16) (N := some 92) (v := ?_) (a' := ?_) #[true, true, true, true, true, true, true, true, true, true, true, true, true, true, true, true, true, true, true, true, true, true, true, true, true, false, true, true, true, true, true, true, true, true, false, false, false] rfl rfl (any_of HT_.out (by kernel_rfl)) (fun _ _ _ h => h) (Or.inl ⟨by rfl, ?_⟩) ?_ ?_
                                                    rotate_left
                                                    · intro w'
                                                      go_simp
                                                      with_reducible rfl
                                                    rotate_left
                                                    · simp only [Act.put, List.setIfInBounds_toArray, List.set_cons_zero, List.set_cons_succ, i64_w, i32_w]
                                                      rfl
                                                    refine pure_ (i := 25) (N := some 101) (v := ?_) (a' := ?_) #[true, true, true, true, true, true, true, true, true, true, true, true, true, true, true, true, true, true, true, true, true, true, true, true, true, true, true, true, true, true, true, true, true, true, false, false, false] rfl rfl (any_of HT_.out (by kernel_rfl)) (fun _ _ _ h => h) (Or.inl ⟨by rfl, ?_⟩) ?_ ?_
                                                    rotate_left
                                                    · intro w'
                                                      go_simp
                                                      with_reducible rfl
                                                    rotate_left
                                                    · simp only [Act.put, List.setIfInBounds_toArray, List.set_cons_zero, List.set_cons_succ, i64_w, i32_w]
                                                      rfl
                                                    refine pure_ (i := 34) (N := some 110) (v := ?_) (a' := ?_) #[true, true, true, true, true, true, true, true, true, true, true, true, true, true, true, true, true, true, true, true, true, true, true, true, true, true, true, true, true, true, true, true, true, true, true, false, false] rfl rfl (any_of HT_.out (by kernel_rfl)) (fun _ _ _ h => h) (Or.inl ⟨by rfl, ?_⟩) ?_ ?_
                                                    rotate_left
                                                    · intro w'
                                                      go_simp
                                                      with_reducible rfl
                                                    rotate_left
                                                    · simp only [Act.put, List.setIfInBounds_toArray, List.set_cons_zero, List.set_cons_succ, i64_w, i32_w]
                                                      rfl
                                                    refine pure_ (i := 35) (N := some 111) (v := ?_) (a' := ?_) #[true, true, true, true, true, true, true, true, true, true, true, true, true, true, true, true, true, true, true, true, true, true, true, true, true, true, true, true, true, true, true, true, true, true, true, true, false] rfl rfl (any_of HT_.out (by kernel_rfl)) (fun _ _ _ h => h) (Or.inl ⟨by rfl, ?_⟩) ?_ ?_
                                                    rotate_left
                                                    · intro w'
                                                      go_simp
                                                      with_reducible rfl
                                                    rotate_left
                                                    · simp only [Act.put, List.setIfInBounds_toArray, List.set_cons_zero, List.set_cons_succ, i64_w, i32_w]
                                                      rfl
                                                    refine last_ (i := 36) (N := none) #[true, true, true, true, true, true, true, true, true, true, true, true, true, true, true, true, true, true, true, true, true, true, true, true, true, true, true, true, true, true, true, true, true, true, true, true, true] rfl rfl (one_of HT_.out (by kernel_rfl)) (by decide) (fun K hK => ?_)
                                                    refine skip_ (w1 := ?_) (by rfl) rfl ?_ ?_
                                                    rotate_left
                                                    · go_simp
                                                      rfl
                                                    refine hK.out _ _ ?_
                                                    clear hK K
                                                    refine done_ (done_of HT_.out (by kernel_rfl)) ?_
                                                    try go_wp2
                                                    go_roundg k4
                                                    case measure => have := HK1.out; have := HK2.out; have := HK3.out; have := HK4.out; omega
                                                    case rel => exact ⟨(y206), (wrap64 (x13_4 + 1)), (by first | rfl | (simp; done) | (simp [*]; done)), H', ⟨by have := HK1.out; have := HK2.out; have := HK3.out; have := HK4.out; omega⟩, ⟨by (with_reducible repeat (first | apply Kd.R_alloc | apply Kd.R_drewN | apply Kd.R_drew)); exact Kd.R_mono (Kd.R_far (p := ⟨go52, (x13_4 : Int).toNat, none⟩) (Kd.R_mono HO_10.out (fun k_ hk => (⟨hk, fun e_ => hk (by rw [e_]; rfl)⟩ : _ ∧ k_ ≠ go52))) (fun _ hk => hk.2) (.int .i64 (Go.bits .xor .i64 (Go.bits .xor .i64 (Go.bits .xor .i64 t201 t203) (rd x10_3 (ji45))) (rd x10_3 (ji48))))) (fun _ hk => hk.1)⟩, ⟨by (with_reducible repeat (first | apply Kd.R_alloc | apply Kd.R_drewN | apply Kd.R_drew)); exact HQ55.out⟩, ⟨by repeat (first | (with_reducible first | exact HB.out | apply below_alloc | apply pw_below_drewN | apply below_drew1 | refine below_set ?_ GB52.out) | exact HB.out)⟩⟩
                                                  · rw [if_neg c51] at H
                                                    exact absurd H (by simp)
                                                · rw [if_neg c50] at H
                                                  exact absurd H (by simp)
                                              · rw [if_neg c49] at H
                                                exact absurd H (by simp)
                                            · rw [if_neg c47] at H
                                              exact absurd H (by simp)
                                          · rw [if_neg c46] at H
                                            exact absurd H (by simp)
                                        · rw [if_neg c43] at H
                                          exact absurd H (by simp)
                                      · rw [if_neg c42] at H
                                        exact absurd H (by simp)
                                    · rw [if_neg c39] at H
                                      exact absurd H (by simp)
                                  · rw [if_neg c38] at H
                                    exact absurd H (by simp)
                                · rw [if_neg c37] at H
                                  have c37b0 : decide (x13_4 < 16) = false := decide_eq_false c37
                                  clear c37
                                  by_cases c56 : 0 ≤ x9_2
                                  · rw [if_pos c56] at H
                                    have c56b0 := eq_true c56
                                    have c56b1 : decide (0 ≤ x9_2) = true := decide_eq_true c56
                                    clear c56
                                    by_cases c57 : x9_2 ≤ (l1.length : Int)
                                    · rw [if_pos c57] at H
                                      have c57b0 := eq_true c57
                                      have c57b1 : decide (x9_2 ≤ (l1.length : Int)) = true := decide_eq_true c57
                                      clear c57
                                      replace H := Option.bind_eq_some_iff.mp H
                                      obtain ⟨t208, A580, H⟩ := H
                                      replace H : (redoubtref08_By.l1 k4 l0 l1 t208 (wrap64 (x9_2 + 16))) = some r := H
                                      have A58 := Aside0.mk A580
                                      clear A580
                                      have H' := Aside0.mk H
                                      clear H
                                      obtain ⟨i059, hi059, _, hsz59, _⟩ := info_parts info5
                                      obtain ⟨A59, hcut59, hA59, hC59⟩ := print_drop_of (P := Try.prog) (Value.int .u8) 0 22 5 .i64 Try.underlying22 hi059 hsz59 A1 c1 l1 x9_2 (of_decide_eq_true (by first | (with_reducible assumption) | assumption)) (of_decide_eq_true (by first | (with_reducible assumption) | assumption)) HC1.out
                                      have HR207 := Aside0.mk (Kd.C_of_reads (h1 := fun _ => rfl) (hA59 _ (Kd.reads_of_C HR1.out)))
                                      have HC207 := Aside0.mk hC59
                                      clear hA59 hC59 hi059 hsz59
                                      obtain ⟨Ao60, co60, eo60⟩ := Kd.R_slice HO_12.out
                                      subst eo60
                                      go_wp2_with (first | ((with_reducible refine gate_callee (f := 33) rfl ?_); refine goesL_ (some 117) rfl rfl Try.func33 (by kernel_rfl) rfl #[.slice Ao60 x12_4.length co60, .slice A59 (l1.drop (x9_2 : Int).toNat).length (c1 - x9_2.toNat)] rfl (by (try simp only [List.map_toArray, List.map_cons, List.map_nil]); first | done | (rw [show (l1.drop (x9_2 : Int).toNat).length = (l1.length - x9_2.toNat) from List.length_drop] <;> rfl) | rfl | (simp only [List.length_drop, List.length_take]; rfl)) ?_; (with_reducible refine (redoubtref08_with.calls k4 _ _ x12_4 _ _ (l1.drop (x9_2 : Int).toNat) t208 _ ?side1 ?side2 ?side3 ?side4 A58.out).mono ?_); (case side1 => repeat (first | exact (Kd.R_reads' HO_12.out).2.2 | (with_reducible refine Kd.C_alloc ?_ _) | (with_reducible refine Kd.C_drewN ?_ _) | (with_reducible refine Kd.C_drew ?_))); (case side2 => exact (Kd.R_reads' HO_12.out).2.1); (case side3 => repeat (first | exact (Kd.C_below HR207.out HB.out) | (with_reducible refine Kd.C_alloc ?_ _) | (with_reducible refine Kd.C_drewN ?_ _) | (with_reducible refine Kd.C_drew ?_))); (case side4 => exact HC207.out); rintro e w61 ⟨v209, rfl, ho0, hb⟩; refine ⟨_, rfl, ?_⟩; have n0_ := Aside0.mk (Kd.R_elder' (by (with_reducible repeat (first | apply Kd.R_alloc | apply Kd.R_drewN | apply Kd.R_drew)); exact HO_10.out) (Kd.R_base ho0) hb); have n1_ := Aside0.mk (Kd.R_elder' (by (with_reducible repeat (first | apply Kd.R_alloc | apply Kd.R_drewN | apply Kd.R_drew)); exact HO_12.out) (Kd.R_base ho0) hb); have n2_ := Aside0.mk (Kd.R_lower (Kd.R_new' (Kd.R_new' ho0 (Kd.R_lt (by (with_reducible repeat (first | apply Kd.R_alloc | apply Kd.R_drewN | apply Kd.R_drew)); exact HO_10.out))) (Kd.R_lt (by (with_reducible repeat (first | apply Kd.R_alloc | apply Kd.R_drewN | apply Kd.R_drew)); exact HO_12.out))) (below_size (by repeat (first | (with_reducible first | exact HB.out | apply below_alloc | apply pw_below_drewN | apply below_drew1) | exact HB.out)))); have n3_ := Aside0.mk (below_step (by repeat (first | (with_reducible first | exact HB.out | apply below_alloc | apply pw_below_drewN | apply below_drew1) | exact HB.out)) hb); clear HO_10; clear HO_12; clear HB; have HO_10 := n0_; have HO_12 := n1_; have HO210 := n2_; have HB := n3_; clear n0_ n1_ n2_ n3_; (try clear hb); (try clear hb2); (try clear hk); (try clear hi); (try clear ho0)))
                                      go_roundg k4
                                      case measure => have := HK1.out; have := HK2.out; have := HK3.out; have := HK4.out; omega
                                      case rel => exact ⟨(t208), (wrap64 (x9_2 + 16)), (by first | rfl | (simp; done) | (simp [*]; done)), H', ⟨by have := HK1.out; have := HK2.out; have := HK3.out; have := HK4.out; omega⟩, ⟨by (with_reducible repeat (first | apply Kd.R_alloc | apply Kd.R_drewN | apply Kd.R_drew)); exact Kd.R_mono HO210.out (fun _ hk => trivial)⟩, ⟨by repeat (first | (with_reducible first | exact HB.out | apply below_alloc | apply pw_below_drewN | apply below_drew1) | exact HB.out)⟩⟩
                                    · rw [if_neg c57] at H
                                      exact absurd H (by simp)
                                  · rw [if_neg c56] at H
                                    exact absurd H (by simp)
                          · rw [if_neg c34] at H
                            exact absurd H (by simp)
                        · rw [if_neg c33] at H
                          have c33b0 : decide ((wrap64 (x9_2 + 16)) < (l1.length : Int)) = false := decide_eq_false c33
                          clear c33
                          by_cases c62 : 0 ≤ x9_2
                          · rw [if_pos c62] at H
                            have c62b0 := eq_true c62
                            have c62b1 : decide (0 ≤ x9_2) = true := decide_eq_true c62
                            clear c62
                            by_cases c63 : x9_2 ≤ (l1.length : Int)
                            · rw [if_pos c63] at H
                              have c63b0 := eq_true c63
                              have c63b1 : decide (x9_2 ≤ (l1.length : Int)) = true := decide_eq_true c63
                              clear c63
                              replace H := Option.bind_eq_some_iff.mp H
                              obtain ⟨t212, A640, H⟩ := H
                              replace H : (redoubtref08_By.l1 k3 l0 l1 t212 (wrap64 (x9_2 + 16))) = some r := H
                              have A64 := Aside0.mk A640
                              clear A640
                              have H' := Aside0.mk H
                              clear H
                              obtain ⟨i065, hi065, _, hsz65, _⟩ := info_parts info5
                              obtain ⟨A65, hcut65, hA65, hC65⟩ := print_drop_of (P := Try.prog) (Value.int .u8) 0 22 5 .i64 Try.underlying22 hi065 hsz65 A1 c1 l1 x9_2 (of_decide_eq_true (by first | (with_reducible assumption) | assumption)) (of_decide_eq_true (by first | (with_reducible assumption) | assumption)) HC1.out
                              have HR211 := Aside0.mk (Kd.C_of_reads (h1 := fun _ => rfl) (hA65 _ (Kd.reads_of_C HR1.out)))
                              have HC211 := Aside0.mk hC65
                              clear hA65 hC65 hi065 hsz65
                              obtain ⟨Ao66, co66, eo66⟩ := Kd.R_slice HO_10.out
                              subst eo66
                              go_wp2_with (first | ((with_reducible refine gate_callee (f := 33) rfl ?_); refine goesL_ (some 117) rfl rfl Try.func33 (by kernel_rfl) rfl #[.slice Ao66 x10_3.length co66, .slice A65 (l1.drop (x9_2 : Int).toNat).length (c1 - x9_2.toNat)] rfl (by (try simp only [List.map_toArray, List.map_cons, List.map_nil]); first | done | (rw [show (l1.drop (x9_2 : Int).toNat).length = (l1.length - x9_2.toNat) from List.length_drop] <;> rfl) | rfl | (simp only [List.length_drop, List.length_take]; rfl)) ?_; (with_reducible refine (redoubtref08_with.calls k3 _ _ x10_3 _ _ (l1.drop (x9_2 : Int).toNat) t212 _ ?side1 ?side2 ?side3 ?side4 A64.out).mono ?_); (case side1 => repeat (first | exact (Kd.R_reads' HO_10.out).2.2 | (with_reducible refine Kd.C_alloc ?_ _) | (with_reducible refine Kd.C_drewN ?_ _) | (with_reducible refine Kd.C_drew ?_))); (case side2 => exact (Kd.R_reads' HO_10.out).2.1); (case side3 => repeat (first | exact (Kd.C_below HR211.out HB.out) | (with_reducible refine Kd.C_alloc ?_ _) | (with_reducible refine Kd.C_drewN ?_ _) | (with_reducible refine Kd.C_drew ?_))); (case side4 => exact HC211.out); rintro e w67 ⟨v213, rfl, ho0, hb⟩; refine ⟨_, rfl, ?_⟩; have n0_ := Aside0.mk (Kd.R_elder' (by (with_reducible repeat (first | apply Kd.R_alloc | apply Kd.R_drewN | apply Kd.R_drew)); exact HO_7.out) (Kd.R_base ho0) hb); have n1_ := Aside0.mk (Kd.R_elder' (by (with_reducible repeat (first | apply Kd.R_alloc | apply Kd.R_drewN | apply Kd.R_drew)); exact HO_10.out) (Kd.R_base ho0) hb); have n2_ := Aside0.mk (Kd.R_lower (Kd.R_new' (Kd.R_new' ho0 (Kd.R_lt (by (with_reducible repeat (first | apply Kd.R_alloc | apply Kd.R_drewN | apply Kd.R_drew)); exact HO_7.out))) (Kd.R_lt (by (with_reducible repeat (first | apply Kd.R_alloc | apply Kd.R_drewN | apply Kd.R_drew)); exact HO_10.out))) (below_size (by repeat (first | (with_reducible first | exact HB.out | apply below_alloc | apply pw_below_drewN | apply below_drew1) | exact HB.out)))); have n3_ := Aside0.mk (below_step (by repeat (first | (with_reducible first | exact HB.out | apply below_alloc | apply pw_below_drewN | apply below_drew1) | exact HB.out)) hb); clear HO_7; clear HO_10; clear HB; have HO_7 := n0_; have HO_10 := n1_; have HO214 := n2_; have HB := n3_; clear n0_ n1_ n2_ n3_; (try clear hb); (try clear hb2); (try clear hk); (try clear hi); (try clear ho0)))
                              go_roundg k3
                              case measure => have := HK1.out; have := HK2.out; have := HK3.out; omega
                              case rel => exact ⟨(t212), (wrap64 (x9_2 + 16)), (by first | rfl | (simp; done) | (simp [*]; done)), H', ⟨by have := HK1.out; have := HK2.out; have := HK3.out; omega⟩, ⟨by (with_reducible repeat (first | apply Kd.R_alloc | apply Kd.R_drewN | apply Kd.R_drew)); exact Kd.R_mono HO214.out (fun _ hk => trivial)⟩, ⟨by repeat (first | (with_reducible first | exact HB.out | apply below_alloc | apply pw_below_drewN | apply below_drew1) | exact HB.out)⟩⟩
                            · rw [if_neg c63] at H
                              exact absurd H (by simp)
                          · rw [if_neg c62] at H
                            exact absurd H (by simp)
                · rw [if_neg c18] at H
                  exact absurd H (by simp)
              · rw [if_neg c17] at H
                have c17b0 : decide (x9_2 < (l1.length : Int)) = false := decide_eq_false c17
                clear c17
                by_cases c68 : 16 ≤ 281474976710656
                · rw [if_pos c68] at H
                  have c68b0 := eq_true c68
                  have c68b1 : decide (16 ≤ 281474976710656) = true := decide_eq_true c68
                  clear c68
                  obtain ⟨y215, hy215⟩ : ∃ y_ : List Int, y_ = (List.replicate 16 0) := ⟨_, rfl⟩
                  replace H : (redoubtref08_By.l4 k2 x7_2 y215 0) = some r := by first | (rw [hy215]; with_reducible exact H) | (have H2_ := (Option.bind_some _ _).symm.trans H; rw [hy215]; with_reducible exact H2_) | (have H2_ := (Option.bind_some _ _).symm.trans H; with_reducible exact H2_) | with_reducible exact H | (rw [hy215]; exact H) | exact H
                  have Ny215 := Aside0.mk hy215
                  clear hy215
                  have H' := Aside0.mk H
                  clear H
                  go_wp2_with (first | ((with_reducible refine gate_dst (N := 118) rfl ?_); refine Kd.R_make (Kd.int .u8) _ 5 rfl (N := 118) rfl 22 _ _ rfl 16 rfl rfl Try.underlying22 (.int .u8 0) 1 info5 rfl (by decide) (by omega) 0 (ok := fun _ => True) (okp := fun _ => True) rfl (fun _ hk => hk) trivial (by omega) (by omega) (Below.refl _ _) (Nat.le_refl _) ?_; intro v216 w69 ho70 hb hg_ hnew_; clear hg_ hnew_; (first | rw [← Ny215.out] at ho70 | (simp only [Int.reduceToNat] at ho70; rw [← Ny215.out] at ho70)); have n0_ := Aside0.mk (Kd.R_below (by (with_reducible repeat (first | apply Kd.R_alloc | apply Kd.R_drewN | apply Kd.R_drew)); exact HO_7.out) hb); have n1_ := Aside0.mk (Kd.R_lower ho70 (below_size (by repeat (first | (with_reducible first | exact HB.out | apply below_alloc | apply pw_below_drewN | apply below_drew1) | exact HB.out)))); have n2_ := Aside0.mk (below_step (by repeat (first | (with_reducible first | exact HB.out | apply below_alloc | apply pw_below_drewN | apply below_drew1) | exact HB.out)) hb); clear HO_7; clear HB; have HO_7 := n0_; have HO217 := n1_; have HB := n2_; clear n0_ n1_ n2_; clear hb ho70))
                  go_loopg [16] k2 (fun kq v16 w' => ∃ (x15_3 : List Int) (x16_3 : Int), v16 = .int .i64 x16_3 ∧ Aside0 (redoubtref08_By.l4 kq x7_2 x15_3 x16_3 = some r) ∧ Aside0 (kq ≤ k2) ∧ Aside0 (Kd.R (Kd.int .i64) 3 w' w.heap.size (fun _ => True) u7 x7_2) ∧ Aside0 (Kd.R (Kd.int .u8) 5 w' w.heap.size (fun _ => True) v216 x15_3) ∧ Aside0 (Below w.heap.size w w'))
                  case atStart => exact ⟨(y215), (0), (by first | rfl | (simp; done) | (simp [*]; done)), H', ⟨Nat.le_refl _⟩, ⟨by (with_reducible repeat (first | apply Kd.R_alloc | apply Kd.R_drewN | apply Kd.R_drew)); exact HO_7.out⟩, ⟨by (with_reducible repeat (first | apply Kd.R_alloc | apply Kd.R_drewN | apply Kd.R_drew)); exact HO217.out⟩, ⟨by repeat (first | (with_reducible first | exact HB.out | apply below_alloc | apply pw_below_drewN | apply below_drew1) | exact HB.out)⟩⟩
                  case round =>
                    clear H'
                    try clear c1
                    try clear p1
                    try clear q1
                    try clear hx1
                    try clear c2
                    try clear p2
                    try clear q2
                    try clear hx2
                    try clear c3
                    try clear c4
                    try clear c5
                    try clear p5
                    try clear q5
                    try clear hx5
                    try clear hf5
                    try clear c6
                    try clear p6
                    try clear p11
                    try clear q11
                    try clear hx11
                    try clear c17
                    try clear c17b0
                    try clear c18
                    try clear c18b1
                    try clear p18
                    try clear q18
                    try clear hx18
                    try clear p19
                    try clear q19
                    try clear hx19
                    try clear p20
                    try clear q20
                    try clear hx20
                    try clear c21
                    try clear c21b0
                    try clear c23
                    try clear c23b0
                    try clear c24
                    try clear c24b0
                    try clear c25
                    try clear c25b0
                    try clear c26
                    try clear c26b0
                    try clear c27
                    try clear c27b0
                    try clear c28
                    try clear c28b0
                    try clear p29
                    try clear q29
                    try clear hx29
                    try clear hf29
                    try clear c31
                    try clear c33
                    try clear c33b0
                    try clear c34
                    try clear c34b0
                    try clear c34b1
                    try clear c37
                    try clear c37b0
                    try clear c38
                    try clear c38b0
                    try clear c39
                    try clear c39b0
                    try clear c42
                    try clear c42b0
                    try clear c43
                    try clear c43b0
                    try clear c46
                    try clear c46b0
                    try clear c47
                    try clear c47b0
                    try clear c49
                    try clear c49b0
                    try clear c50
                    try clear c50b0
                    try clear c51
                    try clear c51b0
                    try clear p52
                    try clear q52
                    try clear hx52
                    try clear hf52
                    try clear c56
                    try clear c56b0
                    try clear c56b1
                    try clear c57
                    try clear c57b0
                    try clear c57b1
                    try clear c62
                    try clear c62b0
                    try clear c62b1
                    try clear c63
                    try clear c63b0
                    try clear c63b1
                    try clear p64
                    try clear c68
                    try clear c68b0
                    try clear c68b1
                    try clear hx11_0
                    try clear hx186_0
                    try clear hx194_0
                    try clear hx195_0
                    try clear hx200_0
                    try clear hx202_0
                    try clear hx204_0
                    try clear hx205_0
                    try clear hx29_0
                    try clear hx52_0
                    try clear p1
                    try clear p11
                    try clear p18
                    try clear p186
                    try clear p19
                    try clear p194
                    try clear p195
                    try clear p2
                    try clear p200
                    try clear p202
                    try clear p204
                    try clear p205
                    try clear p29
                    try clear p52
                    try clear p6
                    try clear q1
                    try clear q11
                    try clear q18
                    try clear q186
                    try clear q19
                    try clear q194
                    try clear q195
                    try clear q200
                    try clear q202
                    try clear q204
                    try clear q205
                    try clear q29
                    try clear q52
                    obtain ⟨x15_3, x16_3, rfl, HA, HK3, HO_7, HO_15, HB⟩ := hrel
                    cases gk with
                    | zero => exact absurd HA.out (by simp [redoubtref08_By.l4])
                    | succ k3 =>
                      have H := HA.out
                      clear HA
                      simp only [redoubtref08_By.l4] at H
                      by_cases c71 : x16_3 < 16
                      · rw [if_pos c71] at H
                        have c71b0 : decide (x16_3 < 16) = true := decide_eq_true c71
                        clear c71
                        by_cases c72 : 0 ≤ x16_3
                        · rw [if_pos c72] at H
                          have c72b0 : decide (0 ≤ x16_3) = true := decide_eq_true c72
                          clear c72
                          by_cases c73 : x16_3 < (x7_2.length : Int)
                          · rw [if_pos c73] at H
                            have c73b0 : decide (x16_3 < (x7_2.length : Int)) = true := decide_eq_true c73
                            clear c73
                            by_cases c74 : x16_3 < (x15_3.length : Int)
                            · rw [if_pos c74] at H
                              have c74b0 : decide (x16_3 < (x15_3.length : Int)) = true := decide_eq_true c74
                              clear c74
                              obtain ⟨y219, hy219⟩ : ∃ y_ : List Int, y_ = (x15_3.set (x16_3 : Int).toNat ((rd x7_2 x16_3) % 256)) := ⟨_, rfl⟩
                              replace H : (redoubtref08_By.l4 k3 x7_2 y219 (wrap64 (x16_3 + 1))) = some r := by first | (rw [hy219]; with_reducible exact H) | (have H2_ := (Option.bind_some _ _).symm.trans H; rw [hy219]; with_reducible exact H2_) | (have H2_ := (Option.bind_some _ _).symm.trans H; with_reducible exact H2_) | with_reducible exact H | (rw [hy219]; exact H) | exact H
                              have Ny219 := Aside0.mk hy219
                              clear hy219
                              have H' := Aside0.mk H
                              clear H
                              obtain ⟨Ao76, co76, eo76⟩ := Kd.R_slice HO_7.out
                              subst eo76
                              have p218 : 0 ≤ (x16_3 : Int) := of_decide_eq_true (by first | (with_reducible assumption) | assumption)
                              have q218 : x16_3 < (x7_2.length : Int) := of_decide_eq_true (by first | (with_reducible assumption) | assumption)
                              obtain ⟨ad218, e218, hx218_0⟩ := Kd.at_int (Kd.R_reads' HO_7.out).2.2 x16_3 p218 q218
                              cases e218
                              replace p218 := eq_true p218
                              replace q218 := eq_true q218
                              have p75 : 0 ≤ (x16_3 : Int) := of_decide_eq_true (by first | (with_reducible assumption) | assumption)
                              have q75 : (x16_3 : Int) < ((x15_3.length : Int) : Int) := of_decide_eq_true (by first | (with_reducible assumption) | assumption)
                              obtain ⟨go75, co75, eo75, gb75, gl75, cl75, HG75⟩ := Kd.R_form HO_15.out (by omega)
                              (first | cases eo75 | (injection eo75 with ea_ en_ ec_; (first | subst ea_ | (injection ea_ with ea_; subst ea_)); subst ec_; clear en_))
                              have GB75 := Aside0.mk gb75
                              have GG75 := Aside0.mk HG75
                              clear gb75 gl75 HG75
                              obtain ⟨hx75_0, hf75_0⟩ := Kd.R_celln 0 HO_15.out (x16_3 : Int) p75 q75
                              replace p75 := eq_true p75
                              replace q75 := eq_true q75
                              have HP77 := Kd.R_putg HO_15.out (x16_3 : Int) ((rd x7_2 x16_3) % 256)
                              go_wp2_with (first | ((with_reducible refine gate_store (t := 5) (p := 130) rfl ?_); refine store_event (t := 5) (p := 130) (v := ?vo_w78) (w1 := (wr.setCell ⟨go75, (x16_3 : Int).toNat, none⟩ (.int .u8 ((rd x7_2 x16_3) % 256)))) ?hg ?ho ?hn ?hr ?_; (case ho => rfl); (case hg => rfl); (case hn => rfl); (case hr => first | (go_simp; done) | (go_simp; rfl)); intro w78 hw; have hg : wr.grownBy w78 (some go75) := (by rw [hw]; exact HP77.2); have hp_ : Kd.R (Kd.int .u8) 5 w78 w.heap.size (fun _ => True) (.slice (some ⟨go75, 0, none⟩) x15_3.length co75) y219 := (by rw [hw, Ny219.out]; exact HP77.1); clear HP77; have n0_ := Aside0.mk (Kd.R_over' (v := (.slice (some ⟨go75, 0, none⟩) x15_3.length co75)) (by (with_reducible repeat (first | apply Kd.R_alloc | apply Kd.R_drewN | apply Kd.R_drew)); exact HO_7.out) (Kd.R_typed HO_15.out) (by decide) hg); have n1_ := Aside0.mk (hp_); have n2_ := Aside0.mk ((by rw [hw]; exact below_set (HB.out) GB75.out : Below w.heap.size w w78)); clear HO_7; clear HO_15; clear HB; have HO_7 := n0_; have HO_15 := n1_; have HB := n2_; clear n0_ n1_ n2_; clear hg hw hp_))
                              go_roundg k3
                              case measure => have := HK1.out; have := HK2.out; have := HK3.out; omega
                              case rel => exact ⟨(y219), (wrap64 (x16_3 + 1)), (by first | rfl | (simp; done) | (simp [*]; done)), H', ⟨by have := HK1.out; have := HK2.out; have := HK3.out; omega⟩, ⟨by (with_reducible repeat (first | apply Kd.R_alloc | apply Kd.R_drewN | apply Kd.R_drew)); exact HO_7.out⟩, ⟨by (with_reducible repeat (first | apply Kd.R_alloc | apply Kd.R_drewN | apply Kd.R_drew)); exact HO_15.out⟩, ⟨by repeat (first | (with_reducible first | exact HB.out | apply below_alloc | apply pw_below_drewN | apply below_drew1) | exact HB.out)⟩⟩
                            · rw [if_neg c74] at H
                              exact absurd H (by simp)
                          · rw [if_neg c73] at H
                            exact absurd H (by simp)
                        · rw [if_neg c72] at H
                          exact absurd H (by simp)
                      · rw [if_neg c71] at H
                        have c71b0 : decide (x16_3 < 16) = false := decide_eq_false c71
                        clear c71
                        obtain rfl := Option.some.inj H
                        go_wp2
                        go_ret
                        exact ⟨_, by first | rfl | (simp [errW_none, errW_some] <;> rfl) | (simp [*, errW_none, errW_some] <;> rfl), by (with_reducible repeat (first | apply Kd.R_alloc | apply Kd.R_drewN | apply Kd.R_drew)); exact HO_15.out, by repeat (first | (with_reducible first | exact HB.out | apply below_alloc | apply pw_below_drewN | apply below_drew1) | exact HB.out)⟩
                · rw [if_neg c68] at H
                  exact absurd H (by simp)
  · rw [if_neg c4] at H
    exact absurd H (by simp)

end Go.Proofs.Ytgkphopdmkfcgaa.PCtrTurns

-- PRINTED BY print.sh 35421559b90ae4d0a3588c463048766b98c2df88dd9212a6774a882060cdf62d: not written by this session
import Derived.Test.YtaooibcihjkhfaaDoorPDigestRootsx0
namespace Go.Proofs.YtaooibcihjkhfaaDoor.PDigestRoots
open Go.RowKit Go.Proofs.YtaooibcihjkhfaaDoorW.PrintWords Go.Proofs.YtaooibcihjkhfaaDoorW.PrintLast Go.Proofs.YtaooibcihjkhfaaDoorW.PrintMore
attribute [local go_sem] max2_int min2_int max_two min_two max_three min_three max_four min_four   -- for this text's walks alone
set_option linter.unusedVariables false
set_option linter.unusedSimpArgs false

/-! ### redoubtlaw10_times: function 23 -/
mutual
def redoubtlaw10_times.l0 : Nat → List Int → List Int → List Int → Int → Option (List Int)
  | 0, _, _, _, _ => none
  | k + 1, x0, x1, x5, x6 => if x6 < (x0.length : Int) then (redoubtlaw10_times.l1 k x0 x1 x5 x6 0) else (redoubtlaw10_times.l2 k x5 0)
def redoubtlaw10_times.l1 : Nat → List Int → List Int → List Int → Int → Int → Option (List Int)
  | 0, _, _, _, _, _ => none
  | k + 1, x0, x1, x5, x6, x7 => if x7 < (x1.length : Int) then (if 0 ≤ (wrap64 (x6 + x7)) then (if (wrap64 (x6 + x7)) < (x5.length : Int) then (if 0 ≤ x6 then (if x6 < (x0.length : Int) then (if 0 ≤ x7 then ((some (x5.set ((wrap64 (x6 + x7)) : Int).toNat (wrap64 ((rd x5 (wrap64 (x6 + x7))) + (wrap64 ((rd x0 x6) * (rd x1 x7))))) : List Int)).bind fun y113 => (if 0 ≤ (wrap64 ((wrap64 (x6 + x7)) + 1)) then (if (wrap64 ((wrap64 (x6 + x7)) + 1)) < (x5.length : Int) then ((some (y113.set ((wrap64 ((wrap64 (x6 + x7)) + 1)) : Int).toNat (wrap64 ((rd y113 (wrap64 ((wrap64 (x6 + x7)) + 1))) + (wrap64 (Int.tdiv (rd y113 (wrap64 (x6 + x7))) 65536)))) : List Int)).bind fun y116 => (redoubtlaw10_times.l1 k x0 x1 (y116.set ((wrap64 (x6 + x7)) : Int).toNat (Int.tmod (rd y116 (wrap64 (x6 + x7))) 65536)) x6 (wrap64 (x7 + 1)))) else (none)) else (none))) else (none)) else (none)) else (none)) else (none)) else (none)) else (redoubtlaw10_times.l0 k x0 x1 x5 (wrap64 (x6 + 1)))
def redoubtlaw10_times.l2 : Nat → List Int → Int → Option (List Int)
  | 0, _, _ => none
  | k + 1, x5, x8 => if (wrap64 (x8 + 1)) < (x5.length : Int) then (if 0 ≤ (wrap64 (x8 + 1)) then (if 0 ≤ x8 then (if x8 < (x5.length : Int) then ((some (x5.set ((wrap64 (x8 + 1)) : Int).toNat (wrap64 ((rd x5 (wrap64 (x8 + 1))) + (wrap64 (Int.tdiv (rd x5 x8) 65536)))) : List Int)).bind fun y121 => (redoubtlaw10_times.l2 k (y121.set (x8 : Int).toNat (Int.tmod (rd y121 x8) 65536)) (wrap64 (x8 + 1)))) else (none)) else (none)) else (none)) else (some x5)
end
def redoubtlaw10_times.f (k : Nat) (l0 : List Int) (l1 : List Int) : Option (List Int) := if 0 ≤ (wrap64 ((wrap64 ((l0.length : Int) + (l1.length : Int))) + 1)) then (if (wrap64 ((wrap64 ((l0.length : Int) + (l1.length : Int))) + 1) : Int).toNat ≤ 35184372088832 then (redoubtlaw10_times.l0 k l0 l1 (List.replicate (wrap64 ((wrap64 ((l0.length : Int) + (l1.length : Int))) + 1) : Int).toNat 0) 0) else (none)) else (none)
theorem redoubtlaw10_times.mono_l : ∀ k, (∀ y0 y1 y2 y3, LeO (redoubtlaw10_times.l0 k y0 y1 y2 y3) (redoubtlaw10_times.l0 (k + 1) y0 y1 y2 y3)) ∧ (∀ y0 y1 y2 y3 y4, LeO (redoubtlaw10_times.l1 k y0 y1 y2 y3 y4) (redoubtlaw10_times.l1 (k + 1) y0 y1 y2 y3 y4)) ∧ (∀ y0 y1, LeO (redoubtlaw10_times.l2 k y0 y1) (redoubtlaw10_times.l2 (k + 1) y0 y1))
  | 0 => ⟨fun _ _ _ _ r h => by simp [redoubtlaw10_times.l0] at h, fun _ _ _ _ _ r h => by simp [redoubtlaw10_times.l1] at h, fun _ _ r h => by simp [redoubtlaw10_times.l2] at h⟩
  | k + 1 => by
    obtain ⟨ih0, ih1, ih2⟩ := redoubtlaw10_times.mono_l k
    refine ⟨?_, ?_, ?_⟩
    · intro y0 y1 y2 y3
      unfold redoubtlaw10_times.l0
      repeat' first
      | (with_reducible exact ih0 _ _ _ _)
      | (with_reducible exact ih1 _ _ _ _ _)
      | (with_reducible exact ih2 _ _)
      | (with_reducible exact LeO.refl _)
      | (with_reducible exact LeO.none _)
      | (with_reducible refine LeO.ite ?_ ?_)
      | (with_reducible refine LeO.bind ?_ (fun _ => ?_))
      | exact ih0 _ _ _ _
      | exact ih1 _ _ _ _ _
      | exact ih2 _ _
      | exact LeO.none _
      | refine LeO.ite ?_ ?_
      | refine LeO.bind ?_ (fun _ => ?_)
    · intro y0 y1 y2 y3 y4
      unfold redoubtlaw10_times.l1
      repeat' first
      | (with_reducible exact ih0 _ _ _ _)
      | (with_reducible exact ih1 _ _ _ _ _)
      | (with_reducible exact ih2 _ _)
      | (with_reducible exact LeO.refl _)
      | (with_reducible exact LeO.none _)
      | (with_reducible refine LeO.ite ?_ ?_)
      | (with_reducible refine LeO.bind ?_ (fun _ => ?_))
      | exact ih0 _ _ _ _
      | exact ih1 _ _ _ _ _
      | exact ih2 _ _
      | exact LeO.none _
      | refine LeO.ite ?_ ?_
      | refine LeO.bind ?_ (fun _ => ?_)
    · intro y0 y1
      unfold redoubtlaw10_times.l2
      repeat' first
      | (with_reducible exact ih0 _ _ _ _)
      | (with_reducible exact ih1 _ _ _ _ _)
      | (with_reducible exact ih2 _ _)
      | (with_reducible exact LeO.refl _)
      | (with_reducible exact LeO.none _)
      | (with_reducible refine LeO.ite ?_ ?_)
      | (with_reducible refine LeO.bind ?_ (fun _ => ?_))
      | exact ih0 _ _ _ _
      | exact ih1 _ _ _ _ _
      | exact ih2 _ _
      | exact LeO.none _
      | refine LeO.ite ?_ ?_
      | refine LeO.bind ?_ (fun _ => ?_)
theorem redoubtlaw10_times.mono : ∀ a0 a1 k, LeO (redoubtlaw10_times.f k a0 a1) (redoubtlaw10_times.f (k + 1) a0 a1) := by
  intro a0 a1 k
  obtain ⟨ih0, ih1, ih2⟩ := redoubtlaw10_times.mono_l k
  unfold redoubtlaw10_times.f
  repeat' first
      | (with_reducible exact ih0 _ _ _ _)
      | (with_reducible exact ih1 _ _ _ _ _)
      | (with_reducible exact ih2 _ _)
      | (with_reducible exact LeO.refl _)
      | (with_reducible exact LeO.none _)
      | (with_reducible refine LeO.ite ?_ ?_)
      | (with_reducible refine LeO.bind ?_ (fun _ => ?_))
      | exact ih0 _ _ _ _
      | exact ih1 _ _ _ _ _
      | exact ih2 _ _
      | exact LeO.none _
      | refine LeO.ite ?_ ?_
      | refine LeO.bind ?_ (fun _ => ?_)
def redoubtlaw10_times.T8 : Bool × List (List Nat × List Nat) := (true, [([], []), ([], []), ([], []), ([1, 2], [1, 2]), ([], []), ([], []), ([], []), ([5, 6], [5, 6]), ([4, 7], [4, 7]), ([8], [8]), ([], []), ([], []), ([10, 11], [10, 11]), ([12], [12]), ([], []), ([], []), ([14, 15], [14, 15]), ([16], [16]), ([13, 17], [13, 17]), ([9, 18], [9, 18]), ([0, 3, 0, 1, 2, 3, 4, 5, 6, 7, 8, 9, 10, 11, 12, 13, 14, 15, 16, 17, 18, 19], [0, 3]), ([20, 19, 0, 1, 2, 3, 4, 5, 6, 7, 8, 9, 10, 11, 12, 13, 14, 15, 16, 17, 18, 19], [19, 20])])
def redoubtlaw10_times.B8 : List Nat := [0, 0, 0, 6, 0, 0, 0, 96, 240, 496, 0, 0, 3072, 7168, 0, 0, 49152, 114688, 261120, 524272, 1048575, 2097151]
theorem redoubtlaw10_times.tab8 : rtab .any (opsOf Tryd.f23 8) = redoubtlaw10_times.T8 := by kernel_rfl
theorem redoubtlaw10_times.bits8 : waitsOk redoubtlaw10_times.T8.2 redoubtlaw10_times.B8 = true := by kernel_rfl
def redoubtlaw10_times.T9 : Bool × List (List Nat × List Nat) := (true, [([], []), ([], []), ([], []), ([1, 2], [1, 2]), ([3], [3]), ([], []), ([], []), ([], []), ([6, 7], [6, 7]), ([8], [8]), ([5, 9], [5, 9]), ([10], [10]), ([], []), ([], []), ([], []), ([13, 14], [13, 14]), ([12, 15], [12, 15]), ([16], [16]), ([17], [17]), ([11, 18], [11, 18]), ([0, 4, 0, 1, 2, 3, 4, 5, 6, 7, 8, 9, 10, 11, 12, 13, 14, 15, 16, 17, 18, 19], [0, 4]), ([20, 19, 0, 1, 2, 3, 4, 5, 6, 7, 8, 9, 10, 11, 12, 13, 14, 15, 16, 17, 18, 19], [19, 20])])
def redoubtlaw10_times.B9 : List Nat := [0, 0, 0, 6, 14, 0, 0, 0, 192, 448, 992, 2016, 0, 0, 0, 24576, 61440, 126976, 258048, 524256, 1048575, 2097151]
theorem redoubtlaw10_times.tab9 : rtab .any (opsOf Tryd.f23 9) = redoubtlaw10_times.T9 := by kernel_rfl
theorem redoubtlaw10_times.bits9 : waitsOk redoubtlaw10_times.T9.2 redoubtlaw10_times.B9 = true := by kernel_rfl
def redoubtlaw10_times.T14 : Bool × List (List Nat × List Nat) := (true, [([], []), ([], []), ([1], [1]), ([], []), ([], []), ([4], [4]), ([3, 5], [3, 5]), ([6], [6]), ([], []), ([], []), ([8, 9], [8, 9]), ([10], [10]), ([11], [11]), ([7, 12], [7, 12]), ([0, 2, 0, 1, 2, 3, 4, 5, 6, 7, 8, 9, 10, 11, 12, 13], [0, 2]), ([14, 13, 0, 1, 2, 3, 4, 5, 6, 7, 8, 9, 10, 11, 12, 13], [13, 14])])
def redoubtlaw10_times.B14 : List Nat := [0, 0, 2, 0, 0, 16, 56, 120, 0, 0, 768, 1792, 3840, 8184, 16383, 32767]
theorem redoubtlaw10_times.tab14 : rtab .any (opsOf Tryd.f23 14) = redoubtlaw10_times.T14 := by kernel_rfl
theorem redoubtlaw10_times.bits14 : waitsOk redoubtlaw10_times.T14.2 redoubtlaw10_times.B14 = true := by kernel_rfl
set_option maxHeartbeats 8000000 in
set_option maxRecDepth 100000 in
theorem redoubtlaw10_times.calls (k : Nat) (A0 : Option Addr) (c0 : Nat) (l0 : List Int) (A1 : Option Addr) (c1 : Nat) (l1 : List Int) (r : List Int) (w : World) (hr0 : Kd.C (Kd.int .i64) w A0 l0.length l0) (hc0 : l0.length ≤ c0) (hr1 : Kd.C (Kd.int .i64) w A1 l1.length l1) (hc1 : l1.length ≤ c1) (h : redoubtlaw10_times.f k l0 l1 = some r) :
    Calls Tryd.prog 23 #[.slice A0 l0.length c0, .slice A1 l1.length c1] w fun e w' => ∃ v0_ : Value, e = .returned (v0_) ∧ Kd.R (Kd.int .i64) 3 w' w.heap.size (fun _ => True) v0_ r ∧ Below w.heap.size w w' := by
  have HR0 := Aside0.mk hr0
  have HC0 := Aside0.mk hc0
  clear hr0 hc0
  have HR1 := Aside0.mk hr1
  have HC1 := Aside0.mk hc1
  clear hr1 hc1
  have HB := Aside0.mk (Below.refl w.heap.size w)
  have H : (if 0 ≤ (wrap64 ((wrap64 ((l0.length : Int) + (l1.length : Int))) + 1)) then (if (wrap64 ((wrap64 ((l0.length : Int) + (l1.length : Int))) + 1) : Int).toNat ≤ 35184372088832 then (redoubtlaw10_times.l0 k l0 l1 (List.replicate (wrap64 ((wrap64 ((l0.length : Int) + (l1.length : Int))) + 1) : Int).toNat 0) 0) else (none)) else (none)) = some r := h
  clear h
  obtain ⟨ji3, hji3⟩ : ∃ j_ : Int, (wrap64 ((wrap64 ((l0.length : Int) + (l1.length : Int))) + 1)) = j_ := ⟨_, rfl⟩
  replace H : (if 0 ≤ (ji3) then (if (ji3 : Int).toNat ≤ 35184372088832 then (redoubtlaw10_times.l0 k l0 l1 (List.replicate (ji3 : Int).toNat 0) 0) else (none)) else (none)) = some r := by first | (rw [hji3] at H; exact H) | (simp only [hji3] at H ⊢; exact H)
  have hji3w : (IntKind.i64.wrap ((wrap64 ((l0.length : Int) + (l1.length : Int))) + 1)) = ji3 := (i64_w _).trans hji3
  by_cases c4 : 0 ≤ (ji3)
  · rw [if_pos c4] at H
    have c4b0 := eq_true c4
    have c4b1 : decide (0 ≤ (ji3)) = true := decide_eq_true c4
    clear c4
    by_cases c5 : (ji3 : Int).toNat ≤ 35184372088832
    · rw [if_pos c5] at H
      have c5b0 := eq_true c5
      have c5b1 : decide ((ji3 : Int).toNat ≤ 35184372088832) = true := decide_eq_true c5
      clear c5
      obtain ⟨y107, hy107⟩ : ∃ y_ : List Int, y_ = (List.replicate (ji3 : Int).toNat 0) := ⟨_, rfl⟩
      replace H : (redoubtlaw10_times.l0 k l0 l1 y107 0) = some r := by first | (rw [hy107]; with_reducible exact H) | (have H2_ := (Option.bind_some _ _).symm.trans H; rw [hy107]; with_reducible exact H2_) | (have H2_ := (Option.bind_some _ _).symm.trans H; with_reducible exact H2_) | with_reducible exact H | (rw [hy107]; exact H) | exact H
      have Ny107 := Aside0.mk hy107
      clear hy107
      have H' := Aside0.mk H
      clear H
      go_enter Tryd.func23, Tryd.ntmps23
      go_wp2_with (first | ((with_reducible refine gate_dst (N := 15) rfl ?_); refine Kd.R_make (Kd.int .i64) _ 3 rfl (N := 15) rfl 31 _ _ rfl ji3 rfl rfl Tryd.underlying31 (.int .i64 0) 8 info3 rfl (by decide) (by omega) 0 (ok := fun _ => True) (okp := fun _ => True) rfl (fun _ hk => hk) trivial (of_decide_eq_true (by first | (with_reducible assumption) | assumption)) (Nat.le_trans (Nat.mul_le_mul_right _ (of_decide_eq_true (by first | (with_reducible assumption) | assumption) : ji3.toNat ≤ 35184372088832)) (by omega)) (Below.refl _ _) (Nat.le_refl _) ?_; intro v108 w6 ho7 hb hg_ hnew_; clear hg_ hnew_; (first | rw [← Ny107.out] at ho7 | (simp only [Int.reduceToNat] at ho7; rw [← Ny107.out] at ho7)); have n0_ := Aside0.mk (Kd.R_lower ho7 (below_size (by repeat (first | (with_reducible first | exact HB.out | apply below_alloc | apply pw_below_drewN | apply below_drew1) | exact HB.out)))); have n1_ := Aside0.mk (below_step (by repeat (first | (with_reducible first | exact HB.out | apply below_alloc | apply pw_below_drewN | apply below_drew1) | exact HB.out)) hb); clear HB; have HO109 := n0_; have HB := n1_; clear n0_ n1_; clear hb ho7))
      go_loopg [6] k (fun kq v6 w' => ∃ (x5_1 : List Int) (x6_1 : Int), v6 = .int .i64 x6_1 ∧ Aside0 (redoubtlaw10_times.l0 kq l0 l1 x5_1 x6_1 = some r) ∧ Aside0 (kq ≤ k) ∧ Aside0 (Kd.R (Kd.int .i64) 3 w' w.heap.size (fun _ => True) v108 x5_1) ∧ Aside0 (Below w.heap.size w w'))
      case atStart => exact ⟨(y107), (0), (by first | rfl | (simp; done) | (simp [*]; done)), H', ⟨Nat.le_refl _⟩, ⟨by (with_reducible repeat (first | apply Kd.R_alloc | apply Kd.R_drewN | apply Kd.R_drew)); exact HO109.out⟩, ⟨by repeat (first | (with_reducible first | exact HB.out | apply below_alloc | apply pw_below_drewN | apply below_drew1) | exact HB.out)⟩⟩
      case round =>
        clear H'
        try clear c1
        try clear c2
        try clear p2
        try clear c4
        try clear c4b0
        try clear c4b1
        try clear c5
        try clear c5b0
        try clear c5b1
        try clear p6
        obtain ⟨x5_1, x6_1, rfl, HA, HK1, HO_5, HB⟩ := hrel
        cases gk with
        | zero => exact absurd HA.out (by simp [redoubtlaw10_times.l0])
        | succ k1 =>
          have H := HA.out
          clear HA
          simp only [redoubtlaw10_times.l0] at H
          by_cases c8 : x6_1 < (l0.length : Int)
          · rw [if_pos c8] at H
            have c8b0 : decide (x6_1 < (l0.length : Int)) = true := decide_eq_true c8
            clear c8
            have H' := Aside0.mk H
            clear H
            go_wp2
            go_loopg [7] k1 (fun kq v7 w' => ∃ (x5_2 : List Int) (x7_2 : Int), v7 = .int .i64 x7_2 ∧ Aside0 (redoubtlaw10_times.l1 kq l0 l1 x5_2 x6_1 x7_2 = some r) ∧ Aside0 (kq ≤ k1) ∧ Aside0 (Kd.R (Kd.int .i64) 3 w' w.heap.size (fun _ => True) v108 x5_2) ∧ Aside0 (Below w.heap.size w w'))
            case atStart => exact ⟨(x5_1), (0), (by first | rfl | (simp; done) | (simp [*]; done)), H', ⟨Nat.le_refl _⟩, ⟨by (with_reducible repeat (first | apply Kd.R_alloc | apply Kd.R_drewN | apply Kd.R_drew)); exact HO_5.out⟩, ⟨by repeat (first | (with_reducible first | exact HB.out | apply below_alloc | apply pw_below_drewN | apply below_drew1) | exact HB.out)⟩⟩
            case round =>
              clear H'
              try clear c1
              try clear c2
              try clear p2
              try clear c4
              try clear c4b0
              try clear c4b1
              try clear c5
              try clear c5b0
              try clear c5b1
              try clear p6
              try clear c8
              try clear c8b0
              try clear p2
              try clear p6
              obtain ⟨x5_2, x7_2, rfl, HA, HK2, HO_5, HB⟩ := hrel
              cases gk with
              | zero => exact absurd HA.out (by simp [redoubtlaw10_times.l1])
              | succ k2 =>
                have H := HA.out
                clear HA
                simp only [redoubtlaw10_times.l1] at H
                by_cases c9 : x7_2 < (l1.length : Int)
                · rw [if_pos c9] at H
                  have c9b0 : decide (x7_2 < (l1.length : Int)) = true := decide_eq_true c9
                  clear c9
                  obtain ⟨ji10, hji10⟩ : ∃ j_ : Int, (wrap64 (x6_1 + x7_2)) = j_ := ⟨_, rfl⟩
                  replace H : (if 0 ≤ (ji10) then (if (ji10) < (x5_2.length : Int) then (if 0 ≤ x6_1 then (if x6_1 < (l0.length : Int) then (if 0 ≤ x7_2 then ((some (x5_2.set ((ji10) : Int).toNat (wrap64 ((rd x5_2 (ji10)) + (wrap64 ((rd l0 x6_1) * (rd l1 x7_2))))) : List Int)).bind fun y113 => (if 0 ≤ (wrap64 ((ji10) + 1)) then (if (wrap64 ((ji10) + 1)) < (x5_2.length : Int) then ((some (y113.set ((wrap64 ((ji10) + 1)) : Int).toNat (wrap64 ((rd y113 (wrap64 ((ji10) + 1))) + (wrap64 (Int.tdiv (rd y113 (ji10)) 65536)))) : List Int)).bind fun y116 => (redoubtlaw10_times.l1 k2 l0 l1 (y116.set ((ji10) : Int).toNat (Int.tmod (rd y116 (ji10)) 65536)) x6_1 (wrap64 (x7_2 + 1)))) else (none)) else (none))) else (none)) else (none)) else (none)) else (none)) else (none)) = some r := by first | (rw [hji10] at H; exact H) | (simp only [hji10] at H ⊢; exact H)
                  have hji10w : (IntKind.i64.wrap (x6_1 + x7_2)) = ji10 := (i64_w _).trans hji10
                  by_cases c11 : 0 ≤ (ji10)
                  · rw [if_pos c11] at H
                    have c11b0 : decide (0 ≤ (ji10)) = true := decide_eq_true c11
                    clear c11
                    by_cases c12 : (ji10) < (x5_2.length : Int)
                    · rw [if_pos c12] at H
                      have c12b0 : decide ((ji10) < (x5_2.length : Int)) = true := decide_eq_true c12
                      clear c12
                      by_cases c13 : 0 ≤ x6_1
                      · rw [if_pos c13] at H
                        have c13b0 : decide (0 ≤ x6_1) = true := decide_eq_true c13
                        clear c13
                        by_cases c14 : x6_1 < (l0.length : Int)
                        · rw [if_pos c14] at H
                          have c14b0 : decide (x6_1 < (l0.length : Int)) = true := decide_eq_true c14
                          clear c14
                          by_cases c15 : 0 ≤ x7_2
                          · rw [if_pos c15] at H
                            have c15b0 : decide (0 ≤ x7_2) = true := decide_eq_true c15
                            clear c15
                            obtain ⟨y113, hy113⟩ : ∃ y_ : List Int, y_ = (x5_2.set ((ji10) : Int).toNat (wrap64 ((rd x5_2 (ji10)) + (wrap64 ((rd l0 x6_1) * (rd l1 x7_2)))))) := ⟨_, rfl⟩
                            replace H : (if 0 ≤ (wrap64 ((ji10) + 1)) then (if (wrap64 ((ji10) + 1)) < (x5_2.length : Int) then ((some (y113.set ((wrap64 ((ji10) + 1)) : Int).toNat (wrap64 ((rd y113 (wrap64 ((ji10) + 1))) + (wrap64 (Int.tdiv (rd y113 (ji10)) 65536)))) : List Int)).bind fun y116 => (redoubtlaw10_times.l1 k2 l0 l1 (y116.set ((ji10) : Int).toNat (Int.tmod (rd y116 (ji10)) 65536)) x6_1 (wrap64 (x7_2 + 1)))) else (none)) else (none)) = some r := by first | (rw [hy113]; with_reducible exact H) | (have H2_ := (Option.bind_some _ _).symm.trans H; rw [hy113]; with_reducible exact H2_) | (have H2_ := (Option.bind_some _ _).symm.trans H; with_reducible exact H2_) | with_reducible exact H | (rw [hy113]; exact H) | exact H
                            have Ny113 := Aside0.mk hy113
                            clear hy113
                            obtain ⟨ji17, hji17⟩ : ∃ j_ : Int, (wrap64 ((ji10) + 1)) = j_ := ⟨_, rfl⟩
                            replace H : (if 0 ≤ (ji17) then (if (ji17) < (x5_2.length : Int) then ((some (y113.set ((ji17) : Int).toNat (wrap64 ((rd y113 (ji17)) + (wrap64 (Int.tdiv (rd y113 (ji10)) 65536)))) : List Int)).bind fun y116 => (redoubtlaw10_times.l1 k2 l0 l1 (y116.set ((ji10) : Int).toNat (Int.tmod (rd y116 (ji10)) 65536)) x6_1 (wrap64 (x7_2 + 1)))) else (none)) else (none)) = some r := by first | (rw [hji17] at H; exact H) | (simp only [hji17] at H ⊢; exact H)
                            have hji17w : (IntKind.i64.wrap ((ji10) + 1)) = ji17 := (i64_w _).trans hji17
                            by_cases c18 : 0 ≤ (ji17)
                            · rw [if_pos c18] at H
                              have c18b0 : decide (0 ≤ (ji17)) = true := decide_eq_true c18
                              clear c18
                              by_cases c19 : (ji17) < (x5_2.length : Int)
                              · rw [if_pos c19] at H
                                have c19b0 : decide ((ji17) < (x5_2.length : Int)) = true := decide_eq_true c19
                                clear c19
                                obtain ⟨y116, hy116⟩ : ∃ y_ : List Int, y_ = (y113.set ((ji17) : Int).toNat (wrap64 ((rd y113 (ji17)) + (wrap64 (Int.tdiv (rd y113 (ji10)) 65536))))) := ⟨_, rfl⟩
                                replace H : (redoubtlaw10_times.l1 k2 l0 l1 (y116.set ((ji10) : Int).toNat (Int.tmod (rd y116 (ji10)) 65536)) x6_1 (wrap64 (x7_2 + 1))) = some r := by first | (rw [hy116]; with_reducible exact H) | (have H2_ := (Option.bind_some _ _).symm.trans H; rw [hy116]; with_reducible exact H2_) | (have H2_ := (Option.bind_some _ _).symm.trans H; with_reducible exact H2_) | with_reducible exact H | (rw [hy116]; exact H) | exact H
                                have Ny116 := Aside0.mk hy116
                                clear hy116
                                obtain ⟨y118, hy118⟩ : ∃ y_ : List Int, y_ = (y116.set ((ji10) : Int).toNat (Int.tmod (rd y116 (ji10)) 65536)) := ⟨_, rfl⟩
                                replace H : (redoubtlaw10_times.l1 k2 l0 l1 y118 x6_1 (wrap64 (x7_2 + 1))) = some r := by first | (rw [hy118]; with_reducible exact H) | (have H2_ := (Option.bind_some _ _).symm.trans H; rw [hy118]; with_reducible exact H2_) | (have H2_ := (Option.bind_some _ _).symm.trans H; with_reducible exact H2_) | with_reducible exact H | (rw [hy118]; exact H) | exact H
                                have Ny118 := Aside0.mk hy118
                                clear hy118
                                have H' := Aside0.mk H
                                clear H
                                try go_wp2
                                have n0_ := Aside0.mk (Kd.R_drew HO_5.out)
                                have n1_ := Aside0.mk (below_drew1 HB.out)
                                clear HO_5
                                clear HB
                                have HO_5 := n0_
                                have HB := n1_
                                clear n0_ n1_
                                obtain ⟨Ao23, co23, eo23⟩ := Kd.R_slice HO_5.out
                                (first | subst eo23 | (injection eo23 with f1_ f2_ f3_; have f4_ := f1_.symm; have f5_ := f3_.symm; clear f1_ f2_ f3_; subst f4_; subst f5_))
                                have p110 : 0 ≤ ((ji10) : Int) := of_decide_eq_true (by first | (with_reducible assumption) | assumption)
                                have q110 : (ji10) < (x5_2.length : Int) := of_decide_eq_true (by first | (with_reducible assumption) | assumption)
                                obtain ⟨ad110, e110, hx110_0⟩ := Kd.at_int (Kd.R_reads' HO_5.out).2.2 (ji10) p110 q110
                                cases e110
                                replace p110 := eq_true p110
                                replace q110 := eq_true q110
                                have p111 : 0 ≤ (x6_1 : Int) := of_decide_eq_true (by first | (with_reducible assumption) | assumption)
                                have q111 : x6_1 < (l0.length : Int) := of_decide_eq_true (by first | (with_reducible assumption) | assumption)
                                obtain ⟨ad111, e111, hx111_0⟩ := Kd.at_int HR0.out x6_1 p111 q111
                                have hw111_0 := hx111_0
                                cases e111
                                replace hx111_0 := (HB.out.cell (World.block_lt_of_cell? w _ hx111_0)).trans hx111_0
                                replace p111 := eq_true p111
                                replace q111 := eq_true q111
                                have p112 : 0 ≤ (x7_2 : Int) := of_decide_eq_true (by first | (with_reducible assumption) | assumption)
                                have q112 : x7_2 < (l1.length : Int) := of_decide_eq_true (by first | (with_reducible assumption) | assumption)
                                obtain ⟨ad112, e112, hx112_0⟩ := Kd.at_int HR1.out x7_2 p112 q112
                                have hw112_0 := hx112_0
                                cases e112
                                replace hx112_0 := (HB.out.cell (World.block_lt_of_cell? w _ hx112_0)).trans hx112_0
                                replace p112 := eq_true p112
                                replace q112 := eq_true q112
                                have p16 : 0 ≤ ((ji10) : Int) := of_decide_eq_true (by first | (with_reducible assumption) | assumption)
                                have q16 : ((ji10) : Int) < ((x5_2.length : Int) : Int) := of_decide_eq_true (by first | (with_reducible assumption) | assumption)
                                obtain ⟨go16, co16, eo16, gb16, gl16, cl16, HG16⟩ := Kd.R_form HO_5.out (by omega)
                                (first | cases eo16 | (injection eo16 with ea_ en_ ec_; (first | subst ea_ | (injection ea_ with ea_; subst ea_)); subst ec_; clear en_))
                                have GB16 := Aside0.mk gb16
                                have GG16 := Aside0.mk HG16
                                clear gb16 gl16 HG16
                                (first | simp only [add_plain] at hx110_0 | skip)
                                obtain ⟨hx16_0, hf16_0⟩ := Kd.R_celln 0 HO_5.out ((ji10) : Int) p16 q16
                                replace p16 := eq_true p16
                                replace q16 := eq_true q16
                                have HP24 := Kd.R_putn HO_5.out ((ji10) : Int) (wrap64 ((rd x5_2 (ji10)) + (wrap64 ((rd l0 x6_1) * (rd l1 x7_2)))))
                                rw [← Ny113.out] at HP24
                                have HQ24 := Aside0.mk HP24
                                clear HP24
                                refine start_ (n := 22) (S := fun w' => w'.cell? ⟨go16, ((ji10)).toNat, none⟩ = some (.int .i64 (rd x5_2 (ji10))) ∧ w'.cell? (ad111.add (x6_1).toNat) = some (.int .i64 (rd l0 x6_1)) ∧ w'.cell? (ad112.add (x7_2).toNat) = some (.int .i64 (rd l1 x7_2))) (ds := [21]) #[false, false, false, false, false, false, false, false, false, false, false, false, false, false, false, false, false, false, false, false, false, false] (by kernel_rfl) rfl rfl ⟨hx110_0, ((HB.out.cell (World.block_lt_of_cell? w _ hw111_0)).trans hw111_0), ((HB.out.cell (World.block_lt_of_cell? w _ hw112_0)).trans hw112_0)⟩ (fun hHeld => ?_); refine with_tabW redoubtlaw10_times.tab8 redoubtlaw10_times.bits8 (fun HT_ HW_ => ?_)
                                generalize wr.drew = w22 at HO_5 HB GG16 HQ24 hf16_0 hx110_0 hx111_0 hx112_0 hx16_0 hHeld ⊢
                                refine pure_ (i := 0) (N := some 28) (v := ?_) (a' := ?_) #[true, false, false, false, false, false, false, false, false, false, false, false, false, false, false, false, false, false, false, false, false, false] rfl rfl (any_of HT_.out (by kernel_rfl)) (fun _ _ _ h => h) (Or.inl ⟨by rfl, ?_⟩) ?_ ?_
                                rotate_left
                                · intro w'
                                  go_simp
                                  with_reducible rfl
                                rotate_left
                                · simp only [Act.put, List.setIfInBounds_toArray, List.set_cons_zero, List.set_cons_succ, i64_w, i32_w]
                                  rfl
                                refine pure_ (i := 1) (N := some 29) (v := ?_) (a' := ?_) #[true, true, false, false, false, false, false, false, false, false, false, false, false, false, false, false, false, false, false, false, false, false] rfl rfl (any_of HT_.out (by kernel_rfl)) (fun _ _ _ h => h) (Or.inl ⟨by rfl, ?_⟩) ?_ ?_
                                rotate_left
                                · intro w'
                                  go_simp
                                  with_reducible rfl
                                rotate_left
                                · simp only [Act.put, List.setIfInBounds_toArray, List.set_cons_zero, List.set_cons_succ, i64_w, i32_w]
                                  rfl
                                refine pure_ (i := 2) (N := some 30) (v := ?_) (a' := ?_) #[true, true, true, false, false, false, false, false, false, false, false, false, false, false, false, false, false, false, false, false, false, false] rfl rfl (any_of HT_.out (by kernel_rfl)) (fun _ _ _ h => h) (Or.inl ⟨by rfl, ?_⟩) ?_ ?_
                                rotate_left
                                · intro w'
                                  go_simp
                                  with_reducible rfl
                                rotate_left
                                · simp only [Act.put, List.setIfInBounds_toArray, List.set_cons_zero, List.set_cons_succ, i64_w, i32_w]
                                  rfl
                                refine pure_ (i := 3) (N := some 31) (v := ?_) (a' := ?_) #[true, true, true, true, false, false, false, false, false, false, false, false, false, false, false, false, false, false, false, false, false, false] rfl rfl (any_of HT_.out (by kernel_rfl)) (fun _ _ _ h => h) (Or.inl ⟨by rfl, ?_⟩) ?_ ?_
                                rotate_left
                                · intro w'
                                  go_simp
                                  with_reducible rfl
                                rotate_left
                                · simp only [Act.put, List.setIfInBounds_toArray, List.set_cons_zero, List.set_cons_succ, i64_w, i32_w]
                                  rfl
                                refine pure_ (i := 4) (N := some 32) (v := ?_) (a' := ?_) #[true, true, true, true, true, false, false, false, false, false, false, false, false, false, false, false, false, false, false, false, false, false] rfl rfl (any_of HT_.out (by kernel_rfl)) (fun _ _ _ h => h) (Or.inl ⟨by rfl, ?_⟩) ?_ ?_
                                rotate_left
                                · intro w'
                                  go_simp
                                  with_reducible rfl
                                rotate_left
                                · simp only [Act.put, List.setIfInBounds_toArray, List.set_cons_zero, List.set_cons_succ, i64_w, i32_w]
                                  rfl
                                refine pure_ (i := 5) (N := some 33) (v := ?_) (a' := ?_) #[true, true, true, true, true, true, false, false, false, false, false, false, false, false, false, false, false, false, false, false, false, false] rfl rfl (any_of HT_.out (by kernel_rfl)) (fun _ _ _ h => h) (Or.inl ⟨by rfl, ?_⟩) ?_ ?_
                                rotate_left
                                · intro w'
                                  go_simp
                                  with_reducible rfl
                                rotate_left
                                · simp only [Act.put, List.setIfInBounds_toArray, List.set_cons_zero, List.set_cons_succ, i64_w, i32_w]
                                  rfl
                                refine pure_ (i := 6) (N := some 34) (v := ?_) (a' := ?_) #[true, true, true, true, true, true, true, false, false, false, false, false, false, false, false, false, false, false, false, false, false, false] rfl rfl (any_of HT_.out (by kernel_rfl)) (fun _ _ _ h => h) (Or.inl ⟨by rfl, ?_⟩) ?_ ?_
                                rotate_left
                                · intro w'
                                  go_simp
                                  with_reducible rfl
                                rotate_left
                                · simp only [Act.put, List.setIfInBounds_toArray, List.set_cons_zero, List.set_cons_succ, i64_w, i32_w]
                                  rfl
                                refine pure_ (i := 7) (N := some 35) (v := ?_) (a' := ?_) #[true, true, true, true, true, true, true, true, false, false, false, false, false, false, false, false, false, false, false, false, false, false] rfl rfl (any_of HT_.out (by kernel_rfl)) (fun _ _ _ h => h) (Or.inl ⟨by rfl, ?_⟩) ?_ ?_
                                rotate_left
                                · intro w'
                                  go_simp
                                  with_reducible rfl
                                rotate_left
                                · simp only [Act.put, List.setIfInBounds_toArray, List.set_cons_zero, List.set_cons_succ, i64_w, i32_w]
                                  rfl
                                refine pure_ (i := 8) (N := some 36) (v := ?_) (a' := ?_) #[true, true, true, true, true, true, true, true, true, false, false, false, false, false, false, false, false, false, false, false, false, false] rfl rfl (any_of HT_.out (by kernel_rfl)) (fun _ _ _ h => h) (Or.inl ⟨by rfl, ?_⟩) ?_ ?_
                                rotate_left
                                · intro w'
                                  go_simp
                                  with_reducible rfl
                                rotate_left
                                · simp only [Act.put, List.setIfInBounds_toArray, List.set_cons_zero, List.set_cons_succ, i64_w, i32_w]
                                  rfl
                                refine pure_ (i := 10) (N := some 38) (v := ?_) (a' := ?_) #[true, true, true, true, true, true, true, true, true, false, true, false, false, false, false, false, false, false, false, false, false, false] rfl rfl (any_of HT_.out (by kernel_rfl)) (fun _ _ _ h => h) (Or.inl ⟨by rfl, ?_⟩) ?_ ?_
                                rotate_left
                                · intro w'
                                  go_simp
                                  with_reducible rfl
                                rotate_left
                                · simp only [Act.put, List.setIfInBounds_toArray, List.set_cons_zero, List.set_cons_succ, i64_w, i32_w]
                                  rfl
                                refine pure_ (i := 11) (N := some 39) (v := ?_) (a' := ?_) #[true, true, true, true, true, true, true, true, true, false, true, true, false, false, false, false, false, false, false, false, false, false] rfl rfl (any_of HT_.out (by kernel_rfl)) (fun _ _ _ h => h) (Or.inl ⟨by rfl, ?_⟩) ?_ ?_
                                rotate_left
                                · intro w'
                                  go_simp
                                  with_reducible rfl
                                rotate_left
                                · simp only [Act.put, List.setIfInBounds_toArray, List.set_cons_zero, List.set_cons_succ, i64_w, i32_w]
                                  rfl
                                refine pure_ (i := 12) (N := some 40) (v := ?_) (a' := ?_) #[true, true, true, true, true, true, true, true, true, false, true, true, true, false, false, false, false, false, false, false, false, false] rfl rfl (any_of HT_.out (by kernel_rfl)) (fun _ _ _ h => h) (Or.inl ⟨by rfl, ?_⟩) ?_ ?_
                                rotate_left
                                · intro w'
                                  go_simp
                                  with_reducible rfl
                                rotate_left
                                · simp only [Act.put, List.setIfInBounds_toArray, List.set_cons_zero, List.set_cons_succ, i64_w, i32_w]
                                  rfl
                                refine pure_ (i := 14) (N := some 42) (v := ?_) (a' := ?_) #[true, true, true, true, true, true, true, true, true, false, true, true, true, false, true, false, false, false, false, false, false, false] rfl rfl (any_of HT_.out (by kernel_rfl)) (fun _ _ _ h => h) (Or.inl ⟨by rfl, ?_⟩) ?_ ?_
                                rotate_left
                                · intro w'
                                  go_simp
                                  with_reducible rfl
                                rotate_left
                                · simp only [Act.put, List.setIfInBounds_toArray, List.set_cons_zero, List.set_cons_succ, i64_w, i32_w]
                                  rfl
                                refine pure_ (i := 15) (N := some 43) (v := ?_) (a' := ?_) #[true, true, true, true, true, true, true, true, true, false, true, true, true, false, true, true, false, false, false, false, false, false] rfl rfl (any_of HT_.out (by kernel_rfl)) (fun _ _ _ h => h) (Or.inl ⟨by rfl, ?_⟩) ?_ ?_
                                rotate_left
                                · intro w'
                                  go_simp
                                  with_reducible rfl
                                rotate_left
                                · simp only [Act.put, List.setIfInBounds_toArray, List.set_cons_zero, List.set_cons_succ, i64_w, i32_w]
                                  rfl
                                refine pure_ (i := 16) (N := some 44) (v := ?_) (a' := ?_) #[true, true, true, true, true, true, true, true, true, false, true, true, true, false, true, true, true, false, false, false, false, false] rfl rfl (any_of HT_.out (by kernel_rfl)) (fun _ _ _ h => h) (Or.inl ⟨by rfl, ?_⟩) ?_ ?_
                                rotate_left
                                · intro w'
                                  go_simp
                                  with_reducible rfl
                                rotate_left
                                · simp only [Act.put, List.setIfInBounds_toArray, List.set_cons_zero, List.set_cons_succ, i64_w, i32_w]
                                  rfl
                                refine take_ (i := 9) (N := some 37) (v := ?_) (a' := ?_) #[true, true, true, true, true, true, true, true, true, true, true, true, true, false, true, true, true, false, false, false, false, false] rfl rfl (take_ofW HT_.out HW_.out (by kernel_rfl)) (fun _ _ _ h => h) (Or.inl ⟨by rfl, ?_⟩) hHeld ?_ ?_
                                rotate_left
                                · rintro w' ⟨s0, s1, s2⟩
                                  go_simp
                                  with_reducible rfl
                                rotate_left
                                · simp only [Act.put, List.setIfInBounds_toArray, List.set_cons_zero, List.set_cons_succ, i64_w, i32_w]
                                  rfl
                                refine take_ (i := 13) (N := some 41) (v := ?_) (a' := ?_) #[true, true, true, true, true, true, true, true, true, true, true, true, true, true, true, true, true, false, false, false, false, false] rfl rfl (take_ofW HT_.out HW_.out (by kernel_rfl)) (fun _ _ _ h => h) (Or.inl ⟨by rfl, ?_⟩) hHeld ?_ ?_
                                rotate_left
                                · rintro w' ⟨s0, s1, s2⟩
                                  go_simp
                                  with_reducible rfl
                                rotate_left
                                · simp only [Act.put, List.setIfInBounds_toArray, List.set_cons_zero, List.set_cons_succ, i64_w, i32_w]
                                  rfl
                                refine take_ (i := 17) (N := some 45) (v := ?_) (a' := ?_) #[true, true, true, true, true, true, true, true, true, true, true, true, true, true, true, true, true, true, false, false, false, false] rfl rfl (take_ofW HT_.out HW_.out (by kernel_rfl)) (fun _ _ _ h => h) (Or.inl ⟨by rfl, ?_⟩) hHeld ?_ ?_
                                rotate_left
                                · rintro w' ⟨s0, s1, s2⟩
                                  go_simp
                                  with_reducible rfl
                                rotate_left
                                · simp only [Act.put, List.setIfInBounds_toArray, List.set_cons_zero, List.set_cons_succ, i64_w, i32_w]
                                  rfl
                                refine pure_ (i := 18) (N := some 46) (v := ?_) (a' := ?_) #[true, true, true, true, true, true, true, true, true, true, true, true, true, true, true, true, true, true, true, false, false, false] rfl rfl (any_of HT_.out (by kernel_rfl)) (fun _ _ _ h => h) (Or.inl ⟨by rfl, ?_⟩) ?_ ?_
                                rotate_left
                                · intro w'
                                  go_simp
                                  with_reducible rfl
                                rotate_left
                                · simp only [Act.put, List.setIfInBounds_toArray, List.set_cons_zero, List.set_cons_succ, i64_w, i32_w]
                                  rfl
                                refine pure_ (i := 19) (N := some 47) (v := ?_) (a' := ?_) #[true, true, true, true, true, true, true, true, true, true, true, true, true, true, true, true, true, true, true, true, false, false] rfl rfl (any_of HT_.out (by kernel_rfl)) (fun _ _ _ h => h) (Or.inl ⟨by rfl, ?_⟩) ?_ ?_
                                rotate_left
                                · intro w'
                                  go_simp
                                  with_reducible rfl
                                rotate_left
                                · simp only [Act.put, List.setIfInBounds_toArray, List.set_cons_zero, List.set_cons_succ, i64_w, i32_w]
                                  rfl
                                refine pure_ (i := 20) (N := some 48) (v := ?_) (a' := ?_) #[true, true, true, true, true, true, true, true, true, true, true, true, true, true, true, true, true, true, true, true, true, false] rfl rfl (any_of HT_.out (by kernel_rfl)) (fun _ _ _ h => h) (Or.inl ⟨by rfl, ?_⟩) ?_ ?_
                                rotate_left
                                · intro w'
                                  go_simp
                                  with_reducible rfl
                                rotate_left
                                · simp only [Act.put, List.setIfInBounds_toArray, List.set_cons_zero, List.set_cons_succ, i64_w, i32_w]
                                  rfl
                                refine last_ (i := 21) (N := none) #[true, true, true, true, true, true, true, true, true, true, true, true, true, true, true, true, true, true, true, true, true, true] rfl rfl (one_of HT_.out (by kernel_rfl)) (by decide) (fun K hK => ?_)
                                refine skip_ (w1 := ?_) (by rfl) rfl ?_ ?_
                                rotate_left
                                · go_simp
                                  rfl
                                refine hK.out _ _ ?_
                                clear hK K
                                refine done_ (done_of HT_.out (by kernel_rfl)) ?_
                                try go_wp2
                                have n0_ : Aside0 (Kd.R (Kd.int .i64) 3 (w22.setCell ⟨go16, ((ji10) : Int).toNat, none⟩ (.int .i64 (wrap64 ((rd x5_2 (ji10)) + (wrap64 ((rd l0 x6_1) * (rd l1 x7_2))))))) w.heap.size (fun _ => True) (.slice (some ⟨go16, 0, none⟩) x5_2.length co23) y113) := ⟨by (with_reducible repeat (first | apply Kd.R_alloc | apply Kd.R_drewN | apply Kd.R_drew)); exact HQ24.out⟩
                                have n1_ : Aside0 (Below w.heap.size w (w22.setCell ⟨go16, ((ji10) : Int).toNat, none⟩ (.int .i64 (wrap64 ((rd x5_2 (ji10)) + (wrap64 ((rd l0 x6_1) * (rd l1 x7_2)))))))) := ⟨by repeat (first | (with_reducible first | exact HB.out | apply below_alloc | apply pw_below_drewN | apply below_drew1 | refine below_set ?_ GB16.out) | exact HB.out)⟩
                                (try clear HO_5)
                                (try clear HB)
                                generalize (w22.setCell ⟨go16, ((ji10) : Int).toNat, none⟩ (.int .i64 (wrap64 ((rd x5_2 (ji10)) + (wrap64 ((rd l0 x6_1) * (rd l1 x7_2))))))) = w25 at n0_ n1_ ⊢
                                have HO_5 := n0_
                                have HB := n1_
                                clear n0_ n1_
                                have n0_ := Aside0.mk (Kd.R_drew HO_5.out)
                                have n1_ := Aside0.mk (below_drew1 HB.out)
                                clear HO_5
                                clear HB
                                have HO_5 := n0_
                                have HB := n1_
                                clear n0_ n1_
                                have p114 : 0 ≤ ((ji17) : Int) := of_decide_eq_true (by first | (with_reducible assumption) | assumption)
                                have q114 : (ji17) < (y113.length : Int) := (by have h_ : ((ji17) : Int) < ((x5_2.length : Int) : Int) := of_decide_eq_true (by first | (with_reducible assumption) | assumption); first | (have e_ := (Kd.R_reads' HO_5.out).1; omega) | simpa only [Ny113.out, List.length_set] using h_)
                                have ql114 : (((ji17) : Int) < ((x5_2.length : Int) : Int)) = True := eq_true (of_decide_eq_true (by first | (with_reducible assumption) | assumption))
                                obtain ⟨ad114, e114, hx114_0⟩ := Kd.at_int (Kd.R_reads' HO_5.out).2.2 (ji17) p114 q114
                                obtain rfl : (⟨go16, 0, none⟩ : Addr) = ad114 := (by injection e114)
                                (first | simp only [add_plain] at hx114_0 | simp only [add_at] at hx114_0 | simp only [Addr.add, Nat.zero_add] at hx114_0 | skip)
                                replace p114 := eq_true p114
                                replace q114 := eq_true q114
                                have p115 : 0 ≤ ((ji10) : Int) := of_decide_eq_true (by first | (with_reducible assumption) | assumption)
                                have q115 : (ji10) < (y113.length : Int) := (by have h_ : ((ji10) : Int) < ((x5_2.length : Int) : Int) := of_decide_eq_true (by first | (with_reducible assumption) | assumption); first | (have e_ := (Kd.R_reads' HO_5.out).1; omega) | simpa only [Ny113.out, List.length_set] using h_)
                                have ql115 : (((ji10) : Int) < ((x5_2.length : Int) : Int)) = True := eq_true (of_decide_eq_true (by first | (with_reducible assumption) | assumption))
                                obtain ⟨ad115, e115, hx115_0⟩ := Kd.at_int (Kd.R_reads' HO_5.out).2.2 (ji10) p115 q115
                                obtain rfl : (⟨go16, 0, none⟩ : Addr) = ad115 := (by injection e115)
                                (first | simp only [add_plain] at hx115_0 | simp only [add_at] at hx115_0 | simp only [Addr.add, Nat.zero_add] at hx115_0 | skip)
                                replace p115 := eq_true p115
                                replace q115 := eq_true q115
                                have p20 : 0 ≤ ((ji17) : Int) := of_decide_eq_true (by first | (with_reducible assumption) | assumption)
                                have q20 : ((ji17) : Int) < ((x5_2.length : Int) : Int) := of_decide_eq_true (by first | (with_reducible assumption) | assumption)
                                obtain ⟨hx20_0, hf20_0⟩ := Kd.R_celln 0 HO_5.out ((ji17) : Int) p20 q20
                                replace p20 := eq_true p20
                                replace q20 := eq_true q20
                                have HP27 := Kd.R_putn HO_5.out ((ji17) : Int) (wrap64 ((rd y113 (ji17)) + (wrap64 (Int.tdiv (rd y113 (ji10)) 65536))))
                                rw [← Ny116.out] at HP27
                                have HQ27 := Aside0.mk HP27
                                clear HP27
                                refine start_ (n := 22) (S := fun w' => w'.cell? ⟨go16, ((ji17)).toNat, none⟩ = some (.int .i64 (rd y113 (ji17))) ∧ w'.cell? ⟨go16, ((ji10)).toNat, none⟩ = some (.int .i64 (rd y113 (ji10)))) (ds := [21]) #[false, false, false, false, false, false, false, false, false, false, false, false, false, false, false, false, false, false, false, false, false, false] (by kernel_rfl) rfl rfl ⟨hx114_0, hx115_0⟩ (fun hHeld => ?_); refine with_tabW redoubtlaw10_times.tab9 redoubtlaw10_times.bits9 (fun HT_ HW_ => ?_)
                                generalize w25.drew = w26 at HO_5 HB HQ24 HQ27 hf20_0 hx114_0 hx115_0 hx20_0 hHeld ⊢
                                refine pure_ (i := 0) (N := some 49) (v := ?_) (a' := ?_) #[true, false, false, false, false, false, false, false, false, false, false, false, false, false, false, false, false, false, false, false, false, false] rfl rfl (any_of HT_.out (by kernel_rfl)) (fun _ _ _ h => h) (Or.inl ⟨by rfl, ?_⟩) ?_ ?_
                                rotate_left
                                · intro w'
                                  go_simp
                                  with_reducible rfl
                                rotate_left
                                · simp only [Act.put, List.setIfInBounds_toArray, List.set_cons_zero, List.set_cons_succ, i64_w, i32_w]
                                  rfl
                                refine pure_ (i := 1) (N := some 50) (v := ?_) (a' := ?_) #[true, true, false, false, false, false, false, false, false, false, false, false, false, false, false, false, false, false, false, false, false, false] rfl rfl (any_of HT_.out (by kernel_rfl)) (fun _ _ _ h => h) (Or.inl ⟨by rfl, ?_⟩) ?_ ?_
                                rotate_left
                                · intro w'
                                  go_simp
                                  with_reducible rfl
                                rotate_left
                                · simp only [Act.put, List.setIfInBounds_toArray, List.set_cons_zero, List.set_cons_succ, i64_w, i32_w]
                                  rfl
                                refine pure_ (i := 2) (N := some 51) (v := ?_) (a' := ?_) #[true, true, true, false, false, false, false, false, false, false, false, false, false, false, false, false, false, false, false, false, false, false] rfl rfl (any_of HT_.out (by kernel_rfl)) (fun _ _ _ h => h) (Or.inl ⟨by rfl, ?_⟩) ?_ ?_
                                rotate_left
                                · intro w'
                                  go_simp
                                  with_reducible rfl
                                rotate_left
                                · simp only [Act.put, List.setIfInBounds_toArray, List.set_cons_zero, List.set_cons_succ, i64_w, i32_w]
                                  rfl
                                refine pure_ (i := 3) (N := some 52) (v := ?_) (a' := ?_) #[true, true, true, true, false, false, false, false, false, false, false, false, false, false, false, false, false, false, false, false, false, false] rfl rfl (any_of HT_.out (by kernel_rfl)) (fun _ _ _ h => h) (Or.inl ⟨by rfl, ?_⟩) ?_ ?_
                                rotate_left
                                · intro w'
                                  go_simp
                                  with_reducible rfl
                                rotate_left
                                · simp only [Act.put, List.setIfInBounds_toArray, List.set_cons_zero, List.set_cons_succ, i64_w, i32_w]
                                  rfl
                                refine pure_ (i := 4) (N := some 53) (v := ?_) (a' := ?_) #[true, true, true, true, true, false, false, false, false, false, false, false, false, false, false, false, false, false, false, false, false, false] rfl rfl (any_of HT_.out (by kernel_rfl)) (fun _ _ _ h => h) (Or.inl ⟨by rfl, ?_⟩) ?_ ?_
                                rotate_left
                                · intro w'
                                  go_simp
                                  with_reducible rfl
                                rotate_left
                                · simp only [Act.put, List.setIfInBounds_toArray, List.set_cons_zero, List.set_cons_succ, i64_w, i32_w]
                                  rfl
                                refine pure_ (i := 5) (N := some 54) (v := ?_) (a' := ?_) #[true, true, true, true, true, true, false, false, false, false, false, false, false, false, false, false, false, false, false, false, false, false] rfl rfl (any_of HT_.out (by kernel_rfl)) (fun _ _ _ h => h) (Or.inl ⟨by rfl, ?_⟩) ?_ ?_
                                rotate_left
                                · intro w'
                                  go_simp
                                  with_reducible rfl
                                rotate_left
                                · simp only [Act.put, List.setIfInBounds_toArray, List.set_cons_zero, List.set_cons_succ, i64_w, i32_w]
                                  rfl
                                refine pure_ (i := 6) (N := some 55) (v := ?_) (a' := ?_) #[true, true, true, true, true, true, true, false, false, false, false, false, false, false, false, false, false, false, false, false, false, false] rfl rfl (any_of HT_.out (by kernel_rfl)) (fun _ _ _ h => h) (Or.inl ⟨by rfl, ?_⟩) ?_ ?_
                                rotate_left
                                · intro w'
                                  go_simp
                                  with_reducible rfl
                                rotate_left
                                · simp only [Act.put, List.setIfInBounds_toArray, List.set_cons_zero, List.set_cons_succ, i64_w, i32_w]
                                  rfl
                                refine pure_ (i := 7) (N := some 56) (v := ?_) (a' := ?_) #[true, true, true, true, true, true, true, true, false, false, false, false, false, false, false, false, false, false, false, false, false, false] rfl rfl (any_of HT_.out (by kernel_rfl)) (fun _ _ _ h => h) (Or.inl ⟨by rfl, ?_⟩) ?_ ?_
                                rotate_left
                                · intro w'
                                  go_simp
                                  with_reducible rfl
                                rotate_left
                                · simp only [Act.put, List.setIfInBounds_toArray, List.set_cons_zero, List.set_cons_succ, i64_w, i32_w]
                                  rfl
                                refine pure_ (i := 8) (N := some 57) (v := ?_) (a' := ?_) #[true, true, true, true, true, true, true, true, true, false, false, false, false, false, false, false, false, false, false, false, false, false] rfl rfl (any_of HT_.out (by kernel_rfl)) (fun _ _ _ h => h) (Or.inl ⟨by rfl, ?_⟩) ?_ ?_
                                rotate_left
                                · intro w'
                                  go_simp
                                  with_reducible rfl
                                rotate_left
                                · simp only [Act.put, List.setIfInBounds_toArray, List.set_cons_zero, List.set_cons_succ, i64_w, i32_w]
                                  rfl
                                refine pure_ (i := 9) (N := some 58) (v := ?_) (a' := ?_) #[true, true, true, true, true, true, true, true, true, true, false, false, false, false, false, false, false, false, false, false, false, false] rfl rfl (any_of HT_.out (by kernel_rfl)) (fun _ _ _ h => h) (Or.inl ⟨by rfl, ?_⟩) ?_ ?_
                                rotate_left
                                · intro w'
                                  go_simp
                                  with_reducible rfl
                                rotate_left
                                · simp only [Act.put, List.setIfInBounds_toArray, List.set_cons_zero, List.set_cons_succ, i64_w, i32_w]
                                  rfl
                                refine pure_ (i := 10) (N := some 59) (v := ?_) (a' := ?_) #[true, true, true, true, true, true, true, true, true, true, true, false, false, false, false, false, false, false, false, false, false, false] rfl rfl (any_of HT_.out (by kernel_rfl)) (fun _ _ _ h => h) (Or.inl ⟨by rfl, ?_⟩) ?_ ?_
                                rotate_left
                                · intro w'
                                  go_simp
                                  with_reducible rfl
                                rotate_left
                                · simp only [Act.put, List.setIfInBounds_toArray, List.set_cons_zero, List.set_cons_succ, i64_w, i32_w]
                                  rfl
                                refine pure_ (i := 12) (N := some 61) (v := ?_) (a' := ?_) #[true, true, true, true, true, true, true, true, true, true, true, false, true, false, false, false, false, false, false, false, false, false] rfl rfl (any_of HT_.out (by kernel_rfl)) (fun _ _ _ h => h) (Or.inl ⟨by rfl, ?_⟩) ?_ ?_
                                rotate_left
                                · intro w'
                                  go_simp
                                  with_reducible rfl
                                rotate_left
                                · simp only [Act.put, List.setIfInBounds_toArray, List.set_cons_zero, List.set_cons_succ, i64_w, i32_w]
                                  rfl
                                refine pure_ (i := 13) (N := some 62) (v := ?_) (a' := ?_) #[true, true, true, true, true, true, true, true, true, true, true, false, true, true, false, false, false, false, false, false, false, false] rfl rfl (any_of HT_.out (by kernel_rfl)) (fun _ _ _ h => h) (Or.inl ⟨by rfl, ?_⟩) ?_ ?_
                                rotate_left
                                · intro w'
                                  go_simp
                                  with_reducible rfl
                                rotate_left
                                · simp only [Act.put, List.setIfInBounds_toArray, List.set_cons_zero, List.set_cons_succ, i64_w, i32_w]
                                  rfl
                                refine pure_ (i := 14) (N := some 63) (v := ?_) (a' := ?_) #[true, true, true, true, true, true, true, true, true, true, true, false, true, true, true, false, false, false, false, false, false, false] rfl rfl (any_of HT_.out (by kernel_rfl)) (fun _ _ _ h => h) (Or.inl ⟨by rfl, ?_⟩) ?_ ?_
                                rotate_left
                                · intro w'
                                  go_simp
                                  with_reducible rfl
                                rotate_left
                                · simp only [Act.put, List.setIfInBounds_toArray, List.set_cons_zero, List.set_cons_succ, i64_w, i32_w]
                                  rfl
                                refine pure_ (i := 15) (N := some 64) (v := ?_) (a' := ?_) #[true, true, true, true, true, true, true, true, true, true, true, false, true, true, true, true, false, false, false, false, false, false] rfl rfl (any_of HT_.out (by kernel_rfl)) (fun _ _ _ h => h) (Or.inl ⟨by rfl, ?_⟩) ?_ ?_
                                rotate_left
                                · intro w'
                                  go_simp
                                  with_reducible rfl
                                rotate_left
                                · simp only [Act.put, List.setIfInBounds_toArray, List.set_cons_zero, List.set_cons_succ, i64_w, i32_w]
                                  rfl
                                refine pure_ (i := 16) (N := some 65) (v := ?_) (a' := ?_) #[true, true, true, true, true, true, true, true, true, true, true, false, true, true, true, true, true, false, false, false, false, false] rfl rfl (any_of HT_.out (by kernel_rfl)) (fun _ _ _ h => h) (Or.inl ⟨by rfl, ?_⟩) ?_ ?_
                                rotate_left
                                · intro w'
                                  go_simp
                                  with_reducible rfl
                                rotate_left
                                · simp only [Act.put, List.setIfInBounds_toArray, List.set_cons_zero, List.set_cons_succ, i64_w, i32_w]
                                  rfl
                                refine take_ (i := 11) (N := some 60) (v := ?_) (a' := ?_) #[true, true, true, true, true, true, true, true, true, true, true, true, true, true, true, true, true, false, false, false, false, false] rfl rfl (take_ofW HT_.out HW_.out (by kernel_rfl)) (fun _ _ _ h => h) (Or.inl ⟨by rfl, ?_⟩) hHeld ?_ ?_
                                rotate_left
                                · rintro w' ⟨s0, s1⟩
                                  go_simp
                                  with_reducible rfl
                                rotate_left
                                · simp only [Act.put, List.setIfInBounds_toArray, List.set_cons_zero, List.set_cons_succ, i64_w, i32_w]
                                  rfl
                                refine take_ (i := 17) (N := some 66) (v := ?_) (a' := ?_) #[true, true, true, true, true, true, true, true, true, true, true, true, true, true, true, true, true, true, false, false, false, false] rfl rfl (take_ofW HT_.out HW_.out (by kernel_rfl)) (fun _ _ _ h => h) (Or.inl ⟨by rfl, ?_⟩) hHeld ?_ ?_
                                rotate_left
                                · rintro w' ⟨s0, s1⟩
                                  go_simp
                                  with_reducible rfl
                                rotate_left
                                · simp only [Act.put, List.setIfInBounds_toArray, List.set_cons_zero, List.set_cons_succ, i64_w, i32_w]
                                  rfl
                                refine pure_ (i := 18) (N := some 67) (v := ?_) (a' := ?_) #[true, true, true, true, true, true, true, true, true, true, true, true, true, true, true, true, true, true, true, false, false, false] rfl rfl (any_of HT_.out (by kernel_rfl)) (fun _ _ _ h => h) (Or.inl ⟨by rfl, ?_⟩) ?_ ?_
                                rotate_left
                                · intro w'
                                  go_simp
                                  with_reducible rfl
                                rotate_left
                                · simp only [Act.put, List.setIfInBounds_toArray, List.set_cons_zero, List.set_cons_succ, i64_w, i32_w]
                                  rfl
                                refine pure_ (i := 19) (N := some 68) (v := ?_) (a' := ?_) #[true, true, true, true, true, true, true, true, true, true, true, true, true, true, true, true, true, true, true, true, false, false] rfl rfl (any_of HT_.out (by kernel_rfl)) (fun _ _ _ h => h) (Or.inl ⟨by rfl, ?_⟩) ?_ ?_
                                rotate_left
                                · intro w'
                                  go_simp
                                  with_reducible rfl
                                rotate_left
                                · simp only [Act.put, List.setIfInBounds_toArray, List.set_cons_zero, List.set_cons_succ, i64_w, i32_w]
                                  rfl
                                refine pure_ (i := 20) (N := some 69) (v := ?_) (a' := ?_) #[true, true, true, true, true, true, true, true, true, true, true, true, true, true, true, true, true, true, true, true, true, false] rfl rfl (any_of HT_.out (by kernel_rfl)) (fun _ _ _ h => h) (Or.inl ⟨by rfl, ?_⟩) ?_ ?_
                                rotate_left
                                · intro w'
                                  go_simp
                                  with_reducible rfl
                                rotate_left
                                · simp only [Act.put, List.setIfInBounds_toArray, List.set_cons_zero, List.set_cons_succ, i64_w, i32_w]
                                  rfl
                                refine last_ (i := 21) (N := none) #[true, true, true, true, true, true, true, true, true, true, true, true, true, true, true, true, true, true, true, true, true, true] rfl rfl (one_of HT_.out (by kernel_rfl)) (by decide) (fun K hK => ?_)
                                refine skip_ (w1 := ?_) (by rfl) rfl ?_ ?_
                                rotate_left
                                · go_simp
                                  rfl
                                refine hK.out _ _ ?_
                                clear hK K
                                refine done_ (done_of HT_.out (by kernel_rfl)) ?_
                                have n0_ : Aside0 (Kd.R (Kd.int .i64) 3 (w26.setCell ⟨go16, ((ji17) : Int).toNat, none⟩ (.int .i64 (wrap64 ((rd y113 (ji17)) + (wrap64 (Int.tdiv (rd y113 (ji10)) 65536)))))) w.heap.size (fun _ => True) (.slice (some ⟨go16, 0, none⟩) x5_2.length co23) y116) := ⟨by (with_reducible repeat (first | apply Kd.R_alloc | apply Kd.R_drewN | apply Kd.R_drew)); exact HQ27.out⟩
                                have n1_ : Aside0 (Below w.heap.size w (w26.setCell ⟨go16, ((ji17) : Int).toNat, none⟩ (.int .i64 (wrap64 ((rd y113 (ji17)) + (wrap64 (Int.tdiv (rd y113 (ji10)) 65536))))))) := ⟨by repeat (first | (with_reducible first | exact HB.out | apply below_alloc | apply pw_below_drewN | apply below_drew1 | refine below_set ?_ GB16.out) | exact HB.out)⟩
                                (try clear HO_5)
                                (try clear HB)
                                generalize (w26.setCell ⟨go16, ((ji17) : Int).toNat, none⟩ (.int .i64 (wrap64 ((rd y113 (ji17)) + (wrap64 (Int.tdiv (rd y113 (ji10)) 65536)))))) = w28 at n0_ n1_ ⊢
                                have HO_5 := n0_
                                have HB := n1_
                                clear n0_ n1_
                                have p117 : 0 ≤ ((ji10) : Int) := of_decide_eq_true (by first | (with_reducible assumption) | assumption)
                                have q117 : (ji10) < (y116.length : Int) := (by have h_ : ((ji10) : Int) < ((x5_2.length : Int) : Int) := of_decide_eq_true (by first | (with_reducible assumption) | assumption); first | (have e_ := (Kd.R_reads' HO_5.out).1; omega) | simpa only [Ny113.out, Ny116.out, List.length_set] using h_)
                                have ql117 : (((ji10) : Int) < ((x5_2.length : Int) : Int)) = True := eq_true (of_decide_eq_true (by first | (with_reducible assumption) | assumption))
                                obtain ⟨ad117, e117, hx117_0⟩ := Kd.at_int (Kd.R_reads' HO_5.out).2.2 (ji10) p117 q117
                                obtain rfl : (⟨go16, 0, none⟩ : Addr) = ad117 := (by injection e117)
                                (first | simp only [add_plain] at hx117_0 | simp only [add_at] at hx117_0 | simp only [Addr.add, Nat.zero_add] at hx117_0 | skip)
                                replace p117 := eq_true p117
                                replace q117 := eq_true q117
                                have p21 : 0 ≤ ((ji10) : Int) := of_decide_eq_true (by first | (with_reducible assumption) | assumption)
                                have q21 : ((ji10) : Int) < ((x5_2.length : Int) : Int) := of_decide_eq_true (by first | (with_reducible assumption) | assumption)
                                obtain ⟨hx21_0, hf21_0⟩ := Kd.R_celln 0 HO_5.out ((ji10) : Int) p21 q21
                                replace p21 := eq_true p21
                                replace q21 := eq_true q21
                                obtain ⟨hy29_, hz29_⟩ := Kd.R_celln 0 HO_5.out ((ji10) : Int) (of_decide_eq_true (by first | (with_reducible assumption) | assumption)) (of_decide_eq_true (by first | (with_reducible assumption) | assumption))
                                have HP29 := Kd.R_putg HO_5.out ((ji10) : Int) (Int.tmod (rd y116 (ji10)) 65536)
                                try go_wp2_with (first | ((with_reducible refine gate_store (t := 3) (p := 81) rfl ?_); refine store_event (t := 3) (p := 81) (v := ?vo_w30) (w1 := (w28.setCell ⟨go16, ((ji10) : Int).toNat, none⟩ (.int .i64 (Int.tmod (rd y116 (ji10)) 65536)))) ?hg ?ho ?hn ?hr ?_; (case ho => rfl); (case hg => rfl); (case hn => rfl); (case hr => first | (go_simp; done) | (go_simp; rfl)); intro w30 hw; have hg : w28.grownBy w30 (some go16) := (by rw [hw]; exact HP29.2); have hp_ : Kd.R (Kd.int .i64) 3 w30 w.heap.size (fun _ => True) (.slice (some ⟨go16, 0, none⟩) x5_2.length co23) y118 := (by rw [hw, Ny118.out]; exact HP29.1); clear HP29; have n0_ := Aside0.mk (hp_); have n1_ := Aside0.mk ((by rw [hw]; exact below_set (HB.out) GB16.out : Below w.heap.size w w30)); clear HO_5; clear HB; have HO_5 := n0_; have HB := n1_; clear n0_ n1_; clear hg hw hp_))
                                go_roundg k2
                                case measure => have := HK1.out; have := HK2.out; omega
                                case rel => exact ⟨(y118), (wrap64 (x7_2 + 1)), (by first | rfl | (simp; done) | (simp [*]; done)), H', ⟨by have := HK1.out; have := HK2.out; omega⟩, ⟨by (with_reducible repeat (first | apply Kd.R_alloc | apply Kd.R_drewN | apply Kd.R_drew)); exact HO_5.out⟩, ⟨by repeat (first | (with_reducible first | exact HB.out | apply below_alloc | apply pw_below_drewN | apply below_drew1) | exact HB.out)⟩⟩
                              · rw [if_neg c19] at H
                                exact absurd H (by simp)
                            · rw [if_neg c18] at H
                              exact absurd H (by simp)
                          · rw [if_neg c15] at H
                            exact absurd H (by simp)
                        · rw [if_neg c14] at H
                          exact absurd H (by simp)
                      · rw [if_neg c13] at H
                        exact absurd H (by simp)
                    · rw [if_neg c12] at H
                      exact absurd H (by simp)
                  · rw [if_neg c11] at H
                    exact absurd H (by simp)
                · rw [if_neg c9] at H
                  have c9b0 : decide (x7_2 < (l1.length : Int)) = false := decide_eq_false c9
                  clear c9
                  have H' := Aside0.mk H
                  clear H
                  go_wp2
                  go_roundg k2
                  case measure => have := HK1.out; have := HK2.out; omega
                  case rel => exact ⟨(x5_2), (wrap64 (x6_1 + 1)), (by first | rfl | (simp; done) | (simp [*]; done)), H', ⟨by have := HK1.out; have := HK2.out; omega⟩, ⟨by (with_reducible repeat (first | apply Kd.R_alloc | apply Kd.R_drewN | apply Kd.R_drew)); exact HO_5.out⟩, ⟨by repeat (first | (with_reducible first | exact HB.out | apply below_alloc | apply pw_below_drewN | apply below_drew1) | exact HB.out)⟩⟩
          · rw [if_neg c8] at H
            have c8b0 : decide (x6_1 < (l0.length : Int)) = false := decide_eq_false c8
            clear c8
            have H' := Aside0.mk H
            clear H
            go_wp2
            go_loopg [8] k1 (fun kq v8 w' => ∃ (x5_2 : List Int) (x8_2 : Int), v8 = .int .i64 x8_2 ∧ Aside0 (redoubtlaw10_times.l2 kq x5_2 x8_2 = some r) ∧ Aside0 (kq ≤ k1) ∧ Aside0 (Kd.R (Kd.int .i64) 3 w' w.heap.size (fun _ => True) v108 x5_2) ∧ Aside0 (Below w.heap.size w w'))
            case atStart => exact ⟨(x5_1), (0), (by first | rfl | (simp; done) | (simp [*]; done)), H', ⟨Nat.le_refl _⟩, ⟨by (with_reducible repeat (first | apply Kd.R_alloc | apply Kd.R_drewN | apply Kd.R_drew)); exact HO_5.out⟩, ⟨by repeat (first | (with_reducible first | exact HB.out | apply below_alloc | apply pw_below_drewN | apply below_drew1) | exact HB.out)⟩⟩
            case round =>
              clear H'
              try clear c1
              try clear p1
              try clear q1
              try clear hx1
              try clear c2
              try clear p2
              try clear q2
              try clear hx2
              try clear hf2
              try clear c4
              try clear c4b0
              try clear c4b1
              try clear c5
              try clear c5b0
              try clear c5b1
              try clear p6
              try clear c8
              try clear c8b0
              try clear c9
              try clear c9b0
              try clear c11
              try clear c11b0
              try clear p11
              try clear q11
              try clear hx11
              try clear c12
              try clear c12b0
              try clear c13
              try clear c13b0
              try clear c14
              try clear c14b0
              try clear c15
              try clear c15b0
              try clear p16
              try clear q16
              try clear hx16
              try clear hf16
              try clear c18
              try clear c18b0
              try clear c19
              try clear c19b0
              try clear p20
              try clear q20
              try clear hx20
              try clear hf20
              try clear p21
              try clear q21
              try clear hx21
              try clear hf21
              try clear hx110_0
              try clear hx111_0
              try clear hx112_0
              try clear hx114_0
              try clear hx115_0
              try clear hx117_0
              try clear hx16_0
              try clear hx20_0
              try clear hx21_0
              try clear p110
              try clear p111
              try clear p112
              try clear p114
              try clear p115
              try clear p117
              try clear p16
              try clear p2
              try clear p20
              try clear p21
              try clear p6
              try clear q110
              try clear q111
              try clear q112
              try clear q114
              try clear q115
              try clear q117
              try clear q16
              try clear q20
              try clear q21
              obtain ⟨x5_2, x8_2, rfl, HA, HK2, HO_5, HB⟩ := hrel
              cases gk with
              | zero => exact absurd HA.out (by simp [redoubtlaw10_times.l2])
              | succ k2 =>
                have H := HA.out
                clear HA
                simp only [redoubtlaw10_times.l2] at H
                by_cases c31 : (wrap64 (x8_2 + 1)) < (x5_2.length : Int)
                · rw [if_pos c31] at H
                  have c31b0 : decide ((wrap64 (x8_2 + 1)) < (x5_2.length : Int)) = true := decide_eq_true c31
                  clear c31
                  obtain ⟨ji32, hji32⟩ : ∃ j_ : Int, (wrap64 (x8_2 + 1)) = j_ := ⟨_, rfl⟩
                  replace H : (if 0 ≤ (ji32) then (if 0 ≤ x8_2 then (if x8_2 < (x5_2.length : Int) then ((some (x5_2.set ((ji32) : Int).toNat (wrap64 ((rd x5_2 (ji32)) + (wrap64 (Int.tdiv (rd x5_2 x8_2) 65536)))) : List Int)).bind fun y121 => (redoubtlaw10_times.l2 k2 (y121.set (x8_2 : Int).toNat (Int.tmod (rd y121 x8_2) 65536)) ji32)) else (none)) else (none)) else (none)) = some r := by first | (rw [hji32] at H; exact H) | (simp only [hji32] at H ⊢; exact H)
                  (try rw [hji32] at c31b0)
                  have hji32w : (IntKind.i64.wrap (x8_2 + 1)) = ji32 := (i64_w _).trans hji32
                  by_cases c33 : 0 ≤ (ji32)
                  · rw [if_pos c33] at H
                    have c33b0 : decide (0 ≤ (ji32)) = true := decide_eq_true c33
                    clear c33
                    by_cases c34 : 0 ≤ x8_2
                    · rw [if_pos c34] at H
                      have c34b0 : decide (0 ≤ x8_2) = true := decide_eq_true c34
                      clear c34
                      by_cases c35 : x8_2 < (x5_2.length : Int)
                      · rw [if_pos c35] at H
                        have c35b0 : decide (x8_2 < (x5_2.length : Int)) = true := decide_eq_true c35
                        clear c35
                        obtain ⟨y121, hy121⟩ : ∃ y_ : List Int, y_ = (x5_2.set ((ji32) : Int).toNat (wrap64 ((rd x5_2 (ji32)) + (wrap64 (Int.tdiv (rd x5_2 x8_2) 65536))))) := ⟨_, rfl⟩
                        replace H : (redoubtlaw10_times.l2 k2 (y121.set (x8_2 : Int).toNat (Int.tmod (rd y121 x8_2) 65536)) ji32) = some r := by first | (rw [hy121]; with_reducible exact H) | (have H2_ := (Option.bind_some _ _).symm.trans H; rw [hy121]; with_reducible exact H2_) | (have H2_ := (Option.bind_some _ _).symm.trans H; with_reducible exact H2_) | with_reducible exact H | (rw [hy121]; exact H) | exact H
                        have Ny121 := Aside0.mk hy121
                        clear hy121
                        obtain ⟨y123, hy123⟩ : ∃ y_ : List Int, y_ = (y121.set (x8_2 : Int).toNat (Int.tmod (rd y121 x8_2) 65536)) := ⟨_, rfl⟩
                        replace H : (redoubtlaw10_times.l2 k2 y123 ji32) = some r := by first | (rw [hy123]; with_reducible exact H) | (have H2_ := (Option.bind_some _ _).symm.trans H; rw [hy123]; with_reducible exact H2_) | (have H2_ := (Option.bind_some _ _).symm.trans H; with_reducible exact H2_) | with_reducible exact H | (rw [hy123]; exact H) | exact H
                        have Ny123 := Aside0.mk hy123
                        clear hy123
                        have H' := Aside0.mk H
                        clear H
                        obtain ⟨Ao38, co38, eo38⟩ := Kd.R_slice HO_5.out
                        subst eo38
                        try go_wp2
                        have n0_ := Aside0.mk (Kd.R_drew HO_5.out)
                        have n1_ := Aside0.mk (below_drew1 HB.out)
                        clear HO_5
                        clear HB
                        have HO_5 := n0_
                        have HB := n1_
                        clear n0_ n1_
                        have p119 : 0 ≤ ((ji32) : Int) := of_decide_eq_true (by first | (with_reducible assumption) | assumption)
                        have q119 : (ji32) < (x5_2.length : Int) := of_decide_eq_true (by first | (with_reducible assumption) | assumption)
                        obtain ⟨ad119, e119, hx119_0⟩ := Kd.at_int (Kd.R_reads' HO_5.out).2.2 (ji32) p119 q119
                        cases e119
                        replace p119 := eq_true p119
                        replace q119 := eq_true q119
                        have p120 : 0 ≤ (x8_2 : Int) := of_decide_eq_true (by first | (with_reducible assumption) | assumption)
                        have q120 : x8_2 < (x5_2.length : Int) := of_decide_eq_true (by first | (with_reducible assumption) | assumption)
                        obtain ⟨ad120, e120, hx120_0⟩ := Kd.at_int (Kd.R_reads' HO_5.out).2.2 x8_2 p120 q120
                        obtain rfl : ad119 = ad120 := (by injection e120)
                        replace p120 := eq_true p120
                        replace q120 := eq_true q120
                        have p36 : 0 ≤ ((ji32) : Int) := of_decide_eq_true (by first | (with_reducible assumption) | assumption)
                        have q36 : ((ji32) : Int) < ((x5_2.length : Int) : Int) := of_decide_eq_true (by first | (with_reducible assumption) | assumption)
                        obtain ⟨go36, co36, eo36, gb36, gl36, cl36, HG36⟩ := Kd.R_form HO_5.out (by omega)
                        (first | cases eo36 | (injection eo36 with ea_ en_ ec_; (first | subst ea_ | (injection ea_ with ea_; subst ea_)); subst ec_; clear en_))
                        have GB36 := Aside0.mk gb36
                        have GG36 := Aside0.mk HG36
                        clear gb36 gl36 HG36
                        (first | simp only [add_plain] at hx119_0 | skip)
                        (first | simp only [add_plain] at hx120_0 | skip)
                        obtain ⟨hx36_0, hf36_0⟩ := Kd.R_celln 0 HO_5.out ((ji32) : Int) p36 q36
                        replace p36 := eq_true p36
                        replace q36 := eq_true q36
                        have HP40 := Kd.R_putn HO_5.out ((ji32) : Int) (wrap64 ((rd x5_2 (ji32)) + (wrap64 (Int.tdiv (rd x5_2 x8_2) 65536))))
                        rw [← Ny121.out] at HP40
                        have HQ40 := Aside0.mk HP40
                        clear HP40
                        refine start_ (n := 16) (S := fun w' => w'.cell? ⟨go36, ((ji32)).toNat, none⟩ = some (.int .i64 (rd x5_2 (ji32))) ∧ w'.cell? ⟨go36, (x8_2).toNat, none⟩ = some (.int .i64 (rd x5_2 x8_2))) (ds := [15]) #[false, false, false, false, false, false, false, false, false, false, false, false, false, false, false, false] (by kernel_rfl) rfl rfl ⟨hx119_0, hx120_0⟩ (fun hHeld => ?_); refine with_tabW redoubtlaw10_times.tab14 redoubtlaw10_times.bits14 (fun HT_ HW_ => ?_)
                        generalize wr.drew = w39 at HO_5 HB GG36 HQ40 hf36_0 hx119_0 hx120_0 hx36_0 hHeld ⊢
                        refine pure_ (i := 0) (N := some 89) (v := ?_) (a' := ?_) #[true, false, false, false, false, false, false, false, false, false, false, false, false, false, false, false] rfl rfl (any_of HT_.out (by kernel_rfl)) (fun _ _ _ h => h) (Or.inl ⟨by rfl, ?_⟩) ?_ ?_
                        rotate_left
                        · intro w'
                          go_simp
                          with_reducible rfl
                        rotate_left
                        · simp only [Act.put, List.setIfInBounds_toArray, List.set_cons_zero, List.set_cons_succ, i64_w, i32_w]
                          rfl
                        refine pure_ (i := 1) (N := some 90) (v := ?_) (a' := ?_) #[true, true, false, false, false, false, false, false, false, false, false, false, false, false, false, false] rfl rfl (any_of HT_.out (by kernel_rfl)) (fun _ _ _ h => h) (Or.inl ⟨by rfl, ?_⟩) ?_ ?_
                        rotate_left
                        · intro w'
                          go_simp
                          with_reducible rfl
                        rotate_left
                        · simp only [Act.put, List.setIfInBounds_toArray, List.set_cons_zero, List.set_cons_succ, i64_w, i32_w]
                          rfl
                        refine pure_ (i := 2) (N := some 91) (v := ?_) (a' := ?_) #[true, true, true, false, false, false, false, false, false, false, false, false, false, false, false, false] rfl rfl (any_of HT_.out (by kernel_rfl)) (fun _ _ _ h => h) (Or.inl ⟨by rfl, ?_⟩) ?_ ?_
                        rotate_left
                        · intro w'
                          go_simp
                          with_reducible rfl
                        rotate_left
                        · simp only [Act.put, List.setIfInBounds_toArray, List.set_cons_zero, List.set_cons_succ, i64_w, i32_w]
                          rfl
                        refine pure_ (i := 3) (N := some 92) (v := ?_) (a' := ?_) #[true, true, true, true, false, false, false, false, false, false, false, false, false, false, false, false] rfl rfl (any_of HT_.out (by kernel_rfl)) (fun _ _ _ h => h) (Or.inl ⟨by rfl, ?_⟩) ?_ ?_
                        rotate_left
                        · intro w'
                          go_simp
                          with_reducible rfl
                        rotate_left
                        · simp only [Act.put, List.setIfInBounds_toArray, List.set_cons_zero, List.set_cons_succ, i64_w, i32_w]
                          rfl
                        refine pure_ (i := 4) (N := some 93) (v := ?_) (a' := ?_) #[true, true, true, true, true, false, false, false, false, false, false, false, false, false, false, false] rfl rfl (any_of HT_.out (by kernel_rfl)) (fun _ _ _ h => h) (Or.inl ⟨by rfl, ?_⟩) ?_ ?_
                        rotate_left
                        · intro w'
                          go_simp
                          with_reducible rfl
                        rotate_left
                        · simp only [Act.put, List.setIfInBounds_toArray, List.set_cons_zero, List.set_cons_succ, i64_w, i32_w]
                          rfl
                        refine pure_ (i := 5) (N := some 94) (v := ?_) (a' := ?_) #[true, true, true, true, true, true, false, false, false, false, false, false, false, false, false, false] rfl rfl (any_of HT_.out (by kernel_rfl)) (fun _ _ _ h => h) (Or.inl ⟨by rfl, ?_⟩) ?_ ?_
                        rotate_left
                        · intro w'
                          go_simp
                          with_reducible rfl
                        rotate_left
                        · simp only [Act.put, List.setIfInBounds_toArray, List.set_cons_zero, List.set_cons_succ, i64_w, i32_w]
                          rfl
                        refine pure_ (i := 6) (N := some 95) (v := ?_) (a' := ?_) #[true, true, true, true, true, true, true, false, false, false, false, false, false, false, false, false] rfl rfl (any_of HT_.out (by kernel_rfl)) (fun _ _ _ h => h) (Or.inl ⟨by rfl, ?_⟩) ?_ ?_
                        rotate_left
                        · intro w'
                          go_simp
                          with_reducible rfl
                        rotate_left
                        · simp only [Act.put, List.setIfInBounds_toArray, List.set_cons_zero, List.set_cons_succ, i64_w, i32_w]
                          rfl
                        refine pure_ (i := 8) (N := some 97) (v := ?_) (a' := ?_) #[true, true, true, true, true, true, true, false, true, false, false, false, false, false, false, false] rfl rfl (any_of HT_.out (by kernel_rfl)) (fun _ _ _ h => h) (Or.inl ⟨by rfl, ?_⟩) ?_ ?_
                        rotate_left
                        · intro w'
                          go_simp
                          with_reducible rfl
                        rotate_left
                        · simp only [Act.put, List.setIfInBounds_toArray, List.set_cons_zero, List.set_cons_succ, i64_w, i32_w]
                          rfl
                        refine pure_ (i := 9) (N := some 98) (v := ?_) (a' := ?_) #[true, true, true, true, true, true, true, false, true, true, false, false, false, false, false, false] rfl rfl (any_of HT_.out (by kernel_rfl)) (fun _ _ _ h => h) (Or.inl ⟨by rfl, ?_⟩) ?_ ?_
                        rotate_left
                        · intro w'
                          go_simp
                          with_reducible rfl
                        rotate_left
                        · simp only [Act.put, List.setIfInBounds_toArray, List.set_cons_zero, List.set_cons_succ, i64_w, i32_w]
                          rfl
                        refine pure_ (i := 10) (N := some 99) (v := ?_) (a' := ?_) #[true, true, true, true, true, true, true, false, true, true, true, false, false, false, false, false] rfl rfl (any_of HT_.out (by kernel_rfl)) (fun _ _ _ h => h) (Or.inl ⟨by rfl, ?_⟩) ?_ ?_
                        rotate_left
                        · intro w'
                          go_simp
                          with_reducible rfl
                        rotate_left
                        · simp only [Act.put, List.setIfInBounds_toArray, List.set_cons_zero, List.set_cons_succ, i64_w, i32_w]
                          rfl
                        refine take_ (i := 7) (N := some 96) (v := ?_) (a' := ?_) #[true, true, true, true, true, true, true, true, true, true, true, false, false, false, false, false] rfl rfl (take_ofW HT_.out HW_.out (by kernel_rfl)) (fun _ _ _ h => h) (Or.inl ⟨by rfl, ?_⟩) hHeld ?_ ?_
                        rotate_left
                        · rintro w' ⟨s0, s1⟩
                          go_simp
                          with_reducible rfl
                        rotate_left
                        · simp only [Act.put, List.setIfInBounds_toArray, List.set_cons_zero, List.set_cons_succ, i64_w, i32_w]
                          rfl
                        refine take_ (i := 11) (N := some 100) (v := ?_) (a' := ?_) #[true, true, true, true, true, true, true, true, true, true, true, true, false, false, false, false] rfl rfl (take_ofW HT_.out HW_.out (by kernel_rfl)) (fun _ _ _ h => h) (Or.inl ⟨by rfl, ?_⟩) hHeld ?_ ?_
                        rotate_left
                        · rintro w' ⟨s0, s1⟩
                          go_simp
                          with_reducible rfl
                        rotate_left
                        · simp only [Act.put, List.setIfInBounds_toArray, List.set_cons_zero, List.set_cons_succ, i64_w, i32_w]
                          rfl
                        refine pure_ (i := 12) (N := some 101) (v := ?_) (a' := ?_) #[true, true, true, true, true, true, true, true, true, true, true, true, true, false, false, false] rfl rfl (any_of HT_.out (by kernel_rfl)) (fun _ _ _ h => h) (Or.inl ⟨by rfl, ?_⟩) ?_ ?_
                        rotate_left
                        · intro w'
                          go_simp
                          with_reducible rfl
                        rotate_left
                        · simp only [Act.put, List.setIfInBounds_toArray, List.set_cons_zero, List.set_cons_succ, i64_w, i32_w]
                          rfl
                        refine pure_ (i := 13) (N := some 102) (v := ?_) (a' := ?_) #[true, true, true, true, true, true, true, true, true, true, true, true, true, true, false, false] rfl rfl (any_of HT_.out (by kernel_rfl)) (fun _ _ _ h => h) (Or.inl ⟨by rfl, ?_⟩) ?_ ?_
                        rotate_left
                        · intro w'
                          go_simp
                          with_reducible rfl
                        rotate_left
                        · simp only [Act.put, List.setIfInBounds_toArray, List.set_cons_zero, List.set_cons_succ, i64_w, i32_w]
                          rfl
                        refine pure_ (i := 14) (N := some 103) (v := ?_) (a' := ?_) #[true, true, true, true, true, true, true, true, true, true, true, true, true, true, true, false] rfl rfl (any_of HT_.out (by kernel_rfl)) (fun _ _ _ h => h) (Or.inl ⟨by rfl, ?_⟩) ?_ ?_
                        rotate_left
                        · intro w'
                          go_simp
                          with_reducible rfl
                        rotate_left
                        · simp only [Act.put, List.setIfInBounds_toArray, List.set_cons_zero, List.set_cons_succ, i64_w, i32_w]
                          rfl
                        refine last_ (i := 15) (N := none) #[true, true, true, true, true, true, true, true, true, true, true, true, true, true, true, true] rfl rfl (one_of HT_.out (by kernel_rfl)) (by decide) (fun K hK => ?_)
                        refine skip_ (w1 := ?_) (by rfl) rfl ?_ ?_
                        rotate_left
                        · go_simp
                          rfl
                        refine hK.out _ _ ?_
                        clear hK K
                        refine done_ (done_of HT_.out (by kernel_rfl)) ?_
                        have n0_ : Aside0 (Kd.R (Kd.int .i64) 3 (w39.setCell ⟨go36, ((ji32) : Int).toNat, none⟩ (.int .i64 (wrap64 ((rd x5_2 (ji32)) + (wrap64 (Int.tdiv (rd x5_2 x8_2) 65536)))))) w.heap.size (fun _ => True) (.slice (some ⟨go36, 0, none⟩) x5_2.length co38) y121) := ⟨by (with_reducible repeat (first | apply Kd.R_alloc | apply Kd.R_drewN | apply Kd.R_drew)); exact HQ40.out⟩
                        have n1_ : Aside0 (Below w.heap.size w (w39.setCell ⟨go36, ((ji32) : Int).toNat, none⟩ (.int .i64 (wrap64 ((rd x5_2 (ji32)) + (wrap64 (Int.tdiv (rd x5_2 x8_2) 65536))))))) := ⟨by repeat (first | (with_reducible first | exact HB.out | apply below_alloc | apply pw_below_drewN | apply below_drew1 | refine below_set ?_ GB36.out) | exact HB.out)⟩
                        (try clear HO_5)
                        (try clear HB)
                        generalize (w39.setCell ⟨go36, ((ji32) : Int).toNat, none⟩ (.int .i64 (wrap64 ((rd x5_2 (ji32)) + (wrap64 (Int.tdiv (rd x5_2 x8_2) 65536)))))) = w41 at n0_ n1_ ⊢
                        have HO_5 := n0_
                        have HB := n1_
                        clear n0_ n1_
                        have p122 : 0 ≤ (x8_2 : Int) := of_decide_eq_true (by first | (with_reducible assumption) | assumption)
                        have q122 : x8_2 < (y121.length : Int) := (by have h_ : (x8_2 : Int) < ((x5_2.length : Int) : Int) := of_decide_eq_true (by first | (with_reducible assumption) | assumption); first | (have e_ := (Kd.R_reads' HO_5.out).1; omega) | simpa only [Ny121.out, List.length_set] using h_)
                        have ql122 : ((x8_2 : Int) < ((x5_2.length : Int) : Int)) = True := eq_true (of_decide_eq_true (by first | (with_reducible assumption) | assumption))
                        obtain ⟨ad122, e122, hx122_0⟩ := Kd.at_int (Kd.R_reads' HO_5.out).2.2 x8_2 p122 q122
                        obtain rfl : (⟨go36, 0, none⟩ : Addr) = ad122 := (by injection e122)
                        (first | simp only [add_plain] at hx122_0 | simp only [add_at] at hx122_0 | simp only [Addr.add, Nat.zero_add] at hx122_0 | skip)
                        replace p122 := eq_true p122
                        replace q122 := eq_true q122
                        have p37 : 0 ≤ (x8_2 : Int) := of_decide_eq_true (by first | (with_reducible assumption) | assumption)
                        have q37 : (x8_2 : Int) < ((x5_2.length : Int) : Int) := of_decide_eq_true (by first | (with_reducible assumption) | assumption)
                        obtain ⟨hx37_0, hf37_0⟩ := Kd.R_celln 0 HO_5.out (x8_2 : Int) p37 q37
                        replace p37 := eq_true p37
                        replace q37 := eq_true q37
                        obtain ⟨hy42_, hz42_⟩ := Kd.R_celln 0 HO_5.out (x8_2 : Int) (of_decide_eq_true (by first | (with_reducible assumption) | assumption)) (of_decide_eq_true (by first | (with_reducible assumption) | assumption))
                        have HP42 := Kd.R_putg HO_5.out (x8_2 : Int) (Int.tmod (rd y121 x8_2) 65536)
                        try go_wp2_with (first | ((with_reducible refine gate_store (t := 3) (p := 111) rfl ?_); refine store_event (t := 3) (p := 111) (v := ?vo_w43) (w1 := (w41.setCell ⟨go36, (x8_2 : Int).toNat, none⟩ (.int .i64 (Int.tmod (rd y121 x8_2) 65536)))) ?hg ?ho ?hn ?hr ?_; (case ho => rfl); (case hg => rfl); (case hn => rfl); (case hr => first | (go_simp; done) | (go_simp; rfl)); intro w43 hw; have hg : w41.grownBy w43 (some go36) := (by rw [hw]; exact HP42.2); have hp_ : Kd.R (Kd.int .i64) 3 w43 w.heap.size (fun _ => True) (.slice (some ⟨go36, 0, none⟩) x5_2.length co38) y123 := (by rw [hw, Ny123.out]; exact HP42.1); clear HP42; have n0_ := Aside0.mk (hp_); have n1_ := Aside0.mk ((by rw [hw]; exact below_set (HB.out) GB36.out : Below w.heap.size w w43)); clear HO_5; clear HB; have HO_5 := n0_; have HB := n1_; clear n0_ n1_; clear hg hw hp_))
                        go_roundg k2
                        case measure => have := HK1.out; have := HK2.out; omega
                        case rel => exact ⟨(y123), (ji32), (by first | rfl | (simp; done) | (simp only [← hji32] <;> (first | rfl | simp)) | (simp [*]; done)), H', ⟨by have := HK1.out; have := HK2.out; omega⟩, ⟨by (with_reducible repeat (first | apply Kd.R_alloc | apply Kd.R_drewN | apply Kd.R_drew)); exact HO_5.out⟩, ⟨by repeat (first | (with_reducible first | exact HB.out | apply below_alloc | apply pw_below_drewN | apply below_drew1) | exact HB.out)⟩⟩
                      · rw [if_neg c35] at H
                        exact absurd H (by simp)
                    · rw [if_neg c34] at H
                      exact absurd H (by simp)
                  · rw [if_neg c33] at H
                    exact absurd H (by simp)
                · rw [if_neg c31] at H
                  have c31b0 : decide ((wrap64 (x8_2 + 1)) < (x5_2.length : Int)) = false := decide_eq_false c31
                  clear c31
                  obtain rfl := Option.some.inj H
                  obtain ⟨Ao44, co44, eo44⟩ := Kd.R_slice HO_5.out
                  subst eo44
                  go_wp2
                  go_ret
                  exact ⟨_, by first | rfl | (simp [errW_none, errW_some] <;> rfl) | (simp only [← hji3]; first | rfl | (simp [errW_none, errW_some] <;> rfl)) | (simp [*, errW_none, errW_some] <;> rfl), by (with_reducible repeat (first | apply Kd.R_alloc | apply Kd.R_drewN | apply Kd.R_drew)); exact HO_5.out, by repeat (first | (with_reducible first | exact HB.out | apply below_alloc | apply pw_below_drewN | apply below_drew1) | exact HB.out)⟩
    · rw [if_neg c5] at H
      exact absurd H (by simp)
  · rw [if_neg c4] at H
    exact absurd H (by simp)

end Go.Proofs.YtaooibcihjkhfaaDoor.PDigestRoots

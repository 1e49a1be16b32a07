-- PRINTED BY print.sh 35421559b90ae4d0a3588c463048766b98c2df88dd9212a6774a882060cdf62d: not written by this session
import Derived.Test.YtaooibcihjkhfaaDoorPDigestRoundsx0
import Derived.Test.YtaooibcihjkhfaaDoorPDigestRoundsx1
import Derived.Test.YtaooibcihjkhfaaDoorPDigestRoundsx2
import Derived.Test.YtaooibcihjkhfaaDoorPDigestRoundsx3
namespace Go.Proofs.YtaooibcihjkhfaaDoor.PDigestRounds
open Go.RowKit Go.Proofs.YtaooibcihjkhfaaDoorW.PrintWords Go.Proofs.YtaooibcihjkhfaaDoorW.PrintLast Go.Proofs.YtaooibcihjkhfaaDoorW.PrintMore
attribute [local go_sem] max2_int min2_int max_two min_two max_three min_three max_four min_four   -- for this text's walks alone
set_option linter.unusedVariables false
set_option linter.unusedSimpArgs false

/-! ### redoubtref10_Round: function 16 -/
mutual
def redoubtref10_Round.j0 : Nat → List Int → List Int → Bool → Option (List Int × Int)
  | 0, _, _, _ => none
  | k + 1, x0, x6, x29 => if x29 = true then (some (([] : List Int), 1)) else ((redoubtref10_Constants.f).bind fun t141 => (if ([] : List Int).length + x0.length < 17592186044416 then (redoubtref10_Round.l0 k x0 x6 t141 (([] : List Int) ++ x0) 0) else (none)))
def redoubtref10_Round.l0 : Nat → List Int → List Int → List Int → List Int → Int → Option (List Int × Int)
  | 0, _, _, _, _, _ => none
  | k + 1, x0, x6, x8, x9, x10 => if x10 < 64 then (if 0 < (x9.length : Int) then (if 4 < (x9.length : Int) then (if 5 < (x9.length : Int) then (if 6 < (x9.length : Int) then (if 1 < (x9.length : Int) then (if 2 < (x9.length : Int) then (if 7 < (x9.length : Int) then ((redoubtref10_turn.f k (rd x9 4) 6).bind fun t156 => ((redoubtref10_turn.f k (rd x9 4) 11).bind fun t157 => ((redoubtref10_turn.f k (rd x9 4) 25).bind fun t158 => (if 0 ≤ x10 then (if x10 < (x8.length : Int) then (if x10 < (x6.length : Int) then ((redoubtref10_turn.f k (rd x9 0) 2).bind fun t161 => ((redoubtref10_turn.f k (rd x9 0) 13).bind fun t162 => ((redoubtref10_turn.f k (rd x9 0) 22).bind fun t163 => (if 3 < (x9.length : Int) then (redoubtref10_Round.l0 k x0 x6 x8 (([Int.tmod (wrap64 ((wrap64 ((wrap64 ((wrap64 ((wrap64 ((rd x9 7) + (Go.bits .xor .i64 (Go.bits .xor .i64 t156 t157) t158))) + (Go.bits .xor .i64 (Go.bits .and .i64 (rd x9 4) (rd x9 5)) (Go.bits .and .i64 (wrap64 (4294967295 - (rd x9 4))) (rd x9 6))))) + (rd x8 x10))) + (rd x6 x10))) + (wrap64 ((Go.bits .xor .i64 (Go.bits .xor .i64 t161 t162) t163) + (Go.bits .xor .i64 (Go.bits .xor .i64 (Go.bits .and .i64 (rd x9 0) (rd x9 1)) (Go.bits .and .i64 (rd x9 0) (rd x9 2))) (Go.bits .and .i64 (rd x9 1) (rd x9 2))))))) 4294967296, rd x9 0, rd x9 1, rd x9 2, Int.tmod (wrap64 ((rd x9 3) + (wrap64 ((wrap64 ((wrap64 ((wrap64 ((rd x9 7) + (Go.bits .xor .i64 (Go.bits .xor .i64 t156 t157) t158))) + (Go.bits .xor .i64 (Go.bits .and .i64 (rd x9 4) (rd x9 5)) (Go.bits .and .i64 (wrap64 (4294967295 - (rd x9 4))) (rd x9 6))))) + (rd x8 x10))) + (rd x6 x10))))) 4294967296, rd x9 4, rd x9 5, rd x9 6] : List Int)) (wrap64 (x10 + 1))) else (none))))) else (none)) else (none)) else (none))))) else (none)) else (none)) else (none)) else (none)) else (none)) else (none)) else (none)) else (redoubtref10_Round.l1 k x0 x9 0)
def redoubtref10_Round.l1 : Nat → List Int → List Int → Int → Option (List Int × Int)
  | 0, _, _, _ => none
  | k + 1, x0, x9, x17 => if x17 < 8 then (if 0 ≤ x17 then (if x17 < (x9.length : Int) then (if x17 < (x0.length : Int) then (redoubtref10_Round.l1 k x0 (x9.set (x17 : Int).toNat (Int.tmod (wrap64 ((rd x9 x17) + (rd x0 x17))) 4294967296)) (wrap64 (x17 + 1))) else (none)) else (none)) else (none)) else (some (x9, 0))
end
def redoubtref10_Round.f (k : Nat) (l0 : List Int) (l1 : List Int) : Option (List Int × Int) := (redoubtref10_Words.f k l1).bind fun bt136 => (if bt136.2 = 0 then ((redoubtref10_State.f k l0).bind fun t140 => (redoubtref10_Round.j0 k l0 bt136.1 (!t140))) else (redoubtref10_Round.j0 k l0 bt136.1 true))
theorem redoubtref10_Round.mono_l : ∀ k, (∀ y0 y1 y2, LeO (redoubtref10_Round.j0 k y0 y1 y2) (redoubtref10_Round.j0 (k + 1) y0 y1 y2)) ∧ (∀ y0 y1 y2 y3 y4, LeO (redoubtref10_Round.l0 k y0 y1 y2 y3 y4) (redoubtref10_Round.l0 (k + 1) y0 y1 y2 y3 y4)) ∧ (∀ y0 y1 y2, LeO (redoubtref10_Round.l1 k y0 y1 y2) (redoubtref10_Round.l1 (k + 1) y0 y1 y2))
  | 0 => ⟨fun _ _ _ r h => by simp [redoubtref10_Round.j0] at h, fun _ _ _ _ _ r h => by simp [redoubtref10_Round.l0] at h, fun _ _ _ r h => by simp [redoubtref10_Round.l1] at h⟩
  | k + 1 => by
    obtain ⟨ih0, ih1, ih2⟩ := redoubtref10_Round.mono_l k
    refine ⟨?_, ?_, ?_⟩
    · intro y0 y1 y2
      unfold redoubtref10_Round.j0
      repeat' first
      | (with_reducible exact ih0 _ _ _)
      | (with_reducible exact ih1 _ _ _ _ _)
      | (with_reducible exact ih2 _ _ _)
      | (with_reducible exact redoubtref10_State.mono _ _)
      | (with_reducible exact redoubtref10_Words.mono _ _)
      | (with_reducible exact redoubtref10_turn.mono _ _ _)
      | (with_reducible exact LeO.refl _)
      | (with_reducible exact LeO.none _)
      | (with_reducible refine LeO.ite ?_ ?_)
      | (with_reducible refine LeO.bind ?_ (fun _ => ?_))
      | exact ih0 _ _ _
      | exact ih1 _ _ _ _ _
      | exact ih2 _ _ _
      | exact redoubtref10_State.mono _ _
      | exact redoubtref10_Words.mono _ _
      | exact redoubtref10_turn.mono _ _ _
      | exact LeO.none _
      | refine LeO.ite ?_ ?_
      | refine LeO.bind ?_ (fun _ => ?_)
    · intro y0 y1 y2 y3 y4
      unfold redoubtref10_Round.l0
      repeat' first
      | (with_reducible exact ih0 _ _ _)
      | (with_reducible exact ih1 _ _ _ _ _)
      | (with_reducible exact ih2 _ _ _)
      | (with_reducible exact redoubtref10_State.mono _ _)
      | (with_reducible exact redoubtref10_Words.mono _ _)
      | (with_reducible exact redoubtref10_turn.mono _ _ _)
      | (with_reducible exact LeO.refl _)
      | (with_reducible exact LeO.none _)
      | (with_reducible refine LeO.ite ?_ ?_)
      | (with_reducible refine LeO.bind ?_ (fun _ => ?_))
      | exact ih0 _ _ _
      | exact ih1 _ _ _ _ _
      | exact ih2 _ _ _
      | exact redoubtref10_State.mono _ _
      | exact redoubtref10_Words.mono _ _
      | exact redoubtref10_turn.mono _ _ _
      | exact LeO.none _
      | refine LeO.ite ?_ ?_
      | refine LeO.bind ?_ (fun _ => ?_)
    · intro y0 y1 y2
      unfold redoubtref10_Round.l1
      repeat' first
      | (with_reducible exact ih0 _ _ _)
      | (with_reducible exact ih1 _ _ _ _ _)
      | (with_reducible exact ih2 _ _ _)
      | (with_reducible exact redoubtref10_State.mono _ _)
      | (with_reducible exact redoubtref10_Words.mono _ _)
      | (with_reducible exact redoubtref10_turn.mono _ _ _)
      | (with_reducible exact LeO.refl _)
      | (with_reducible exact LeO.none _)
      | (with_reducible refine LeO.ite ?_ ?_)
      | (with_reducible refine LeO.bind ?_ (fun _ => ?_))
      | exact ih0 _ _ _
      | exact ih1 _ _ _ _ _
      | exact ih2 _ _ _
      | exact redoubtref10_State.mono _ _
      | exact redoubtref10_Words.mono _ _
      | exact redoubtref10_turn.mono _ _ _
      | exact LeO.none _
      | refine LeO.ite ?_ ?_
      | refine LeO.bind ?_ (fun _ => ?_)
theorem redoubtref10_Round.mono : ∀ a0 a1 k, LeO (redoubtref10_Round.f k a0 a1) (redoubtref10_Round.f (k + 1) a0 a1) := by
  intro a0 a1 k
  obtain ⟨ih0, ih1, ih2⟩ := redoubtref10_Round.mono_l k
  unfold redoubtref10_Round.f
  repeat' first
      | (with_reducible exact ih0 _ _ _)
      | (with_reducible exact ih1 _ _ _ _ _)
      | (with_reducible exact ih2 _ _ _)
      | (with_reducible exact redoubtref10_State.mono _ _)
      | (with_reducible exact redoubtref10_Words.mono _ _)
      | (with_reducible exact redoubtref10_turn.mono _ _ _)
      | (with_reducible exact LeO.refl _)
      | (with_reducible exact LeO.none _)
      | (with_reducible refine LeO.ite ?_ ?_)
      | (with_reducible refine LeO.bind ?_ (fun _ => ?_))
      | exact ih0 _ _ _
      | exact ih1 _ _ _ _ _
      | exact ih2 _ _ _
      | exact redoubtref10_State.mono _ _
      | exact redoubtref10_Words.mono _ _
      | exact redoubtref10_turn.mono _ _ _
      | exact LeO.none _
      | refine LeO.ite ?_ ?_
      | refine LeO.bind ?_ (fun _ => ?_)
def redoubtref10_Round.T12 : Bool × List (List Nat × List Nat) := (true, [([], []), ([], []), ([1], [1]), ([2], [2]), ([0, 3], [0, 3]), ([], []), ([5], [5]), ([], []), ([7], [7]), ([8], [8]), ([6, 9], [6, 9]), ([4, 10], [4, 10]), ([11, 0, 1, 2, 3, 4, 5, 6, 7, 8, 9, 10, 11], [11])])
def redoubtref10_Round.B12 : List Nat := [0, 0, 2, 6, 15, 0, 32, 0, 128, 384, 992, 2047, 4095]
theorem redoubtref10_Round.tab12 : rtab .any (opsOf Tryd.f16 12) = redoubtref10_Round.T12 := by kernel_rfl
theorem redoubtref10_Round.bits12 : waitsOk redoubtref10_Round.T12.2 redoubtref10_Round.B12 = true := by kernel_rfl
def redoubtref10_Round.T13 : Bool × List (List Nat × List Nat) := (true, [([], []), ([], []), ([1], [1]), ([2], [2]), ([0, 3], [0, 3]), ([], []), ([], []), ([6], [6]), ([7], [7]), ([5, 8], [5, 8]), ([4, 9], [4, 9]), ([], []), ([11], [11]), ([12], [12]), ([], []), ([14], [14]), ([15], [15]), ([13, 16], [13, 16]), ([10, 17], [10, 17]), ([18, 0, 1, 2, 3, 4, 5, 6, 7, 8, 9, 10, 11, 12, 13, 14, 15, 16, 17, 18], [18])])
def redoubtref10_Round.B13 : List Nat := [0, 0, 2, 6, 15, 0, 0, 64, 192, 480, 1023, 0, 2048, 6144, 0, 16384, 49152, 129024, 262143, 524287]
theorem redoubtref10_Round.tab13 : rtab .any (opsOf Tryd.f16 13) = redoubtref10_Round.T13 := by kernel_rfl
theorem redoubtref10_Round.bits13 : waitsOk redoubtref10_Round.T13.2 redoubtref10_Round.B13 = true := by kernel_rfl
def redoubtref10_Round.T14 : Bool × List (List Nat × List Nat) := (true, [([], []), ([0], [0]), ([1], [1]), ([], []), ([3], [3]), ([], []), ([5, 4], [5]), ([4, 6], [4, 6]), ([], []), ([8, 6], [8]), ([7, 9], [7, 9]), ([2, 10], [2, 10]), ([], []), ([11, 12], [11, 12]), ([], []), ([], []), ([14, 15], [14, 15]), ([16], [16]), ([13, 17], [13, 17]), ([], []), ([], []), ([19, 20], [19, 20]), ([21], [21]), ([18, 22], [18, 22]), ([23, 9, 0, 1, 2, 3, 4, 5, 6, 7, 8, 9, 10, 11, 12, 13, 14, 15, 16, 17, 18, 19, 20, 21, 22, 23], [23])])
def redoubtref10_Round.B14 : List Nat := [0, 1, 3, 0, 8, 0, 56, 120, 0, 376, 1016, 2047, 0, 8191, 0, 0, 49152, 114688, 262143, 0, 0, 1572864, 3670016, 8388607, 16777215]
theorem redoubtref10_Round.tab14 : rtab .any (opsOf Tryd.f16 14) = redoubtref10_Round.T14 := by kernel_rfl
theorem redoubtref10_Round.bits14 : waitsOk redoubtref10_Round.T14.2 redoubtref10_Round.B14 = true := by kernel_rfl
def redoubtref10_Round.T16 : Bool × List (List Nat × List Nat) := (true, [([], []), ([], []), ([0, 1], [0, 1]), ([2], [2]), ([], []), ([4], [4]), ([5], [5]), ([], []), ([7], [7]), ([8], [8]), ([], []), ([10], [10]), ([11], [11]), ([], []), ([13], [13]), ([14], [14]), ([], []), ([15, 16], [15, 16]), ([17], [17]), ([], []), ([19], [19]), ([20], [20]), ([], []), ([22], [22]), ([23], [23]), ([], []), ([25], [25]), ([26], [26]), ([3, 6, 9, 12, 18, 21, 24, 27], [3, 6, 9, 12, 18, 21, 24, 27]), ([28, 0, 1, 2, 3, 4, 5, 6, 7, 8, 9, 10, 11, 12, 13, 14, 15, 16, 17, 18, 19, 20, 21, 22, 23, 24, 25, 26, 27, 28], [4, 7, 10, 13, 19, 22, 25, 28])])
def redoubtref10_Round.B16 : List Nat := [0, 0, 3, 7, 0, 16, 48, 0, 128, 384, 0, 1024, 3072, 0, 8192, 24576, 0, 122880, 253952, 0, 524288, 1572864, 0, 4194304, 12582912, 0, 33554432, 100663296, 268435455, 536870911]
theorem redoubtref10_Round.tab16 : rtab .any (opsOf Tryd.f16 16) = redoubtref10_Round.T16 := by kernel_rfl
theorem redoubtref10_Round.bits16 : waitsOk redoubtref10_Round.T16.2 redoubtref10_Round.B16 = true := by kernel_rfl
def redoubtref10_Round.T20 : Bool × List (List Nat × List Nat) := (true, [([], []), ([], []), ([], []), ([], []), ([2, 3], [2, 3]), ([4], [4]), ([], []), ([], []), ([6, 7], [6, 7]), ([8], [8]), ([5, 9], [5, 9]), ([10], [10]), ([0, 1, 0, 1, 2, 3, 4, 5, 6, 7, 8, 9, 10, 11], [0, 1]), ([12, 11, 0, 1, 2, 3, 4, 5, 6, 7, 8, 9, 10, 11], [11, 12])])
def redoubtref10_Round.B20 : List Nat := [0, 0, 0, 0, 12, 28, 0, 0, 192, 448, 1020, 2044, 4095, 8191]
theorem redoubtref10_Round.tab20 : rtab .any (opsOf Tryd.f16 20) = redoubtref10_Round.T20 := by kernel_rfl
theorem redoubtref10_Round.bits20 : waitsOk redoubtref10_Round.T20.2 redoubtref10_Round.B20 = true := by kernel_rfl
set_option maxHeartbeats 8000000 in
set_option maxRecDepth 100000 in
theorem redoubtref10_Round.calls (k : Nat) (A0 : Option Addr) (c0 : Nat) (l0 : List Int) (A1 : Option Addr) (c1 : Nat) (l1 : List Int) (r1 : List Int) (r2 : Int) (w : World) (hr0 : Kd.C (Kd.int .i64) w A0 l0.length l0) (hc0 : l0.length ≤ c0) (hr1 : Kd.C (Kd.int .u8) w A1 l1.length l1) (hc1 : l1.length ≤ c1) (h : redoubtref10_Round.f k l0 l1 = some (r1, r2)) :
    Calls Tryd.prog 16 #[.slice A0 l0.length c0, .slice A1 l1.length c1] w fun e w' => ∃ v0_ : Value, e = .returned (.tuple #[v0_, .int .i64 r2]) ∧ Kd.R (Kd.int .i64) 3 w' w.heap.size (fun _ => True) v0_ r1 ∧ Below w.heap.size w w' := by
  have HR0 := Aside0.mk hr0
  have HC0 := Aside0.mk hc0
  clear hr0 hc0
  have HR1 := Aside0.mk hr1
  have HC1 := Aside0.mk hc1
  clear hr1 hc1
  have HB := Aside0.mk (Below.refl w.heap.size w)
  have H : ((redoubtref10_Words.f k l1).bind fun bt136 => (if bt136.2 = 0 then ((redoubtref10_State.f k l0).bind fun t140 => (redoubtref10_Round.j0 k l0 bt136.1 (!t140))) else (redoubtref10_Round.j0 k l0 bt136.1 true))) = some (r1, r2) := h
  clear h
  replace H := Option.bind_eq_some_iff.mp H
  obtain ⟨⟨t136, t137⟩, A30, H⟩ := H
  replace H : (if t137 = 0 then ((redoubtref10_State.f k l0).bind fun t140 => (redoubtref10_Round.j0 k l0 t136 (!t140))) else (redoubtref10_Round.j0 k l0 t136 true)) = some (r1, r2) := H
  have A3 := Aside0.mk A30
  clear A30
  have HC4 := Aside0.mk H
  clear H
  go_enter Tryd.func16, Tryd.ntmps16
  go_upto_region 2 with (first | ((with_reducible refine gate_callee (f := 15) rfl ?_); refine goesL_ (some 20) rfl rfl Tryd.func15 (by kernel_rfl) rfl #[.slice A1 l1.length c1] rfl (by (try simp only [List.map_toArray, List.map_cons, List.map_nil]); first | done | rfl | (simp only [List.length_drop, List.length_take]; rfl)) ?_; (with_reducible refine (redoubtref10_Words.calls k _ _ l1 t136 t137 _ ?side1 ?side2 A3.out).mono ?_); (case side1 => repeat (first | exact HR1.out | (with_reducible refine Kd.C_alloc ?_ _) | (with_reducible refine Kd.C_drewN ?_ _) | (with_reducible refine Kd.C_drew ?_))); (case side2 => exact HC1.out); rintro e w5 ⟨v138, rfl, ho0, hb⟩; refine ⟨_, rfl, ?_⟩; have n0_ := Aside0.mk (Kd.R_lower ho0 (below_size (by repeat (first | (with_reducible first | exact HB.out | apply below_alloc | apply pw_below_drewN | apply below_drew1) | exact HB.out)))); have n1_ := Aside0.mk (below_step (by repeat (first | (with_reducible first | exact HB.out | apply below_alloc | apply pw_below_drewN | apply below_drew1) | exact HB.out)) hb); clear HB; have HO139 := n0_; have HB := n1_; clear n0_ n1_; (try clear hb); (try clear hb2); (try clear hk); (try clear hi); (try clear ho0)))
  (try simp only [Act.put, List.setIfInBounds_toArray, List.set_cons_zero, List.set_cons_succ])
  go_cut [29] (fun v29 wc => ∃ (kq : Nat) (x29_3 : Bool), v29 = .bool x29_3 ∧ Aside0 (redoubtref10_Round.j0 kq l0 t136 x29_3 = some (r1, r2)) ∧ Aside0 (kq ≤ k) ∧ Aside0 (Kd.R (Kd.int .i64) 3 wc w.heap.size (fun _ => True) v138 t136) ∧ Aside0 (Below w.heap.size w wc))
  case first =>
    have H := HC4.out
    clear HC4
    by_cases c6 : t137 = 0
    · rw [if_pos c6] at H
      have c6b0 : (t137 == 0) = true := beq_iff_eq.mpr c6
      have c6b1 : (t137 != 0) = false := bne_eq_false_iff_eq.mpr c6
      clear c6
      (first | rw [c6b0] | (simp only [i64_w, i32_w]; rw [c6b0]) | skip)
      replace H := Option.bind_eq_some_iff.mp H
      obtain ⟨t140, A70, H⟩ := H
      replace H : (redoubtref10_Round.j0 k l0 t136 (!t140)) = some (r1, r2) := H
      have A7 := Aside0.mk A70
      clear A70
      have H' := Aside0.mk H
      clear H
      go_wp2_with (first | (go_at_call 27; (with_reducible refine (redoubtref10_State.calls k _ _ l0 t140 _ ?side1 ?side2 A7.out).mono ?_); (case side1 => repeat (first | exact (Kd.C_below HR0.out HB.out) | (with_reducible refine Kd.C_alloc ?_ _) | (with_reducible refine Kd.C_drewN ?_ _) | (with_reducible refine Kd.C_drew ?_))); (case side2 => exact HC0.out); rintro e w' ⟨rfl, ⟨nd, rfl⟩⟩))
      go_meet
      case rel => exact ⟨_, (!t140), (by first | rfl | (simp; done) | (simp [*]; done)), H', ⟨by first | omega | exact Nat.le_refl _⟩, ⟨by (with_reducible repeat (first | apply Kd.R_alloc | apply Kd.R_drewN | apply Kd.R_drew)); exact HO139.out⟩, ⟨by repeat (first | (with_reducible first | exact HB.out | apply below_alloc | apply pw_below_drewN | apply below_drew1) | exact HB.out)⟩⟩
    · rw [if_neg c6] at H
      have c6b0 : (t137 == 0) = false := beq_eq_false_iff_ne.mpr c6
      have c6b1 : (t137 != 0) = true := bne_iff_ne.mpr c6
      (first | rw [c6b0] | (simp only [i64_w, i32_w]; rw [c6b0]) | skip)
      have H' := Aside0.mk H
      clear H
      go_wp2
      go_meet
      case rel => exact ⟨_, (true), (by first | rfl | (simp; done) | (simp [*]; done)), H', ⟨by first | omega | exact Nat.le_refl _⟩, ⟨by (with_reducible repeat (first | apply Kd.R_alloc | apply Kd.R_drewN | apply Kd.R_drew)); exact HO139.out⟩, ⟨by repeat (first | (with_reducible first | exact HB.out | apply below_alloc | apply pw_below_drewN | apply below_drew1) | exact HB.out)⟩⟩
  case rest =>
    clear HC4
    try clear c1
    try clear p2
    try clear c6
    try clear c6b0
    try clear c6b1
    obtain ⟨kq, x29_3, rfl, HA, HJ3, HO_6, HB⟩ := hcut
    cases kq with
    | zero => exact absurd HA.out (by simp [redoubtref10_Round.j0])
    | succ kj3 =>
      have H := HA.out
      clear HA
      simp only [redoubtref10_Round.j0] at H
      by_cases c8 : x29_3 = true
      · subst c8
        have H1 : (some (([] : List Int), 1)) = some (r1, r2) := by rw [if_pos rfl] at H; exact H
        clear H
        have H := H1
        clear H1
        simp only [Option.some.injEq, Prod.mk.injEq] at H
        obtain ⟨rfl, rfl⟩ := H
        go_wp2
        go_ret2
        exact ⟨_, by first | rfl | (simp [errW_none, errW_some] <;> rfl) | (simp [*, errW_none, errW_some] <;> rfl), by first | exact Kd.R_nil _ _ _ _ _ | exact Kd.N_nil _ _ _ _ _ | exact Kd.V_nil _ _ _ _ _ | exact Kd.Q_nil _ _ _ _ _ | exact Kd.S_nil _ _ _ _ _, by repeat (first | (with_reducible first | exact HB.out | apply below_alloc | apply pw_below_drewN | apply below_drew1) | exact HB.out)⟩
      · replace c8 := Bool.eq_false_iff.mpr c8
        subst c8
        have H1 : ((redoubtref10_Constants.f).bind fun t141 => (if ([] : List Int).length + l0.length < 17592186044416 then (redoubtref10_Round.l0 kj3 l0 t136 t141 (([] : List Int) ++ l0) 0) else (none))) = some (r1, r2) := by rw [if_neg (show ¬ (false = true) by decide)] at H; exact H
        clear H
        have H := H1
        clear H1
        replace H := Option.bind_eq_some_iff.mp H
        obtain ⟨t141, A90, H⟩ := H
        replace H : (if ([] : List Int).length + l0.length < 17592186044416 then (redoubtref10_Round.l0 kj3 l0 t136 t141 (([] : List Int) ++ l0) 0) else (none)) = some (r1, r2) := H
        have A9 := Aside0.mk A90
        clear A90
        by_cases c10 : ([] : List Int).length + l0.length < 17592186044416
        · rw [if_pos c10] at H
          have LMc10 := Aside0.mk c10
          clear c10
          obtain ⟨y144, hy144⟩ : ∃ y_ : List Int, y_ = (([] : List Int) ++ l0) := ⟨_, rfl⟩
          replace H : (redoubtref10_Round.l0 kj3 l0 t136 t141 y144 0) = some (r1, r2) := by first | (rw [hy144]; with_reducible exact H) | (have H2_ := (Option.bind_some _ _).symm.trans H; rw [hy144]; with_reducible exact H2_) | (have H2_ := (Option.bind_some _ _).symm.trans H; with_reducible exact H2_) | with_reducible exact H | (rw [hy144]; exact H) | exact H
          have Ny144 := Aside0.mk hy144
          clear hy144
          have H' := Aside0.mk H
          clear H
          go_wp2_with (first | ((with_reducible refine gate_callee (f := 22) rfl ?_); refine goesL_ (some 30) rfl rfl Tryd.func22 (by kernel_rfl) rfl #[] rfl (by (try simp only [List.map_toArray, List.map_cons, List.map_nil]); first | done | rfl | (simp only [List.length_drop, List.length_take]; rfl)) ?_; (with_reducible refine (redoubtref10_Constants.calls  t141 _ A9.out).mono ?_); rintro e w11 ⟨v142, rfl, ho0, hb⟩; refine ⟨_, rfl, ?_⟩; have n0_ := Aside0.mk (Kd.R_elder' (by (with_reducible repeat (first | apply Kd.R_alloc | apply Kd.R_drewN | apply Kd.R_drew)); exact HO_6.out) (Kd.R_base ho0) hb); have n1_ := Aside0.mk (Kd.R_lower (Kd.R_new' ho0 (Kd.R_lt (by (with_reducible repeat (first | apply Kd.R_alloc | apply Kd.R_drewN | apply Kd.R_drew)); exact HO_6.out))) (below_size (by repeat (first | (with_reducible first | exact HB.out | apply below_alloc | apply pw_below_drewN | apply below_drew1) | exact HB.out)))); have n2_ := Aside0.mk (below_step (by repeat (first | (with_reducible first | exact HB.out | apply below_alloc | apply pw_below_drewN | apply below_drew1) | exact HB.out)) hb); clear HO_6; clear HB; have HO_6 := n0_; have HO143 := n1_; have HB := n2_; clear n0_ n1_ n2_; (try clear hb); (try clear hb2); (try clear hk); (try clear hi); (try clear ho0)) | ((with_reducible refine gate_builtin (b := .append) (xs := #[.tmp 31, .tmp 32]) rfl ?_); at_builtin; refine Kd.R_append_rows (Kd.int .i64) (w0 := w) w.heap.size rfl (.tmp 31) (.tmp 32) 31 3 (.int .i64 0) 8 rfl Tryd.underlying31 info3 rfl (by decide) (by omega) (.slice none 0 0) ([] : List Int) l0 _ _ _ (fun k_ => some k_ ≠ (v138 : Value).ownBlock ∧ some k_ ≠ (v142 : Value).ownBlock) (fun _ => False) rfl rfl ?aO ?aR (fun _ _ h => h) (fun _ h => h.elim) ?aF ?aB ?aS ?aL ?_; (case aR => repeat (first | exact (Kd.C_below HR0.out HB.out) | (with_reducible refine Kd.C_alloc ?_ _) | (with_reducible refine Kd.C_drewN ?_ _) | (with_reducible refine Kd.C_drew ?_))); (case aB => exact (by repeat (first | (with_reducible first | exact HB.out | apply below_alloc | apply pw_below_drewN | apply below_drew1) | exact HB.out))); (case aF => exact (fun k_ hk => ⟨Kd.fresh' (Kd.R_lt (by (with_reducible repeat (first | apply Kd.R_alloc | apply Kd.R_drewN | apply Kd.R_drew)); exact HO_6.out)) k_ hk, Kd.fresh' (Kd.R_lt (by (with_reducible repeat (first | apply Kd.R_alloc | apply Kd.R_drewN | apply Kd.R_drew)); exact HO143.out)) k_ hk⟩)); (case aO => exact ((Kd.R_nil _ _ _ _ (fun k_ => some k_ ≠ (v138 : Value).ownBlock ∧ some k_ ≠ (v142 : Value).ownBlock)))); (case aS => exact (below_size (by repeat (first | (with_reducible first | exact HB.out | apply below_alloc | apply pw_below_drewN | apply below_drew1) | exact HB.out)))); (case aL => have := LMc10.out; omega); intro v145 w12 ho hb hg hat; rw [← Ny144.out] at ho; have n0_ := Aside0.mk (Kd.R_after (Kd.R_apart_nil (by (with_reducible repeat (first | apply Kd.R_alloc | apply Kd.R_drewN | apply Kd.R_drew)); exact HO_6.out)) hg hat); have n1_ := Aside0.mk (Kd.R_after (Kd.R_apart_nil (by (with_reducible repeat (first | apply Kd.R_alloc | apply Kd.R_drewN | apply Kd.R_drew)); exact HO143.out)) hg hat); have n2_ := Aside0.mk (hb); have n3_ := Aside0.mk (ho); clear HO_6; clear HO143; clear HB; have HO_6 := n0_; have HO143 := n1_; have HB := n2_; have HO146 := n3_; clear n0_ n1_ n2_ n3_; clear ho hb hg hat))
          go_loopg [9, 10] kj3 (fun kq v9 v10 w' => ∃ (x9_2 : List Int) (x10_2 : Int), v10 = .int .i64 x10_2 ∧ Aside0 (redoubtref10_Round.l0 kq l0 t136 t141 x9_2 x10_2 = some (r1, r2)) ∧ Aside0 (kq ≤ kj3) ∧ Aside0 (Kd.R (Kd.int .i64) 3 w' w.heap.size (fun k_ => some k_ ≠ (v142 : Value).ownBlock ∧ some k_ ≠ (v9 : Value).ownBlock) v138 t136) ∧ Aside0 (Kd.R (Kd.int .i64) 3 w' w.heap.size (fun k_ => some k_ ≠ (v138 : Value).ownBlock ∧ some k_ ≠ (v9 : Value).ownBlock) v142 t141) ∧ Aside0 (Kd.R (Kd.int .i64) 3 w' w.heap.size (fun k_ => some k_ ≠ (v138 : Value).ownBlock ∧ some k_ ≠ (v142 : Value).ownBlock) v9 x9_2) ∧ Aside0 (Below w.heap.size w w'))
          case atStart => exact ⟨(y144), (0), (by first | rfl | (simp; done) | (simp [*]; done)), H', ⟨Nat.le_refl _⟩, ⟨by (with_reducible repeat (first | apply Kd.R_alloc | apply Kd.R_drewN | apply Kd.R_drew)); exact Kd.R_mono HO_6.out (fun _ hk => ⟨hk.1.2, hk.2⟩)⟩, ⟨by (with_reducible repeat (first | apply Kd.R_alloc | apply Kd.R_drewN | apply Kd.R_drew)); exact Kd.R_mono HO143.out (fun _ hk => ⟨hk.1.2, hk.2⟩)⟩, ⟨by (with_reducible repeat (first | apply Kd.R_alloc | apply Kd.R_drewN | apply Kd.R_drew)); exact HO146.out⟩, ⟨by repeat (first | (with_reducible first | exact HB.out | apply below_alloc | apply pw_below_drewN | apply below_drew1) | exact HB.out)⟩⟩
          case round =>
            clear H'
            try clear c1
            try clear c2
            try clear p2
            try clear c6
            try clear c6b0
            try clear c6b1
            try clear c8
            try clear c10
            try clear p2
            obtain ⟨x9_2, x10_2, rfl, HA, HK2, HO_6, HO_8, HO_9, HB⟩ := hrel
            cases gk with
            | zero => exact absurd HA.out (by simp [redoubtref10_Round.l0])
            | succ k2 =>
              have H := HA.out
              clear HA
              simp only [redoubtref10_Round.l0] at H
              by_cases c13 : x10_2 < 64
              · rw [if_pos c13] at H
                have c13b0 : decide (x10_2 < 64) = true := decide_eq_true c13
                clear c13
                by_cases c14 : 0 < (x9_2.length : Int)
                · rw [if_pos c14] at H
                  have c14b0 : decide (0 < (x9_2.length : Int)) = true := decide_eq_true c14
                  have c14b1 : decide (0 < x9_2.length) = true := decide_eq_true (by omega)
                  clear c14
                  by_cases c15 : 4 < (x9_2.length : Int)
                  · rw [if_pos c15] at H
                    have c15b0 : decide (4 < (x9_2.length : Int)) = true := decide_eq_true c15
                    have c15b1 : decide (4 < x9_2.length) = true := decide_eq_true (by omega)
                    clear c15
                    by_cases c16 : 5 < (x9_2.length : Int)
                    · rw [if_pos c16] at H
                      have c16b0 : decide (5 < (x9_2.length : Int)) = true := decide_eq_true c16
                      have c16b1 : decide (5 < x9_2.length) = true := decide_eq_true (by omega)
                      clear c16
                      by_cases c17 : 6 < (x9_2.length : Int)
                      · rw [if_pos c17] at H
                        have c17b0 : decide (6 < (x9_2.length : Int)) = true := decide_eq_true c17
                        have c17b1 : decide (6 < x9_2.length) = true := decide_eq_true (by omega)
                        clear c17
                        by_cases c18 : 1 < (x9_2.length : Int)
                        · rw [if_pos c18] at H
                          have c18b0 : decide (1 < (x9_2.length : Int)) = true := decide_eq_true c18
                          have c18b1 : decide (1 < x9_2.length) = true := decide_eq_true (by omega)
                          clear c18
                          by_cases c19 : 2 < (x9_2.length : Int)
                          · rw [if_pos c19] at H
                            have c19b0 : decide (2 < (x9_2.length : Int)) = true := decide_eq_true c19
                            have c19b1 : decide (2 < x9_2.length) = true := decide_eq_true (by omega)
                            clear c19
                            by_cases c20 : 7 < (x9_2.length : Int)
                            · rw [if_pos c20] at H
                              have c20b0 : decide (7 < (x9_2.length : Int)) = true := decide_eq_true c20
                              have c20b1 : decide (7 < x9_2.length) = true := decide_eq_true (by omega)
                              clear c20
                              replace H := Option.bind_eq_some_iff.mp H
                              obtain ⟨t156, A210, H⟩ := H
                              replace H : ((redoubtref10_turn.f k2 (rd x9_2 4) 11).bind fun t157 => ((redoubtref10_turn.f k2 (rd x9_2 4) 25).bind fun t158 => (if 0 ≤ x10_2 then (if x10_2 < (t141.length : Int) then (if x10_2 < (t136.length : Int) then ((redoubtref10_turn.f k2 (rd x9_2 0) 2).bind fun t161 => ((redoubtref10_turn.f k2 (rd x9_2 0) 13).bind fun t162 => ((redoubtref10_turn.f k2 (rd x9_2 0) 22).bind fun t163 => (if 3 < (x9_2.length : Int) then (redoubtref10_Round.l0 k2 l0 t136 t141 (([Int.tmod (wrap64 ((wrap64 ((wrap64 ((wrap64 ((wrap64 ((rd x9_2 7) + (Go.bits .xor .i64 (Go.bits .xor .i64 t156 t157) t158))) + (Go.bits .xor .i64 (Go.bits .and .i64 (rd x9_2 4) (rd x9_2 5)) (Go.bits .and .i64 (wrap64 (4294967295 - (rd x9_2 4))) (rd x9_2 6))))) + (rd t141 x10_2))) + (rd t136 x10_2))) + (wrap64 ((Go.bits .xor .i64 (Go.bits .xor .i64 t161 t162) t163) + (Go.bits .xor .i64 (Go.bits .xor .i64 (Go.bits .and .i64 (rd x9_2 0) (rd x9_2 1)) (Go.bits .and .i64 (rd x9_2 0) (rd x9_2 2))) (Go.bits .and .i64 (rd x9_2 1) (rd x9_2 2))))))) 4294967296, rd x9_2 0, rd x9_2 1, rd x9_2 2, Int.tmod (wrap64 ((rd x9_2 3) + (wrap64 ((wrap64 ((wrap64 ((wrap64 ((rd x9_2 7) + (Go.bits .xor .i64 (Go.bits .xor .i64 t156 t157) t158))) + (Go.bits .xor .i64 (Go.bits .and .i64 (rd x9_2 4) (rd x9_2 5)) (Go.bits .and .i64 (wrap64 (4294967295 - (rd x9_2 4))) (rd x9_2 6))))) + (rd t141 x10_2))) + (rd t136 x10_2))))) 4294967296, rd x9_2 4, rd x9_2 5, rd x9_2 6] : List Int)) (wrap64 (x10_2 + 1))) else (none))))) else (none)) else (none)) else (none)))) = some (r1, r2) := H
                              have A21 := Aside0.mk A210
                              clear A210
                              replace H := Option.bind_eq_some_iff.mp H
                              obtain ⟨t157, A220, H⟩ := H
                              replace H : ((redoubtref10_turn.f k2 (rd x9_2 4) 25).bind fun t158 => (if 0 ≤ x10_2 then (if x10_2 < (t141.length : Int) then (if x10_2 < (t136.length : Int) then ((redoubtref10_turn.f k2 (rd x9_2 0) 2).bind fun t161 => ((redoubtref10_turn.f k2 (rd x9_2 0) 13).bind fun t162 => ((redoubtref10_turn.f k2 (rd x9_2 0) 22).bind fun t163 => (if 3 < (x9_2.length : Int) then (redoubtref10_Round.l0 k2 l0 t136 t141 (([Int.tmod (wrap64 ((wrap64 ((wrap64 ((wrap64 ((wrap64 ((rd x9_2 7) + (Go.bits .xor .i64 (Go.bits .xor .i64 t156 t157) t158))) + (Go.bits .xor .i64 (Go.bits .and .i64 (rd x9_2 4) (rd x9_2 5)) (Go.bits .and .i64 (wrap64 (4294967295 - (rd x9_2 4))) (rd x9_2 6))))) + (rd t141 x10_2))) + (rd t136 x10_2))) + (wrap64 ((Go.bits .xor .i64 (Go.bits .xor .i64 t161 t162) t163) + (Go.bits .xor .i64 (Go.bits .xor .i64 (Go.bits .and .i64 (rd x9_2 0) (rd x9_2 1)) (Go.bits .and .i64 (rd x9_2 0) (rd x9_2 2))) (Go.bits .and .i64 (rd x9_2 1) (rd x9_2 2))))))) 4294967296, rd x9_2 0, rd x9_2 1, rd x9_2 2, Int.tmod (wrap64 ((rd x9_2 3) + (wrap64 ((wrap64 ((wrap64 ((wrap64 ((rd x9_2 7) + (Go.bits .xor .i64 (Go.bits .xor .i64 t156 t157) t158))) + (Go.bits .xor .i64 (Go.bits .and .i64 (rd x9_2 4) (rd x9_2 5)) (Go.bits .and .i64 (wrap64 (4294967295 - (rd x9_2 4))) (rd x9_2 6))))) + (rd t141 x10_2))) + (rd t136 x10_2))))) 4294967296, rd x9_2 4, rd x9_2 5, rd x9_2 6] : List Int)) (wrap64 (x10_2 + 1))) else (none))))) else (none)) else (none)) else (none))) = some (r1, r2) := H
                              have A22 := Aside0.mk A220
                              clear A220
                              replace H := Option.bind_eq_some_iff.mp H
                              obtain ⟨t158, A230, H⟩ := H
                              replace H : (if 0 ≤ x10_2 then (if x10_2 < (t141.length : Int) then (if x10_2 < (t136.length : Int) then ((redoubtref10_turn.f k2 (rd x9_2 0) 2).bind fun t161 => ((redoubtref10_turn.f k2 (rd x9_2 0) 13).bind fun t162 => ((redoubtref10_turn.f k2 (rd x9_2 0) 22).bind fun t163 => (if 3 < (x9_2.length : Int) then (redoubtref10_Round.l0 k2 l0 t136 t141 (([Int.tmod (wrap64 ((wrap64 ((wrap64 ((wrap64 ((wrap64 ((rd x9_2 7) + (Go.bits .xor .i64 (Go.bits .xor .i64 t156 t157) t158))) + (Go.bits .xor .i64 (Go.bits .and .i64 (rd x9_2 4) (rd x9_2 5)) (Go.bits .and .i64 (wrap64 (4294967295 - (rd x9_2 4))) (rd x9_2 6))))) + (rd t141 x10_2))) + (rd t136 x10_2))) + (wrap64 ((Go.bits .xor .i64 (Go.bits .xor .i64 t161 t162) t163) + (Go.bits .xor .i64 (Go.bits .xor .i64 (Go.bits .and .i64 (rd x9_2 0) (rd x9_2 1)) (Go.bits .and .i64 (rd x9_2 0) (rd x9_2 2))) (Go.bits .and .i64 (rd x9_2 1) (rd x9_2 2))))))) 4294967296, rd x9_2 0, rd x9_2 1, rd x9_2 2, Int.tmod (wrap64 ((rd x9_2 3) + (wrap64 ((wrap64 ((wrap64 ((wrap64 ((rd x9_2 7) + (Go.bits .xor .i64 (Go.bits .xor .i64 t156 t157) t158))) + (Go.bits .xor .i64 (Go.bits .and .i64 (rd x9_2 4) (rd x9_2 5)) (Go.bits .and .i64 (wrap64 (4294967295 - (rd x9_2 4))) (rd x9_2 6))))) + (rd t141 x10_2))) + (rd t136 x10_2))))) 4294967296, rd x9_2 4, rd x9_2 5, rd x9_2 6] : List Int)) (wrap64 (x10_2 + 1))) else (none))))) else (none)) else (none)) else (none)) = some (r1, r2) := H
                              have A23 := Aside0.mk A230
                              clear A230
                              by_cases c24 : 0 ≤ x10_2
                              · rw [if_pos c24] at H
                                have c24b0 : decide (0 ≤ x10_2) = true := decide_eq_true c24
                                clear c24
                                by_cases c25 : x10_2 < (t141.length : Int)
                                · rw [if_pos c25] at H
                                  have c25b0 : decide (x10_2 < (t141.length : Int)) = true := decide_eq_true c25
                                  clear c25
                                  by_cases c26 : x10_2 < (t136.length : Int)
                                  · rw [if_pos c26] at H
                                    have c26b0 : decide (x10_2 < (t136.length : Int)) = true := decide_eq_true c26
                                    clear c26
                                    replace H := Option.bind_eq_some_iff.mp H
                                    obtain ⟨t161, A270, H⟩ := H
                                    replace H : ((redoubtref10_turn.f k2 (rd x9_2 0) 13).bind fun t162 => ((redoubtref10_turn.f k2 (rd x9_2 0) 22).bind fun t163 => (if 3 < (x9_2.length : Int) then (redoubtref10_Round.l0 k2 l0 t136 t141 (([Int.tmod (wrap64 ((wrap64 ((wrap64 ((wrap64 ((wrap64 ((rd x9_2 7) + (Go.bits .xor .i64 (Go.bits .xor .i64 t156 t157) t158))) + (Go.bits .xor .i64 (Go.bits .and .i64 (rd x9_2 4) (rd x9_2 5)) (Go.bits .and .i64 (wrap64 (4294967295 - (rd x9_2 4))) (rd x9_2 6))))) + (rd t141 x10_2))) + (rd t136 x10_2))) + (wrap64 ((Go.bits .xor .i64 (Go.bits .xor .i64 t161 t162) t163) + (Go.bits .xor .i64 (Go.bits .xor .i64 (Go.bits .and .i64 (rd x9_2 0) (rd x9_2 1)) (Go.bits .and .i64 (rd x9_2 0) (rd x9_2 2))) (Go.bits .and .i64 (rd x9_2 1) (rd x9_2 2))))))) 4294967296, rd x9_2 0, rd x9_2 1, rd x9_2 2, Int.tmod (wrap64 ((rd x9_2 3) + (wrap64 ((wrap64 ((wrap64 ((wrap64 ((rd x9_2 7) + (Go.bits .xor .i64 (Go.bits .xor .i64 t156 t157) t158))) + (Go.bits .xor .i64 (Go.bits .and .i64 (rd x9_2 4) (rd x9_2 5)) (Go.bits .and .i64 (wrap64 (4294967295 - (rd x9_2 4))) (rd x9_2 6))))) + (rd t141 x10_2))) + (rd t136 x10_2))))) 4294967296, rd x9_2 4, rd x9_2 5, rd x9_2 6] : List Int)) (wrap64 (x10_2 + 1))) else (none)))) = some (r1, r2) := H
                                    have A27 := Aside0.mk A270
                                    clear A270
                                    replace H := Option.bind_eq_some_iff.mp H
                                    obtain ⟨t162, A280, H⟩ := H
                                    replace H : ((redoubtref10_turn.f k2 (rd x9_2 0) 22).bind fun t163 => (if 3 < (x9_2.length : Int) then (redoubtref10_Round.l0 k2 l0 t136 t141 (([Int.tmod (wrap64 ((wrap64 ((wrap64 ((wrap64 ((wrap64 ((rd x9_2 7) + (Go.bits .xor .i64 (Go.bits .xor .i64 t156 t157) t158))) + (Go.bits .xor .i64 (Go.bits .and .i64 (rd x9_2 4) (rd x9_2 5)) (Go.bits .and .i64 (wrap64 (4294967295 - (rd x9_2 4))) (rd x9_2 6))))) + (rd t141 x10_2))) + (rd t136 x10_2))) + (wrap64 ((Go.bits .xor .i64 (Go.bits .xor .i64 t161 t162) t163) + (Go.bits .xor .i64 (Go.bits .xor .i64 (Go.bits .and .i64 (rd x9_2 0) (rd x9_2 1)) (Go.bits .and .i64 (rd x9_2 0) (rd x9_2 2))) (Go.bits .and .i64 (rd x9_2 1) (rd x9_2 2))))))) 4294967296, rd x9_2 0, rd x9_2 1, rd x9_2 2, Int.tmod (wrap64 ((rd x9_2 3) + (wrap64 ((wrap64 ((wrap64 ((wrap64 ((rd x9_2 7) + (Go.bits .xor .i64 (Go.bits .xor .i64 t156 t157) t158))) + (Go.bits .xor .i64 (Go.bits .and .i64 (rd x9_2 4) (rd x9_2 5)) (Go.bits .and .i64 (wrap64 (4294967295 - (rd x9_2 4))) (rd x9_2 6))))) + (rd t141 x10_2))) + (rd t136 x10_2))))) 4294967296, rd x9_2 4, rd x9_2 5, rd x9_2 6] : List Int)) (wrap64 (x10_2 + 1))) else (none))) = some (r1, r2) := H
                                    have A28 := Aside0.mk A280
                                    clear A280
                                    replace H := Option.bind_eq_some_iff.mp H
                                    obtain ⟨t163, A290, H⟩ := H
                                    replace H : (if 3 < (x9_2.length : Int) then (redoubtref10_Round.l0 k2 l0 t136 t141 (([Int.tmod (wrap64 ((wrap64 ((wrap64 ((wrap64 ((wrap64 ((rd x9_2 7) + (Go.bits .xor .i64 (Go.bits .xor .i64 t156 t157) t158))) + (Go.bits .xor .i64 (Go.bits .and .i64 (rd x9_2 4) (rd x9_2 5)) (Go.bits .and .i64 (wrap64 (4294967295 - (rd x9_2 4))) (rd x9_2 6))))) + (rd t141 x10_2))) + (rd t136 x10_2))) + (wrap64 ((Go.bits .xor .i64 (Go.bits .xor .i64 t161 t162) t163) + (Go.bits .xor .i64 (Go.bits .xor .i64 (Go.bits .and .i64 (rd x9_2 0) (rd x9_2 1)) (Go.bits .and .i64 (rd x9_2 0) (rd x9_2 2))) (Go.bits .and .i64 (rd x9_2 1) (rd x9_2 2))))))) 4294967296, rd x9_2 0, rd x9_2 1, rd x9_2 2, Int.tmod (wrap64 ((rd x9_2 3) + (wrap64 ((wrap64 ((wrap64 ((wrap64 ((rd x9_2 7) + (Go.bits .xor .i64 (Go.bits .xor .i64 t156 t157) t158))) + (Go.bits .xor .i64 (Go.bits .and .i64 (rd x9_2 4) (rd x9_2 5)) (Go.bits .and .i64 (wrap64 (4294967295 - (rd x9_2 4))) (rd x9_2 6))))) + (rd t141 x10_2))) + (rd t136 x10_2))))) 4294967296, rd x9_2 4, rd x9_2 5, rd x9_2 6] : List Int)) (wrap64 (x10_2 + 1))) else (none)) = some (r1, r2) := H
                                    have A29 := Aside0.mk A290
                                    clear A290
                                    by_cases c30 : 3 < (x9_2.length : Int)
                                    · rw [if_pos c30] at H
                                      have c30b0 : decide (3 < (x9_2.length : Int)) = true := decide_eq_true c30
                                      have c30b1 : decide (3 < x9_2.length) = true := decide_eq_true (by omega)
                                      clear c30
                                      obtain ⟨y171, hy171⟩ : ∃ y_ : List Int, y_ = (([Int.tmod (wrap64 ((wrap64 ((wrap64 ((wrap64 ((wrap64 ((rd x9_2 7) + (Go.bits .xor .i64 (Go.bits .xor .i64 t156 t157) t158))) + (Go.bits .xor .i64 (Go.bits .and .i64 (rd x9_2 4) (rd x9_2 5)) (Go.bits .and .i64 (wrap64 (4294967295 - (rd x9_2 4))) (rd x9_2 6))))) + (rd t141 x10_2))) + (rd t136 x10_2))) + (wrap64 ((Go.bits .xor .i64 (Go.bits .xor .i64 t161 t162) t163) + (Go.bits .xor .i64 (Go.bits .xor .i64 (Go.bits .and .i64 (rd x9_2 0) (rd x9_2 1)) (Go.bits .and .i64 (rd x9_2 0) (rd x9_2 2))) (Go.bits .and .i64 (rd x9_2 1) (rd x9_2 2))))))) 4294967296, rd x9_2 0, rd x9_2 1, rd x9_2 2, Int.tmod (wrap64 ((rd x9_2 3) + (wrap64 ((wrap64 ((wrap64 ((wrap64 ((rd x9_2 7) + (Go.bits .xor .i64 (Go.bits .xor .i64 t156 t157) t158))) + (Go.bits .xor .i64 (Go.bits .and .i64 (rd x9_2 4) (rd x9_2 5)) (Go.bits .and .i64 (wrap64 (4294967295 - (rd x9_2 4))) (rd x9_2 6))))) + (rd t141 x10_2))) + (rd t136 x10_2))))) 4294967296, rd x9_2 4, rd x9_2 5, rd x9_2 6] : List Int)) := ⟨_, rfl⟩
                                      replace H : (redoubtref10_Round.l0 k2 l0 t136 t141 y171 (wrap64 (x10_2 + 1))) = some (r1, r2) := by first | (rw [hy171]; with_reducible exact H) | (have H2_ := (Option.bind_some _ _).symm.trans H; rw [hy171]; with_reducible exact H2_) | (have H2_ := (Option.bind_some _ _).symm.trans H; with_reducible exact H2_) | with_reducible exact H | (rw [hy171]; exact H) | exact H
                                      have Ny171 := Aside0.mk hy171
                                      clear hy171
                                      have H' := Aside0.mk H
                                      clear H
                                      obtain ⟨Ao31, co31, eo31⟩ := Kd.R_slice HO_9.out
                                      subst eo31
                                      have p147 : 0 ≤ (0 : Int) := (by omega)
                                      have q147 : 0 < (x9_2.length : Int) := of_decide_eq_true (by first | (with_reducible assumption) | assumption)
                                      obtain ⟨ad147, e147, hx147_0⟩ := Kd.at_int (Kd.R_reads' HO_9.out).2.2 0 p147 q147
                                      cases e147
                                      have qi147 : (0 < x9_2.length) = True := eq_true (by omega)
                                      (try rw [show ((0 : Int)).toNat = 0 from rfl] at hx147_0)
                                      (try rw [Addr.add_zero'] at hx147_0)
                                      replace p147 := eq_true p147
                                      replace q147 := eq_true q147
                                      have p148 : 0 ≤ (4 : Int) := (by omega)
                                      have q148 : 4 < (x9_2.length : Int) := of_decide_eq_true (by first | (with_reducible assumption) | assumption)
                                      obtain ⟨ad148, e148, hx148_0⟩ := Kd.at_int (Kd.R_reads' HO_9.out).2.2 4 p148 q148
                                      obtain rfl : ad147 = ad148 := (by injection e148)
                                      (try simp only [show (4 : Int).toNat = 4 from rfl, Nat.reduceMul, Nat.reduceEqDiff, Go.Addr.add, ↓reduceIte] at hx148_0)
                                      have qi148 : (4 < x9_2.length) = True := eq_true (by omega)
                                      (try rw [show ((4 : Int)).toNat = 4 from rfl] at hx148_0)
                                      replace p148 := eq_true p148
                                      replace q148 := eq_true q148
                                      try go_wp2
                                      have n0_ := Aside0.mk (Kd.R_drew HO_6.out)
                                      have n1_ := Aside0.mk (Kd.R_drew HO_8.out)
                                      have n2_ := Aside0.mk (Kd.R_drew HO_9.out)
                                      have n3_ := Aside0.mk (below_drew1 HB.out)
                                      clear HO_6
                                      clear HO_8
                                      clear HO_9
                                      clear HB
                                      have HO_6 := n0_
                                      have HO_8 := n1_
                                      have HO_9 := n2_
                                      have HB := n3_
                                      clear n0_ n1_ n2_ n3_
                                      have p149 : 0 ≤ (5 : Int) := (by omega)
                                      have q149 : 5 < (x9_2.length : Int) := of_decide_eq_true (by first | (with_reducible assumption) | assumption)
                                      obtain ⟨ad149, e149, hx149_0⟩ := Kd.at_int (Kd.R_reads' HO_9.out).2.2 5 p149 q149
                                      obtain rfl : ad147 = ad149 := (by injection e149)
                                      (try simp only [show (5 : Int).toNat = 5 from rfl, Nat.reduceMul, Nat.reduceEqDiff, Go.Addr.add, ↓reduceIte] at hx149_0)
                                      have qi149 : (5 < x9_2.length) = True := eq_true (by omega)
                                      (try rw [show ((5 : Int)).toNat = 5 from rfl] at hx149_0)
                                      replace p149 := eq_true p149
                                      replace q149 := eq_true q149
                                      have p150 : 0 ≤ (6 : Int) := (by omega)
                                      have q150 : 6 < (x9_2.length : Int) := of_decide_eq_true (by first | (with_reducible assumption) | assumption)
                                      obtain ⟨ad150, e150, hx150_0⟩ := Kd.at_int (Kd.R_reads' HO_9.out).2.2 6 p150 q150
                                      obtain rfl : ad147 = ad150 := (by injection e150)
                                      (try simp only [show (6 : Int).toNat = 6 from rfl, Nat.reduceMul, Nat.reduceEqDiff, Go.Addr.add, ↓reduceIte] at hx150_0)
                                      have qi150 : (6 < x9_2.length) = True := eq_true (by omega)
                                      (try rw [show ((6 : Int)).toNat = 6 from rfl] at hx150_0)
                                      replace p150 := eq_true p150
                                      replace q150 := eq_true q150
                                      refine start_ (n := 13) (S := fun w' => w'.cell? ⟨ad147.block, ad147.off + 5, none⟩ = some (.int .i64 (rd x9_2 5)) ∧ w'.cell? ⟨ad147.block, ad147.off + 6, none⟩ = some (.int .i64 (rd x9_2 6))) (ds := []) #[false, false, false, false, false, false, false, false, false, false, false, false, false] (by kernel_rfl) rfl rfl ⟨hx149_0, hx150_0⟩ (fun hHeld => ?_); refine with_tabW redoubtref10_Round.tab12 redoubtref10_Round.bits12 (fun HT_ HW_ => ?_)
                                      generalize wr.drew = w32 at HO_6 HO_8 HO_9 HB hx149_0 hx150_0 hHeld ⊢
                                      refine pure_ (i := 0) (N := some 44) (v := ?_) (a' := ?_) #[true, false, false, false, false, false, false, false, false, false, false, false, false] rfl rfl (any_of HT_.out (by kernel_rfl)) (fun _ _ _ h => h) (Or.inl ⟨by rfl, ?_⟩) ?_ ?_
                                      rotate_left
                                      · intro w'
                                        go_simp
                                        with_reducible rfl
                                      rotate_left
                                      · simp only [Act.put, List.setIfInBounds_toArray, List.set_cons_zero, List.set_cons_succ, i64_w, i32_w]
                                        rfl
                                      refine pure_ (i := 1) (N := some 45) (v := ?_) (a' := ?_) #[true, true, false, false, false, false, false, false, false, false, false, false, false] rfl rfl (any_of HT_.out (by kernel_rfl)) (fun _ _ _ h => h) (Or.inl ⟨by rfl, ?_⟩) ?_ ?_
                                      rotate_left
                                      · intro w'
                                        go_simp
                                        with_reducible rfl
                                      rotate_left
                                      · simp only [Act.put, List.setIfInBounds_toArray, List.set_cons_zero, List.set_cons_succ, i64_w, i32_w]
                                        rfl
                                      refine pure_ (i := 2) (N := some 46) (v := ?_) (a' := ?_) #[true, true, true, false, false, false, false, false, false, false, false, false, false] rfl rfl (any_of HT_.out (by kernel_rfl)) (fun _ _ _ h => h) (Or.inl ⟨by rfl, ?_⟩) ?_ ?_
                                      rotate_left
                                      · intro w'
                                        go_simp
                                        with_reducible rfl
                                      rotate_left
                                      · simp only [Act.put, List.setIfInBounds_toArray, List.set_cons_zero, List.set_cons_succ, i64_w, i32_w]
                                        rfl
                                      refine pure_ (i := 5) (N := some 49) (v := ?_) (a' := ?_) #[true, true, true, false, false, true, false, false, false, false, false, false, false] rfl rfl (any_of HT_.out (by kernel_rfl)) (fun _ _ _ h => h) (Or.inl ⟨by rfl, ?_⟩) ?_ ?_
                                      rotate_left
                                      · intro w'
                                        go_simp
                                        with_reducible rfl
                                      rotate_left
                                      · simp only [Act.put, List.setIfInBounds_toArray, List.set_cons_zero, List.set_cons_succ, i64_w, i32_w]
                                        rfl
                                      refine pure_ (i := 6) (N := some 50) (v := ?_) (a' := ?_) #[true, true, true, false, false, true, true, false, false, false, false, false, false] rfl rfl (any_of HT_.out (by kernel_rfl)) (fun _ _ _ h => h) (Or.inl ⟨by rfl, ?_⟩) ?_ ?_
                                      rotate_left
                                      · intro w'
                                        go_simp
                                        with_reducible rfl
                                      rotate_left
                                      · simp only [Act.put, List.setIfInBounds_toArray, List.set_cons_zero, List.set_cons_succ, i64_w, i32_w]
                                        rfl
                                      refine pure_ (i := 7) (N := some 51) (v := ?_) (a' := ?_) #[true, true, true, false, false, true, true, true, false, false, false, false, false] rfl rfl (any_of HT_.out (by kernel_rfl)) (fun _ _ _ h => h) (Or.inl ⟨by rfl, ?_⟩) ?_ ?_
                                      rotate_left
                                      · intro w'
                                        go_simp
                                        with_reducible rfl
                                      rotate_left
                                      · simp only [Act.put, List.setIfInBounds_toArray, List.set_cons_zero, List.set_cons_succ, i64_w, i32_w]
                                        rfl
                                      refine pure_ (i := 8) (N := some 52) (v := ?_) (a' := ?_) #[true, true, true, false, false, true, true, true, true, false, false, false, false] rfl rfl (any_of HT_.out (by kernel_rfl)) (fun _ _ _ h => h) (Or.inl ⟨by rfl, ?_⟩) ?_ ?_
                                      rotate_left
                                      · intro w'
                                        go_simp
                                        with_reducible rfl
                                      rotate_left
                                      · simp only [Act.put, List.setIfInBounds_toArray, List.set_cons_zero, List.set_cons_succ, i64_w, i32_w]
                                        rfl
                                      refine take_ (i := 3) (N := some 47) (v := ?_) (a' := ?_) #[true, true, true, true, false, true, true, true, true, false, false, false, false] rfl rfl (take_ofW HT_.out HW_.out (by kernel_rfl)) (fun _ _ _ h => h) (Or.inl ⟨by rfl, ?_⟩) hHeld ?_ ?_
                                      rotate_left
                                      · rintro w' ⟨s0, s1⟩
                                        go_simp
                                        with_reducible rfl
                                      rotate_left
                                      · simp only [Act.put, List.setIfInBounds_toArray, List.set_cons_zero, List.set_cons_succ, i64_w, i32_w]
                                        rfl
                                      refine pure_ (i := 4) (N := some 48) (v := ?_) (a' := ?_) #[true, true, true, true, true, true, true, true, true, false, false, false, false] rfl rfl (any_of HT_.out (by kernel_rfl)) (fun _ _ _ h => h) (Or.inl ⟨by rfl, ?_⟩) ?_ ?_
                                      rotate_left
                                      · intro w'
                                        go_simp
                                        with_reducible rfl
                                      rotate_left
                                      · simp only [Act.put, List.setIfInBounds_toArray, List.set_cons_zero, List.set_cons_succ, i64_w, i32_w]
                                        rfl
                                      refine take_ (i := 9) (N := some 53) (v := ?_) (a' := ?_) #[true, true, true, true, true, true, true, true, true, true, false, false, false] rfl rfl (take_ofW HT_.out HW_.out (by kernel_rfl)) (fun _ _ _ h => h) (Or.inl ⟨by rfl, ?_⟩) hHeld ?_ ?_
                                      rotate_left
                                      · rintro w' ⟨s0, s1⟩
                                        go_simp
                                        with_reducible rfl
                                      rotate_left
                                      · simp only [Act.put, List.setIfInBounds_toArray, List.set_cons_zero, List.set_cons_succ, i64_w, i32_w]
                                        rfl
                                      refine pure_ (i := 10) (N := some 54) (v := ?_) (a' := ?_) #[true, true, true, true, true, true, true, true, true, true, true, false, false] rfl rfl (any_of HT_.out (by kernel_rfl)) (fun _ _ _ h => h) (Or.inl ⟨by rfl, ?_⟩) ?_ ?_
                                      rotate_left
                                      · intro w'
                                        go_simp
                                        with_reducible rfl
                                      rotate_left
                                      · simp only [Act.put, List.setIfInBounds_toArray, List.set_cons_zero, List.set_cons_succ, i64_w, i32_w]
                                        rfl
                                      refine pure_ (i := 11) (N := some 55) (v := ?_) (a' := ?_) #[true, true, true, true, true, true, true, true, true, true, true, true, false] rfl rfl (any_of HT_.out (by kernel_rfl)) (fun _ _ _ h => h) (Or.inl ⟨by rfl, ?_⟩) ?_ ?_
                                      rotate_left
                                      · intro w'
                                        go_simp
                                        with_reducible rfl
                                      rotate_left
                                      · simp only [Act.put, List.setIfInBounds_toArray, List.set_cons_zero, List.set_cons_succ, i64_w, i32_w]
                                        rfl
                                      refine pure_ (i := 12) (N := some 13) (v := ?_) (a' := ?_) #[true, true, true, true, true, true, true, true, true, true, true, true, true] rfl rfl (any_of HT_.out (by kernel_rfl)) (fun _ _ _ h => h) (Or.inl ⟨by rfl, ?_⟩) ?_ ?_
                                      rotate_left
                                      · intro w'
                                        go_simp
                                        with_reducible rfl
                                      rotate_left
                                      · simp only [Act.put, List.setIfInBounds_toArray, List.set_cons_zero, List.set_cons_succ, i64_w, i32_w]
                                        rfl
                                      refine done_ (done_of HT_.out (by kernel_rfl)) ?_
                                      try go_wp2
                                      have n0_ := Aside0.mk (Kd.R_drew HO_6.out)
                                      have n1_ := Aside0.mk (Kd.R_drew HO_8.out)
                                      have n2_ := Aside0.mk (Kd.R_drew HO_9.out)
                                      have n3_ := Aside0.mk (below_drew1 HB.out)
                                      clear HO_6
                                      clear HO_8
                                      clear HO_9
                                      clear HB
                                      have HO_6 := n0_
                                      have HO_8 := n1_
                                      have HO_9 := n2_
                                      have HB := n3_
                                      clear n0_ n1_ n2_ n3_
                                      have p151 : 0 ≤ (1 : Int) := (by omega)
                                      have q151 : 1 < (x9_2.length : Int) := of_decide_eq_true (by first | (with_reducible assumption) | assumption)
                                      obtain ⟨ad151, e151, hx151_0⟩ := Kd.at_int (Kd.R_reads' HO_9.out).2.2 1 p151 q151
                                      obtain rfl : ad147 = ad151 := (by injection e151)
                                      (try simp only [show (1 : Int).toNat = 1 from rfl, Nat.reduceMul, Nat.reduceEqDiff, Go.Addr.add, ↓reduceIte] at hx151_0)
                                      have qi151 : (1 < x9_2.length) = True := eq_true (by omega)
                                      (try rw [show ((1 : Int)).toNat = 1 from rfl] at hx151_0)
                                      replace p151 := eq_true p151
                                      replace q151 := eq_true q151
                                      have p152 : 0 ≤ (2 : Int) := (by omega)
                                      have q152 : 2 < (x9_2.length : Int) := of_decide_eq_true (by first | (with_reducible assumption) | assumption)
                                      obtain ⟨ad152, e152, hx152_0⟩ := Kd.at_int (Kd.R_reads' HO_9.out).2.2 2 p152 q152
                                      obtain rfl : ad147 = ad152 := (by injection e152)
                                      (try simp only [show (2 : Int).toNat = 2 from rfl, Nat.reduceMul, Nat.reduceEqDiff, Go.Addr.add, ↓reduceIte] at hx152_0)
                                      have qi152 : (2 < x9_2.length) = True := eq_true (by omega)
                                      (try rw [show ((2 : Int)).toNat = 2 from rfl] at hx152_0)
                                      replace p152 := eq_true p152
                                      replace q152 := eq_true q152
                                      have p153 : 0 ≤ (1 : Int) := (by omega)
                                      have q153 : 1 < (x9_2.length : Int) := of_decide_eq_true (by first | (with_reducible assumption) | assumption)
                                      obtain ⟨ad153, e153, hx153_0⟩ := Kd.at_int (Kd.R_reads' HO_9.out).2.2 1 p153 q153
                                      obtain rfl : ad147 = ad153 := (by injection e153)
                                      (try simp only [show (1 : Int).toNat = 1 from rfl, Nat.reduceMul, Nat.reduceEqDiff, Go.Addr.add, ↓reduceIte] at hx153_0)
                                      have qi153 : (1 < x9_2.length) = True := eq_true (by omega)
                                      (try rw [show ((1 : Int)).toNat = 1 from rfl] at hx153_0)
                                      replace p153 := eq_true p153
                                      replace q153 := eq_true q153
                                      have p154 : 0 ≤ (2 : Int) := (by omega)
                                      have q154 : 2 < (x9_2.length : Int) := of_decide_eq_true (by first | (with_reducible assumption) | assumption)
                                      obtain ⟨ad154, e154, hx154_0⟩ := Kd.at_int (Kd.R_reads' HO_9.out).2.2 2 p154 q154
                                      obtain rfl : ad147 = ad154 := (by injection e154)
                                      (try simp only [show (2 : Int).toNat = 2 from rfl, Nat.reduceMul, Nat.reduceEqDiff, Go.Addr.add, ↓reduceIte] at hx154_0)
                                      have qi154 : (2 < x9_2.length) = True := eq_true (by omega)
                                      (try rw [show ((2 : Int)).toNat = 2 from rfl] at hx154_0)
                                      replace p154 := eq_true p154
                                      replace q154 := eq_true q154
                                      refine start_ (n := 20) (S := fun w' => w'.cell? ⟨ad147.block, ad147.off + 1, none⟩ = some (.int .i64 (rd x9_2 1)) ∧ w'.cell? ⟨ad147.block, ad147.off + 2, none⟩ = some (.int .i64 (rd x9_2 2)) ∧ w'.cell? ⟨ad147.block, ad147.off + 1, none⟩ = some (.int .i64 (rd x9_2 1)) ∧ w'.cell? ⟨ad147.block, ad147.off + 2, none⟩ = some (.int .i64 (rd x9_2 2))) (ds := []) #[false, false, false, false, false, false, false, false, false, false, false, false, false, false, false, false, false, false, false, false] (by kernel_rfl) rfl rfl ⟨hx151_0, hx152_0, hx153_0, hx154_0⟩ (fun hHeld => ?_); refine with_tabW redoubtref10_Round.tab13 redoubtref10_Round.bits13 (fun HT_ HW_ => ?_)
                                      generalize w32.drew = w33 at HO_6 HO_8 HO_9 HB hx151_0 hx152_0 hx153_0 hx154_0 hHeld ⊢
                                      refine pure_ (i := 0) (N := some 56) (v := ?_) (a' := ?_) #[true, false, false, false, false, false, false, false, false, false, false, false, false, false, false, false, false, false, false, false] rfl rfl (any_of HT_.out (by kernel_rfl)) (fun _ _ _ h => h) (Or.inl ⟨by rfl, ?_⟩) ?_ ?_
                                      rotate_left
                                      · intro w'
                                        go_simp
                                        with_reducible rfl
                                      rotate_left
                                      · simp only [Act.put, List.setIfInBounds_toArray, List.set_cons_zero, List.set_cons_succ, i64_w, i32_w]
                                        rfl
                                      refine pure_ (i := 1) (N := some 57) (v := ?_) (a' := ?_) #[true, true, false, false, false, false, false, false, false, false, false, false, false, false, false, false, false, false, false, false] rfl rfl (any_of HT_.out (by kernel_rfl)) (fun _ _ _ h => h) (Or.inl ⟨by rfl, ?_⟩) ?_ ?_
                                      rotate_left
                                      · intro w'
                                        go_simp
                                        with_reducible rfl
                                      rotate_left
                                      · simp only [Act.put, List.setIfInBounds_toArray, List.set_cons_zero, List.set_cons_succ, i64_w, i32_w]
                                        rfl
                                      refine pure_ (i := 2) (N := some 58) (v := ?_) (a' := ?_) #[true, true, true, false, false, false, false, false, false, false, false, false, false, false, false, false, false, false, false, false] rfl rfl (any_of HT_.out (by kernel_rfl)) (fun _ _ _ h => h) (Or.inl ⟨by rfl, ?_⟩) ?_ ?_
                                      rotate_left
                                      · intro w'
                                        go_simp
                                        with_reducible rfl
                                      rotate_left
                                      · simp only [Act.put, List.setIfInBounds_toArray, List.set_cons_zero, List.set_cons_succ, i64_w, i32_w]
                                        rfl
                                      refine pure_ (i := 5) (N := some 61) (v := ?_) (a' := ?_) #[true, true, true, false, false, true, false, false, false, false, false, false, false, false, false, false, false, false, false, false] rfl rfl (any_of HT_.out (by kernel_rfl)) (fun _ _ _ h => h) (Or.inl ⟨by rfl, ?_⟩) ?_ ?_
                                      rotate_left
                                      · intro w'
                                        go_simp
                                        with_reducible rfl
                                      rotate_left
                                      · simp only [Act.put, List.setIfInBounds_toArray, List.set_cons_zero, List.set_cons_succ, i64_w, i32_w]
                                        rfl
                                      refine pure_ (i := 6) (N := some 62) (v := ?_) (a' := ?_) #[true, true, true, false, false, true, true, false, false, false, false, false, false, false, false, false, false, false, false, false] rfl rfl (any_of HT_.out (by kernel_rfl)) (fun _ _ _ h => h) (Or.inl ⟨by rfl, ?_⟩) ?_ ?_
                                      rotate_left
                                      · intro w'
                                        go_simp
                                        with_reducible rfl
                                      rotate_left
                                      · simp only [Act.put, List.setIfInBounds_toArray, List.set_cons_zero, List.set_cons_succ, i64_w, i32_w]
                                        rfl
                                      refine pure_ (i := 7) (N := some 63) (v := ?_) (a' := ?_) #[true, true, true, false, false, true, true, true, false, false, false, false, false, false, false, false, false, false, false, false] rfl rfl (any_of HT_.out (by kernel_rfl)) (fun _ _ _ h => h) (Or.inl ⟨by rfl, ?_⟩) ?_ ?_
                                      rotate_left
                                      · intro w'
                                        go_simp
                                        with_reducible rfl
                                      rotate_left
                                      · simp only [Act.put, List.setIfInBounds_toArray, List.set_cons_zero, List.set_cons_succ, i64_w, i32_w]
                                        rfl
                                      refine pure_ (i := 11) (N := some 67) (v := ?_) (a' := ?_) #[true, true, true, false, false, true, true, true, false, false, false, true, false, false, false, false, false, false, false, false] rfl rfl (any_of HT_.out (by kernel_rfl)) (fun _ _ _ h => h) (Or.inl ⟨by rfl, ?_⟩) ?_ ?_
                                      rotate_left
                                      · intro w'
                                        go_simp
                                        with_reducible rfl
                                      rotate_left
                                      · simp only [Act.put, List.setIfInBounds_toArray, List.set_cons_zero, List.set_cons_succ, i64_w, i32_w]
                                        rfl
                                      refine pure_ (i := 12) (N := some 68) (v := ?_) (a' := ?_) #[true, true, true, false, false, true, true, true, false, false, false, true, true, false, false, false, false, false, false, false] rfl rfl (any_of HT_.out (by kernel_rfl)) (fun _ _ _ h => h) (Or.inl ⟨by rfl, ?_⟩) ?_ ?_
                                      rotate_left
                                      · intro w'
                                        go_simp
                                        with_reducible rfl
                                      rotate_left
                                      · simp only [Act.put, List.setIfInBounds_toArray, List.set_cons_zero, List.set_cons_succ, i64_w, i32_w]
                                        rfl
                                      refine pure_ (i := 14) (N := some 70) (v := ?_) (a' := ?_) #[true, true, true, false, false, true, true, true, false, false, false, true, true, false, true, false, false, false, false, false] rfl rfl (any_of HT_.out (by kernel_rfl)) (fun _ _ _ h => h) (Or.inl ⟨by rfl, ?_⟩) ?_ ?_
                                      rotate_left
                                      · intro w'
                                        go_simp
                                        with_reducible rfl
                                      rotate_left
                                      · simp only [Act.put, List.setIfInBounds_toArray, List.set_cons_zero, List.set_cons_succ, i64_w, i32_w]
                                        rfl
                                      refine pure_ (i := 15) (N := some 71) (v := ?_) (a' := ?_) #[true, true, true, false, false, true, true, true, false, false, false, true, true, false, true, true, false, false, false, false] rfl rfl (any_of HT_.out (by kernel_rfl)) (fun _ _ _ h => h) (Or.inl ⟨by rfl, ?_⟩) ?_ ?_
                                      rotate_left
                                      · intro w'
                                        go_simp
                                        with_reducible rfl
                                      rotate_left
                                      · simp only [Act.put, List.setIfInBounds_toArray, List.set_cons_zero, List.set_cons_succ, i64_w, i32_w]
                                        rfl
                                      refine take_ (i := 3) (N := some 59) (v := ?_) (a' := ?_) #[true, true, true, true, false, true, true, true, false, false, false, true, true, false, true, true, false, false, false, false] rfl rfl (take_ofW HT_.out HW_.out (by kernel_rfl)) (fun _ _ _ h => h) (Or.inl ⟨by rfl, ?_⟩) hHeld ?_ ?_
                                      rotate_left
                                      · rintro w' ⟨s0, s1, s2, s3⟩
                                        go_simp
                                        with_reducible rfl
                                      rotate_left
                                      · simp only [Act.put, List.setIfInBounds_toArray, List.set_cons_zero, List.set_cons_succ, i64_w, i32_w]
                                        rfl
                                      refine pure_ (i := 4) (N := some 60) (v := ?_) (a' := ?_) #[true, true, true, true, true, true, true, true, false, false, false, true, true, false, true, true, false, false, false, false] rfl rfl (any_of HT_.out (by kernel_rfl)) (fun _ _ _ h => h) (Or.inl ⟨by rfl, ?_⟩) ?_ ?_
                                      rotate_left
                                      · intro w'
                                        go_simp
                                        with_reducible rfl
                                      rotate_left
                                      · simp only [Act.put, List.setIfInBounds_toArray, List.set_cons_zero, List.set_cons_succ, i64_w, i32_w]
                                        rfl
                                      refine take_ (i := 8) (N := some 64) (v := ?_) (a' := ?_) #[true, true, true, true, true, true, true, true, true, false, false, true, true, false, true, true, false, false, false, false] rfl rfl (take_ofW HT_.out HW_.out (by kernel_rfl)) (fun _ _ _ h => h) (Or.inl ⟨by rfl, ?_⟩) hHeld ?_ ?_
                                      rotate_left
                                      · rintro w' ⟨s0, s1, s2, s3⟩
                                        go_simp
                                        with_reducible rfl
                                      rotate_left
                                      · simp only [Act.put, List.setIfInBounds_toArray, List.set_cons_zero, List.set_cons_succ, i64_w, i32_w]
                                        rfl
                                      refine pure_ (i := 9) (N := some 65) (v := ?_) (a' := ?_) #[true, true, true, true, true, true, true, true, true, true, false, true, true, false, true, true, false, false, false, false] rfl rfl (any_of HT_.out (by kernel_rfl)) (fun _ _ _ h => h) (Or.inl ⟨by rfl, ?_⟩) ?_ ?_
                                      rotate_left
                                      · intro w'
                                        go_simp
                                        with_reducible rfl
                                      rotate_left
                                      · simp only [Act.put, List.setIfInBounds_toArray, List.set_cons_zero, List.set_cons_succ, i64_w, i32_w]
                                        rfl
                                      refine pure_ (i := 10) (N := some 66) (v := ?_) (a' := ?_) #[true, true, true, true, true, true, true, true, true, true, true, true, true, false, true, true, false, false, false, false] rfl rfl (any_of HT_.out (by kernel_rfl)) (fun _ _ _ h => h) (Or.inl ⟨by rfl, ?_⟩) ?_ ?_
                                      rotate_left
                                      · intro w'
                                        go_simp
                                        with_reducible rfl
                                      rotate_left
                                      · simp only [Act.put, List.setIfInBounds_toArray, List.set_cons_zero, List.set_cons_succ, i64_w, i32_w]
                                        rfl
                                      refine take_ (i := 13) (N := some 69) (v := ?_) (a' := ?_) #[true, true, true, true, true, true, true, true, true, true, true, true, true, true, true, true, false, false, false, false] rfl rfl (take_ofW HT_.out HW_.out (by kernel_rfl)) (fun _ _ _ h => h) (Or.inl ⟨by rfl, ?_⟩) hHeld ?_ ?_
                                      rotate_left
                                      · rintro w' ⟨s0, s1, s2, s3⟩
                                        go_simp
                                        with_reducible rfl
                                      rotate_left
                                      · simp only [Act.put, List.setIfInBounds_toArray, List.set_cons_zero, List.set_cons_succ, i64_w, i32_w]
                                        rfl
                                      refine take_ (i := 16) (N := some 72) (v := ?_) (a' := ?_) #[true, true, true, true, true, true, true, true, true, true, true, true, true, true, true, true, true, false, false, false] rfl rfl (take_ofW HT_.out HW_.out (by kernel_rfl)) (fun _ _ _ h => h) (Or.inl ⟨by rfl, ?_⟩) hHeld ?_ ?_
                                      rotate_left
                                      · rintro w' ⟨s0, s1, s2, s3⟩
                                        go_simp
                                        with_reducible rfl
                                      rotate_left
                                      · simp only [Act.put, List.setIfInBounds_toArray, List.set_cons_zero, List.set_cons_succ, i64_w, i32_w]
                                        rfl
                                      refine pure_ (i := 17) (N := some 73) (v := ?_) (a' := ?_) #[true, true, true, true, true, true, true, true, true, true, true, true, true, true, true, true, true, true, false, false] rfl rfl (any_of HT_.out (by kernel_rfl)) (fun _ _ _ h => h) (Or.inl ⟨by rfl, ?_⟩) ?_ ?_
                                      rotate_left
                                      · intro w'
                                        go_simp
                                        with_reducible rfl
                                      rotate_left
                                      · simp only [Act.put, List.setIfInBounds_toArray, List.set_cons_zero, List.set_cons_succ, i64_w, i32_w]
                                        rfl
                                      refine pure_ (i := 18) (N := some 74) (v := ?_) (a' := ?_) #[true, true, true, true, true, true, true, true, true, true, true, true, true, true, true, true, true, true, true, false] rfl rfl (any_of HT_.out (by kernel_rfl)) (fun _ _ _ h => h) (Or.inl ⟨by rfl, ?_⟩) ?_ ?_
                                      rotate_left
                                      · intro w'
                                        go_simp
                                        with_reducible rfl
                                      rotate_left
                                      · simp only [Act.put, List.setIfInBounds_toArray, List.set_cons_zero, List.set_cons_succ, i64_w, i32_w]
                                        rfl
                                      refine pure_ (i := 19) (N := some 14) (v := ?_) (a' := ?_) #[true, true, true, true, true, true, true, true, true, true, true, true, true, true, true, true, true, true, true, true] rfl rfl (any_of HT_.out (by kernel_rfl)) (fun _ _ _ h => h) (Or.inl ⟨by rfl, ?_⟩) ?_ ?_
                                      rotate_left
                                      · intro w'
                                        go_simp
                                        with_reducible rfl
                                      rotate_left
                                      · simp only [Act.put, List.setIfInBounds_toArray, List.set_cons_zero, List.set_cons_succ, i64_w, i32_w]
                                        rfl
                                      refine done_ (done_of HT_.out (by kernel_rfl)) ?_
                                      try go_wp2
                                      have n0_ := Aside0.mk (Kd.R_drew HO_6.out)
                                      have n1_ := Aside0.mk (Kd.R_drew HO_8.out)
                                      have n2_ := Aside0.mk (Kd.R_drew HO_9.out)
                                      have n3_ := Aside0.mk (below_drew1 HB.out)
                                      clear HO_6
                                      clear HO_8
                                      clear HO_9
                                      clear HB
                                      have HO_6 := n0_
                                      have HO_8 := n1_
                                      have HO_9 := n2_
                                      have HB := n3_
                                      clear n0_ n1_ n2_ n3_
                                      have p155 : 0 ≤ (7 : Int) := (by omega)
                                      have q155 : 7 < (x9_2.length : Int) := of_decide_eq_true (by first | (with_reducible assumption) | assumption)
                                      obtain ⟨ad155, e155, hx155_0⟩ := Kd.at_int (Kd.R_reads' HO_9.out).2.2 7 p155 q155
                                      obtain rfl : ad147 = ad155 := (by injection e155)
                                      (try simp only [show (7 : Int).toNat = 7 from rfl, Nat.reduceMul, Nat.reduceEqDiff, Go.Addr.add, ↓reduceIte] at hx155_0)
                                      have qi155 : (7 < x9_2.length) = True := eq_true (by omega)
                                      (try rw [show ((7 : Int)).toNat = 7 from rfl] at hx155_0)
                                      replace p155 := eq_true p155
                                      replace q155 := eq_true q155
                                      obtain ⟨Ao35, co35, eo35⟩ := Kd.R_slice HO_8.out
                                      (first | subst eo35 | (injection eo35 with f1_ f2_ f3_; have f4_ := f1_.symm; have f5_ := f3_.symm; clear f1_ f2_ f3_; subst f4_; subst f5_))
                                      have p159 : 0 ≤ (x10_2 : Int) := of_decide_eq_true (by first | (with_reducible assumption) | assumption)
                                      have q159 : x10_2 < (t141.length : Int) := of_decide_eq_true (by first | (with_reducible assumption) | assumption)
                                      obtain ⟨ad159, e159, hx159_0⟩ := Kd.at_int (Kd.R_reads' HO_8.out).2.2 x10_2 p159 q159
                                      cases e159
                                      replace p159 := eq_true p159
                                      replace q159 := eq_true q159
                                      obtain ⟨Ao36, co36, eo36⟩ := Kd.R_slice HO_6.out
                                      (first | subst eo36 | (injection eo36 with f1_ f2_ f3_; have f4_ := f1_.symm; have f5_ := f3_.symm; clear f1_ f2_ f3_; subst f4_; subst f5_))
                                      have p160 : 0 ≤ (x10_2 : Int) := of_decide_eq_true (by first | (with_reducible assumption) | assumption)
                                      have q160 : x10_2 < (t136.length : Int) := of_decide_eq_true (by first | (with_reducible assumption) | assumption)
                                      obtain ⟨ad160, e160, hx160_0⟩ := Kd.at_int (Kd.R_reads' HO_6.out).2.2 x10_2 p160 q160
                                      cases e160
                                      replace p160 := eq_true p160
                                      replace q160 := eq_true q160
                                      refine start_ (n := 25) (S := fun w' => w'.cell? ⟨ad147.block, ad147.off + 7, none⟩ = some (.int .i64 (rd x9_2 7)) ∧ w'.cell? (ad159.add (x10_2).toNat) = some (.int .i64 (rd t141 x10_2)) ∧ w'.cell? (ad160.add (x10_2).toNat) = some (.int .i64 (rd t136 x10_2))) (ds := []) #[false, false, false, false, false, false, false, false, false, false, false, false, false, false, false, false, false, false, false, false, false, false, false, false, false] (by kernel_rfl) rfl rfl ⟨hx155_0, hx159_0, hx160_0⟩ (fun hHeld => ?_); refine with_tabW redoubtref10_Round.tab14 redoubtref10_Round.bits14 (fun HT_ HW_ => ?_)
                                      generalize w33.drew = w34 at HO_6 HO_8 HO_9 HB hx155_0 hx159_0 hx160_0 hHeld ⊢
                                      refine pure_ (i := 0) (N := some 75) (v := ?_) (a' := ?_) #[true, false, false, false, false, false, false, false, false, false, false, false, false, false, false, false, false, false, false, false, false, false, false, false, false] rfl rfl (any_of HT_.out (by kernel_rfl)) (fun _ _ _ h => h) (Or.inl ⟨by rfl, ?_⟩) ?_ ?_
                                      rotate_left
                                      · intro w'
                                        go_simp
                                        with_reducible rfl
                                      rotate_left
                                      · simp only [Act.put, List.setIfInBounds_toArray, List.set_cons_zero, List.set_cons_succ, i64_w, i32_w]
                                        rfl
                                      refine pure_ (i := 1) (N := some 76) (v := ?_) (a' := ?_) #[true, true, false, false, false, false, false, false, false, false, false, false, false, false, false, false, false, false, false, false, false, false, false, false, false] rfl rfl (any_of HT_.out (by kernel_rfl)) (fun _ _ _ h => h) (Or.inl ⟨by rfl, ?_⟩) ?_ ?_
                                      rotate_left
                                      · intro w'
                                        go_simp
                                        with_reducible rfl
                                      rotate_left
                                      · simp only [Act.put, List.setIfInBounds_toArray, List.set_cons_zero, List.set_cons_succ, i64_w, i32_w]
                                        rfl
                                      refine pure_ (i := 3) (N := some 78) (v := ?_) (a' := ?_) #[true, true, false, true, false, false, false, false, false, false, false, false, false, false, false, false, false, false, false, false, false, false, false, false, false] rfl rfl (any_of HT_.out (by kernel_rfl)) (fun _ _ _ h => h) (Or.inl ⟨by rfl, ?_⟩) ?_ ?_
                                      rotate_left
                                      · intro w'
                                        go_simp
                                        with_reducible rfl
                                      rotate_left
                                      · simp only [Act.put, List.setIfInBounds_toArray, List.set_cons_zero, List.set_cons_succ, i64_w, i32_w]
                                        rfl
                                      refine pure_ (i := 5) (N := some 80) (v := ?_) (a' := ?_) #[true, true, false, true, false, true, false, false, false, false, false, false, false, false, false, false, false, false, false, false, false, false, false, false, false] rfl rfl (any_of HT_.out (by kernel_rfl)) (fun _ _ _ h => h) (Or.inl ⟨by rfl, ?_⟩) ?_ ?_
                                      rotate_left
                                      · intro w'
                                        go_simp
                                        with_reducible rfl
                                      rotate_left
                                      · simp only [Act.put, List.setIfInBounds_toArray, List.set_cons_zero, List.set_cons_succ, i64_w, i32_w]
                                        rfl
                                      refine pure_ (i := 8) (N := some 83) (v := ?_) (a' := ?_) #[true, true, false, true, false, true, false, false, true, false, false, false, false, false, false, false, false, false, false, false, false, false, false, false, false] rfl rfl (any_of HT_.out (by kernel_rfl)) (fun _ _ _ h => h) (Or.inl ⟨by rfl, ?_⟩) ?_ ?_
                                      rotate_left
                                      · intro w'
                                        go_simp
                                        with_reducible rfl
                                      rotate_left
                                      · simp only [Act.put, List.setIfInBounds_toArray, List.set_cons_zero, List.set_cons_succ, i64_w, i32_w]
                                        rfl
                                      refine pure_ (i := 12) (N := some 87) (v := ?_) (a' := ?_) #[true, true, false, true, false, true, false, false, true, false, false, false, true, false, false, false, false, false, false, false, false, false, false, false, false] rfl rfl (any_of HT_.out (by kernel_rfl)) (fun _ _ _ h => h) (Or.inl ⟨by rfl, ?_⟩) ?_ ?_
                                      rotate_left
                                      · intro w'
                                        go_simp
                                        with_reducible rfl
                                      rotate_left
                                      · simp only [Act.put, List.setIfInBounds_toArray, List.set_cons_zero, List.set_cons_succ, i64_w, i32_w]
                                        rfl
                                      refine pure_ (i := 14) (N := some 89) (v := ?_) (a' := ?_) #[true, true, false, true, false, true, false, false, true, false, false, false, true, false, true, false, false, false, false, false, false, false, false, false, false] rfl rfl (any_of HT_.out (by kernel_rfl)) (fun _ _ _ h => h) (Or.inl ⟨by rfl, ?_⟩) ?_ ?_
                                      rotate_left
                                      · intro w'
                                        go_simp
                                        with_reducible rfl
                                      rotate_left
                                      · simp only [Act.put, List.setIfInBounds_toArray, List.set_cons_zero, List.set_cons_succ, i64_w, i32_w]
                                        rfl
                                      refine pure_ (i := 15) (N := some 90) (v := ?_) (a' := ?_) #[true, true, false, true, false, true, false, false, true, false, false, false, true, false, true, true, false, false, false, false, false, false, false, false, false] rfl rfl (any_of HT_.out (by kernel_rfl)) (fun _ _ _ h => h) (Or.inl ⟨by rfl, ?_⟩) ?_ ?_
                                      rotate_left
                                      · intro w'
                                        go_simp
                                        with_reducible rfl
                                      rotate_left
                                      · simp only [Act.put, List.setIfInBounds_toArray, List.set_cons_zero, List.set_cons_succ, i64_w, i32_w]
                                        rfl
                                      refine pure_ (i := 16) (N := some 91) (v := ?_) (a' := ?_) #[true, true, false, true, false, true, false, false, true, false, false, false, true, false, true, true, true, false, false, false, false, false, false, false, false] rfl rfl (any_of HT_.out (by kernel_rfl)) (fun _ _ _ h => h) (Or.inl ⟨by rfl, ?_⟩) ?_ ?_
                                      rotate_left
                                      · intro w'
                                        go_simp
                                        with_reducible rfl
                                      rotate_left
                                      · simp only [Act.put, List.setIfInBounds_toArray, List.set_cons_zero, List.set_cons_succ, i64_w, i32_w]
                                        rfl
                                      refine pure_ (i := 19) (N := some 94) (v := ?_) (a' := ?_) #[true, true, false, true, false, true, false, false, true, false, false, false, true, false, true, true, true, false, false, true, false, false, false, false, false] rfl rfl (any_of HT_.out (by kernel_rfl)) (fun _ _ _ h => h) (Or.inl ⟨by rfl, ?_⟩) ?_ ?_
                                      rotate_left
                                      · intro w'
                                        go_simp
                                        with_reducible rfl
                                      rotate_left
                                      · simp only [Act.put, List.setIfInBounds_toArray, List.set_cons_zero, List.set_cons_succ, i64_w, i32_w]
                                        rfl
                                      refine pure_ (i := 20) (N := some 95) (v := ?_) (a' := ?_) #[true, true, false, true, false, true, false, false, true, false, false, false, true, false, true, true, true, false, false, true, true, false, false, false, false] rfl rfl (any_of HT_.out (by kernel_rfl)) (fun _ _ _ h => h) (Or.inl ⟨by rfl, ?_⟩) ?_ ?_
                                      rotate_left
                                      · intro w'
                                        go_simp
                                        with_reducible rfl
                                      rotate_left
                                      · simp only [Act.put, List.setIfInBounds_toArray, List.set_cons_zero, List.set_cons_succ, i64_w, i32_w]
                                        rfl
                                      refine pure_ (i := 21) (N := some 96) (v := ?_) (a' := ?_) #[true, true, false, true, false, true, false, false, true, false, false, false, true, false, true, true, true, false, false, true, true, true, false, false, false] rfl rfl (any_of HT_.out (by kernel_rfl)) (fun _ _ _ h => h) (Or.inl ⟨by rfl, ?_⟩) ?_ ?_
                                      rotate_left
                                      · intro w'
                                        go_simp
                                        with_reducible rfl
                                      rotate_left
                                      · simp only [Act.put, List.setIfInBounds_toArray, List.set_cons_zero, List.set_cons_succ, i64_w, i32_w]
                                        rfl
                                      refine take_ (i := 2) (N := some 77) (v := ?_) (a' := ?_) #[true, true, true, true, false, true, false, false, true, false, false, false, true, false, true, true, true, false, false, true, true, true, false, false, false] rfl rfl (take_ofW HT_.out HW_.out (by kernel_rfl)) (fun _ _ _ h => h) (Or.inl ⟨by rfl, ?_⟩) hHeld ?_ ?_
                                      rotate_left
                                      · rintro w' ⟨s0, s1, s2⟩
                                        go_simp
                                        with_reducible rfl
                                      rotate_left
                                      · simp only [Act.put, List.setIfInBounds_toArray, List.set_cons_zero, List.set_cons_succ, i64_w, i32_w]
                                        rfl
                                      refine take_ (i := 17) (N := some 92) (v := ?_) (a' := ?_) #[true, true, true, true, false, true, false, false, true, false, false, false, true, false, true, true, true, true, false, true, true, true, false, false, false] rfl rfl (take_ofW HT_.out HW_.out (by kernel_rfl)) (fun _ _ _ h => h) (Or.inl ⟨by rfl, ?_⟩) hHeld ?_ ?_
                                      rotate_left
                                      · rintro w' ⟨s0, s1, s2⟩
                                        go_simp
                                        with_reducible rfl
                                      rotate_left
                                      · simp only [Act.put, List.setIfInBounds_toArray, List.set_cons_zero, List.set_cons_succ, i64_w, i32_w]
                                        rfl
                                      refine take_ (i := 22) (N := some 97) (v := ?_) (a' := ?_) #[true, true, true, true, false, true, false, false, true, false, false, false, true, false, true, true, true, true, false, true, true, true, true, false, false] rfl rfl (take_ofW HT_.out HW_.out (by kernel_rfl)) (fun _ _ _ h => h) (Or.inl ⟨by rfl, ?_⟩) hHeld ?_ ?_
                                      rotate_left
                                      · rintro w' ⟨s0, s1, s2⟩
                                        go_simp
                                        with_reducible rfl
                                      rotate_left
                                      · simp only [Act.put, List.setIfInBounds_toArray, List.set_cons_zero, List.set_cons_succ, i64_w, i32_w]
                                        rfl
                                      refine one_ (i := 4) (N := some 79) #[true, true, true, true, true, true, false, false, true, false, false, false, true, false, true, true, true, true, false, true, true, true, true, false, false] rfl rfl (one_of HT_.out (by kernel_rfl)) (by decide) (fun K hK => ?_)
                                      refine goes_ Tryd.func26 (by kernel_rfl) rfl #[.int .i64 (rd x9_2 4), .int .i64 6] (by rfl) rfl rfl (by (try simp only [List.map_toArray, List.map_cons, List.map_nil]); first | done | rfl | (simp only [List.length_drop, List.length_take]; rfl)) ?_
                                      with_reducible refine (redoubtref10_turn.calls k2 (rd x9_2 4) 6 t156 _ A21.out).mono ?_
                                      rintro e w' ⟨rfl, ⟨nd, rfl⟩⟩
                                      refine ⟨_, rfl, ?_⟩
                                      refine hK.out _ _ ⟨hHeld.1, hHeld.2.1, hHeld.2.2⟩ (fun hHeld => ?_)
                                      clear hK K
                                      refine norm_ (a' := ?_) ?_ ?_
                                      rotate_left
                                      · show Act.put _ (some 79) _ = _
                                        simp only [Act.put, List.setIfInBounds_toArray, List.set_cons_zero, List.set_cons_succ, i64_w, i32_w]
                                        rfl
                                      refine one_ (i := 6) (N := some 81) #[true, true, true, true, true, true, true, false, true, false, false, false, true, false, true, true, true, true, false, true, true, true, true, false, false] rfl rfl (one_of HT_.out (by kernel_rfl)) (by decide) (fun K hK => ?_)
                                      refine goes_ Tryd.func26 (by kernel_rfl) rfl #[.int .i64 (rd x9_2 4), .int .i64 11] (by rfl) rfl rfl (by (try simp only [List.map_toArray, List.map_cons, List.map_nil]); first | done | rfl | (simp only [List.length_drop, List.length_take]; rfl)) ?_
                                      with_reducible refine (redoubtref10_turn.calls k2 (rd x9_2 4) 11 t157 _ A22.out).mono ?_
                                      rintro e w' ⟨rfl, ⟨nd, rfl⟩⟩
                                      refine ⟨_, rfl, ?_⟩
                                      refine hK.out _ _ ⟨hHeld.1, hHeld.2.1, hHeld.2.2⟩ (fun hHeld => ?_)
                                      clear hK K
                                      refine norm_ (a' := ?_) ?_ ?_
                                      rotate_left
                                      · show Act.put _ (some 81) _ = _
                                        simp only [Act.put, List.setIfInBounds_toArray, List.set_cons_zero, List.set_cons_succ, i64_w, i32_w]
                                        rfl
                                      refine pure_ (i := 7) (N := some 82) (v := ?_) (a' := ?_) #[true, true, true, true, true, true, true, true, true, false, false, false, true, false, true, true, true, true, false, true, true, true, true, false, false] rfl rfl (any_of HT_.out (by kernel_rfl)) (fun _ _ _ h => h) (Or.inl ⟨by rfl, ?_⟩) ?_ ?_
                                      rotate_left
                                      · intro w'
                                        go_simp
                                        with_reducible rfl
                                      rotate_left
                                      · simp only [Act.put, List.setIfInBounds_toArray, List.set_cons_zero, List.set_cons_succ, i64_w, i32_w]
                                        rfl
                                      refine one_ (i := 9) (N := some 84) #[true, true, true, true, true, true, true, true, true, true, false, false, true, false, true, true, true, true, false, true, true, true, true, false, false] rfl rfl (one_of HT_.out (by kernel_rfl)) (by decide) (fun K hK => ?_)
                                      refine goes_ Tryd.func26 (by kernel_rfl) rfl #[.int .i64 (rd x9_2 4), .int .i64 25] (by rfl) rfl rfl (by (try simp only [List.map_toArray, List.map_cons, List.map_nil]); first | done | rfl | (simp only [List.length_drop, List.length_take]; rfl)) ?_
                                      with_reducible refine (redoubtref10_turn.calls k2 (rd x9_2 4) 25 t158 _ A23.out).mono ?_
                                      rintro e w' ⟨rfl, ⟨nd, rfl⟩⟩
                                      refine ⟨_, rfl, ?_⟩
                                      refine hK.out _ _ ⟨hHeld.1, hHeld.2.1, hHeld.2.2⟩ (fun hHeld => ?_)
                                      clear hK K
                                      refine norm_ (a' := ?_) ?_ ?_
                                      rotate_left
                                      · show Act.put _ (some 84) _ = _
                                        simp only [Act.put, List.setIfInBounds_toArray, List.set_cons_zero, List.set_cons_succ, i64_w, i32_w]
                                        rfl
                                      refine pure_ (i := 10) (N := some 85) (v := ?_) (a' := ?_) #[true, true, true, true, true, true, true, true, true, true, true, false, true, false, true, true, true, true, false, true, true, true, true, false, false] rfl rfl (any_of HT_.out (by kernel_rfl)) (fun _ _ _ h => h) (Or.inl ⟨by rfl, ?_⟩) ?_ ?_
                                      rotate_left
                                      · intro w'
                                        go_simp
                                        with_reducible rfl
                                      rotate_left
                                      · simp only [Act.put, List.setIfInBounds_toArray, List.set_cons_zero, List.set_cons_succ, i64_w, i32_w]
                                        rfl
                                      refine pure_ (i := 11) (N := some 86) (v := ?_) (a' := ?_) #[true, true, true, true, true, true, true, true, true, true, true, true, true, false, true, true, true, true, false, true, true, true, true, false, false] rfl rfl (any_of HT_.out (by kernel_rfl)) (fun _ _ _ h => h) (Or.inl ⟨by rfl, ?_⟩) ?_ ?_
                                      rotate_left
                                      · intro w'
                                        go_simp
                                        with_reducible rfl
                                      rotate_left
                                      · simp only [Act.put, List.setIfInBounds_toArray, List.set_cons_zero, List.set_cons_succ, i64_w, i32_w]
                                        rfl
                                      refine pure_ (i := 13) (N := some 88) (v := ?_) (a' := ?_) #[true, true, true, true, true, true, true, true, true, true, true, true, true, true, true, true, true, true, false, true, true, true, true, false, false] rfl rfl (any_of HT_.out (by kernel_rfl)) (fun _ _ _ h => h) (Or.inl ⟨by rfl, ?_⟩) ?_ ?_
                                      rotate_left
                                      · intro w'
                                        go_simp
                                        with_reducible rfl
                                      rotate_left
                                      · simp only [Act.put, List.setIfInBounds_toArray, List.set_cons_zero, List.set_cons_succ, i64_w, i32_w]
                                        rfl
                                      refine pure_ (i := 18) (N := some 93) (v := ?_) (a' := ?_) #[true, true, true, true, true, true, true, true, true, true, true, true, true, true, true, true, true, true, true, true, true, true, true, false, false] rfl rfl (any_of HT_.out (by kernel_rfl)) (fun _ _ _ h => h) (Or.inl ⟨by rfl, ?_⟩) ?_ ?_
                                      rotate_left
                                      · intro w'
                                        go_simp
                                        with_reducible rfl
                                      rotate_left
                                      · simp only [Act.put, List.setIfInBounds_toArray, List.set_cons_zero, List.set_cons_succ, i64_w, i32_w]
                                        rfl
                                      refine pure_ (i := 23) (N := some 98) (v := ?_) (a' := ?_) #[true, true, true, true, true, true, true, true, true, true, true, true, true, true, true, true, true, true, true, true, true, true, true, true, false] rfl rfl (any_of HT_.out (by kernel_rfl)) (fun _ _ _ h => h) (Or.inl ⟨by rfl, ?_⟩) ?_ ?_
                                      rotate_left
                                      · intro w'
                                        go_simp
                                        with_reducible rfl
                                      rotate_left
                                      · simp only [Act.put, List.setIfInBounds_toArray, List.set_cons_zero, List.set_cons_succ, i64_w, i32_w]
                                        rfl
                                      refine pure_ (i := 24) (N := some 15) (v := ?_) (a' := ?_) #[true, true, true, true, true, true, true, true, true, true, true, true, true, true, true, true, true, true, true, true, true, true, true, true, true] rfl rfl (any_of HT_.out (by kernel_rfl)) (fun _ _ _ h => h) (Or.inl ⟨by rfl, ?_⟩) ?_ ?_
                                      rotate_left
                                      · intro w'
                                        go_simp
                                        with_reducible rfl
                                      rotate_left
                                      · simp only [Act.put, List.setIfInBounds_toArray, List.set_cons_zero, List.set_cons_succ, i64_w, i32_w]
                                        rfl
                                      refine done_ (done_of HT_.out (by kernel_rfl)) ?_
                                      try go_wp2_with (first | ((with_reducible refine gate_callee (f := 26) rfl ?_); refine goesL_ (some 100) rfl rfl Tryd.func26 (by kernel_rfl) rfl #[.int .i64 (rd x9_2 0), .int .i64 2] rfl (by (try simp only [List.map_toArray, List.map_cons, List.map_nil]); first | done | rfl | (simp only [List.length_drop, List.length_take]; rfl)) ?_; (with_reducible refine (redoubtref10_turn.calls k2 (rd x9_2 0) 2 t161 _ A27.out).mono ?_); rintro e w' ⟨rfl, ⟨nd, rfl⟩⟩; refine ⟨_, rfl, ?_⟩) | ((with_reducible refine gate_callee (f := 26) rfl ?_); refine goesL_ (some 102) rfl rfl Tryd.func26 (by kernel_rfl) rfl #[.int .i64 (rd x9_2 0), .int .i64 13] rfl (by (try simp only [List.map_toArray, List.map_cons, List.map_nil]); first | done | rfl | (simp only [List.length_drop, List.length_take]; rfl)) ?_; (with_reducible refine (redoubtref10_turn.calls k2 (rd x9_2 0) 13 t162 _ A28.out).mono ?_); rintro e w' ⟨rfl, ⟨nd, rfl⟩⟩; refine ⟨_, rfl, ?_⟩) | ((with_reducible refine gate_callee (f := 26) rfl ?_); refine goesL_ (some 105) rfl rfl Tryd.func26 (by kernel_rfl) rfl #[.int .i64 (rd x9_2 0), .int .i64 22] rfl (by (try simp only [List.map_toArray, List.map_cons, List.map_nil]); first | done | rfl | (simp only [List.length_drop, List.length_take]; rfl)) ?_; (with_reducible refine (redoubtref10_turn.calls k2 (rd x9_2 0) 22 t163 _ A29.out).mono ?_); rintro e w' ⟨rfl, ⟨nd, rfl⟩⟩; refine ⟨_, rfl, ?_⟩))
                                      (try (rw [drewN_self w34]; generalize hq_ : World.drewN w34 _ = w34; have n0_ : Aside0 (Kd.R (Kd.int .i64) 3 w34 w.heap.size (fun k_ => some k_ ≠ (.slice (some ad159) t141.length co35 : Value).ownBlock ∧ some k_ ≠ (.slice (some ad147) x9_2.length co31 : Value).ownBlock) (.slice (some ad160) t136.length co36) t136) := ⟨by rw [← hq_]; exact (by (with_reducible repeat (first | apply Kd.R_alloc | apply Kd.R_drewN | apply Kd.R_drew)); exact HO_6.out)⟩; have n1_ : Aside0 (Kd.R (Kd.int .i64) 3 w34 w.heap.size (fun k_ => some k_ ≠ (.slice (some ad160) t136.length co36 : Value).ownBlock ∧ some k_ ≠ (.slice (some ad147) x9_2.length co31 : Value).ownBlock) (.slice (some ad159) t141.length co35) t141) := ⟨by rw [← hq_]; exact (by (with_reducible repeat (first | apply Kd.R_alloc | apply Kd.R_drewN | apply Kd.R_drew)); exact HO_8.out)⟩; have n2_ : Aside0 (Kd.R (Kd.int .i64) 3 w34 w.heap.size (fun k_ => some k_ ≠ (.slice (some ad160) t136.length co36 : Value).ownBlock ∧ some k_ ≠ (.slice (some ad159) t141.length co35 : Value).ownBlock) (.slice (some ad147) x9_2.length co31) x9_2) := ⟨by rw [← hq_]; exact (by (with_reducible repeat (first | apply Kd.R_alloc | apply Kd.R_drewN | apply Kd.R_drew)); exact HO_9.out)⟩; have n3_ : Aside0 (Below w.heap.size w w34) := ⟨by rw [← hq_]; exact (by repeat (first | (with_reducible first | exact HB.out | apply below_alloc | apply pw_below_drewN | apply below_drew1) | exact HB.out))⟩; clear HO_6 HO_8 HO_9 HB hq_; have HO_6 := n0_; have HO_8 := n1_; have HO_9 := n2_; have HB := n3_; clear n0_ n1_ n2_ n3_))
                                      have n0_ := Aside0.mk (Kd.R_drew HO_6.out)
                                      have n1_ := Aside0.mk (Kd.R_drew HO_8.out)
                                      have n2_ := Aside0.mk (Kd.R_drew HO_9.out)
                                      have n3_ := Aside0.mk (below_drew1 HB.out)
                                      clear HO_6
                                      clear HO_8
                                      clear HO_9
                                      clear HB
                                      have HO_6 := n0_
                                      have HO_8 := n1_
                                      have HO_9 := n2_
                                      have HB := n3_
                                      clear n0_ n1_ n2_ n3_
                                      have p164 : 0 ≤ (0 : Int) := (by omega)
                                      have q164 : 0 < (x9_2.length : Int) := of_decide_eq_true (by first | (with_reducible assumption) | assumption)
                                      obtain ⟨ad164, e164, hx164_0⟩ := Kd.at_int (Kd.R_reads' HO_9.out).2.2 0 p164 q164
                                      obtain rfl : ad147 = ad164 := (by injection e164)
                                      have qi164 : (0 < x9_2.length) = True := eq_true (by omega)
                                      (try rw [show ((0 : Int)).toNat = 0 from rfl] at hx164_0)
                                      (try rw [Addr.add_zero'] at hx164_0)
                                      replace p164 := eq_true p164
                                      replace q164 := eq_true q164
                                      have p165 : 0 ≤ (1 : Int) := (by omega)
                                      have q165 : 1 < (x9_2.length : Int) := of_decide_eq_true (by first | (with_reducible assumption) | assumption)
                                      obtain ⟨ad165, e165, hx165_0⟩ := Kd.at_int (Kd.R_reads' HO_9.out).2.2 1 p165 q165
                                      obtain rfl : ad147 = ad165 := (by injection e165)
                                      (try simp only [show (1 : Int).toNat = 1 from rfl, Nat.reduceMul, Nat.reduceEqDiff, Go.Addr.add, ↓reduceIte] at hx165_0)
                                      have qi165 : (1 < x9_2.length) = True := eq_true (by omega)
                                      (try rw [show ((1 : Int)).toNat = 1 from rfl] at hx165_0)
                                      replace p165 := eq_true p165
                                      replace q165 := eq_true q165
                                      have p166 : 0 ≤ (2 : Int) := (by omega)
                                      have q166 : 2 < (x9_2.length : Int) := of_decide_eq_true (by first | (with_reducible assumption) | assumption)
                                      obtain ⟨ad166, e166, hx166_0⟩ := Kd.at_int (Kd.R_reads' HO_9.out).2.2 2 p166 q166
                                      obtain rfl : ad147 = ad166 := (by injection e166)
                                      (try simp only [show (2 : Int).toNat = 2 from rfl, Nat.reduceMul, Nat.reduceEqDiff, Go.Addr.add, ↓reduceIte] at hx166_0)
                                      have qi166 : (2 < x9_2.length) = True := eq_true (by omega)
                                      (try rw [show ((2 : Int)).toNat = 2 from rfl] at hx166_0)
                                      replace p166 := eq_true p166
                                      replace q166 := eq_true q166
                                      have p167 : 0 ≤ (3 : Int) := (by omega)
                                      have q167 : 3 < (x9_2.length : Int) := of_decide_eq_true (by first | (with_reducible assumption) | assumption)
                                      obtain ⟨ad167, e167, hx167_0⟩ := Kd.at_int (Kd.R_reads' HO_9.out).2.2 3 p167 q167
                                      obtain rfl : ad147 = ad167 := (by injection e167)
                                      (try simp only [show (3 : Int).toNat = 3 from rfl, Nat.reduceMul, Nat.reduceEqDiff, Go.Addr.add, ↓reduceIte] at hx167_0)
                                      have qi167 : (3 < x9_2.length) = True := eq_true (by omega)
                                      (try rw [show ((3 : Int)).toNat = 3 from rfl] at hx167_0)
                                      replace p167 := eq_true p167
                                      replace q167 := eq_true q167
                                      have p168 : 0 ≤ (4 : Int) := (by omega)
                                      have q168 : 4 < (x9_2.length : Int) := of_decide_eq_true (by first | (with_reducible assumption) | assumption)
                                      obtain ⟨ad168, e168, hx168_0⟩ := Kd.at_int (Kd.R_reads' HO_9.out).2.2 4 p168 q168
                                      obtain rfl : ad147 = ad168 := (by injection e168)
                                      (try simp only [show (4 : Int).toNat = 4 from rfl, Nat.reduceMul, Nat.reduceEqDiff, Go.Addr.add, ↓reduceIte] at hx168_0)
                                      have qi168 : (4 < x9_2.length) = True := eq_true (by omega)
                                      (try rw [show ((4 : Int)).toNat = 4 from rfl] at hx168_0)
                                      replace p168 := eq_true p168
                                      replace q168 := eq_true q168
                                      have p169 : 0 ≤ (5 : Int) := (by omega)
                                      have q169 : 5 < (x9_2.length : Int) := of_decide_eq_true (by first | (with_reducible assumption) | assumption)
                                      obtain ⟨ad169, e169, hx169_0⟩ := Kd.at_int (Kd.R_reads' HO_9.out).2.2 5 p169 q169
                                      obtain rfl : ad147 = ad169 := (by injection e169)
                                      (try simp only [show (5 : Int).toNat = 5 from rfl, Nat.reduceMul, Nat.reduceEqDiff, Go.Addr.add, ↓reduceIte] at hx169_0)
                                      have qi169 : (5 < x9_2.length) = True := eq_true (by omega)
                                      (try rw [show ((5 : Int)).toNat = 5 from rfl] at hx169_0)
                                      replace p169 := eq_true p169
                                      replace q169 := eq_true q169
                                      have p170 : 0 ≤ (6 : Int) := (by omega)
                                      have q170 : 6 < (x9_2.length : Int) := of_decide_eq_true (by first | (with_reducible assumption) | assumption)
                                      obtain ⟨ad170, e170, hx170_0⟩ := Kd.at_int (Kd.R_reads' HO_9.out).2.2 6 p170 q170
                                      obtain rfl : ad147 = ad170 := (by injection e170)
                                      (try simp only [show (6 : Int).toNat = 6 from rfl, Nat.reduceMul, Nat.reduceEqDiff, Go.Addr.add, ↓reduceIte] at hx170_0)
                                      have qi170 : (6 < x9_2.length) = True := eq_true (by omega)
                                      (try rw [show ((6 : Int)).toNat = 6 from rfl] at hx170_0)
                                      replace p170 := eq_true p170
                                      replace q170 := eq_true q170
                                      refine start_ (n := 30) (S := fun w' => w'.cell? ad147 = some (.int .i64 (rd x9_2 0)) ∧ w'.cell? ⟨ad147.block, ad147.off + 1, none⟩ = some (.int .i64 (rd x9_2 1)) ∧ w'.cell? ⟨ad147.block, ad147.off + 2, none⟩ = some (.int .i64 (rd x9_2 2)) ∧ w'.cell? ⟨ad147.block, ad147.off + 3, none⟩ = some (.int .i64 (rd x9_2 3)) ∧ w'.cell? ⟨ad147.block, ad147.off + 4, none⟩ = some (.int .i64 (rd x9_2 4)) ∧ w'.cell? ⟨ad147.block, ad147.off + 5, none⟩ = some (.int .i64 (rd x9_2 5)) ∧ w'.cell? ⟨ad147.block, ad147.off + 6, none⟩ = some (.int .i64 (rd x9_2 6))) (ds := []) #[false, false, false, false, false, false, false, false, false, false, false, false, false, false, false, false, false, false, false, false, false, false, false, false, false, false, false, false, false, false] (by kernel_rfl) rfl rfl ⟨hx164_0, hx165_0, hx166_0, hx167_0, hx168_0, hx169_0, hx170_0⟩ (fun hHeld => ?_); refine with_tabW redoubtref10_Round.tab16 redoubtref10_Round.bits16 (fun HT_ HW_ => ?_)
                                      generalize w34.drew = w37 at HO_6 HO_8 HO_9 HB hx164_0 hx165_0 hx166_0 hx167_0 hx168_0 hx169_0 hx170_0 hHeld ⊢
                                      refine pure_ (i := 0) (N := some 109) (v := ?_) (a' := ?_) #[true, false, false, false, false, false, false, false, false, false, false, false, false, false, false, false, false, false, false, false, false, false, false, false, false, false, false, false, false, false] rfl rfl (any_of HT_.out (by kernel_rfl)) (fun _ _ _ h => h) (Or.inl ⟨by rfl, ?_⟩) ?_ ?_
                                      rotate_left
                                      · intro w'
                                        go_simp
                                        with_reducible rfl
                                      rotate_left
                                      · simp only [Act.put, List.setIfInBounds_toArray, List.set_cons_zero, List.set_cons_succ, i64_w, i32_w]
                                        rfl
                                      refine pure_ (i := 1) (N := some 110) (v := ?_) (a' := ?_) #[true, true, false, false, false, false, false, false, false, false, false, false, false, false, false, false, false, false, false, false, false, false, false, false, false, false, false, false, false, false] rfl rfl (any_of HT_.out (by kernel_rfl)) (fun _ _ _ h => h) (Or.inl ⟨by rfl, ?_⟩) ?_ ?_
                                      rotate_left
                                      · intro w'
                                        go_simp
                                        with_reducible rfl
                                      rotate_left
                                      · simp only [Act.put, List.setIfInBounds_toArray, List.set_cons_zero, List.set_cons_succ, i64_w, i32_w]
                                        rfl
                                      refine pure_ (i := 2) (N := some 111) (v := ?_) (a' := ?_) #[true, true, true, false, false, false, false, false, false, false, false, false, false, false, false, false, false, false, false, false, false, false, false, false, false, false, false, false, false, false] rfl rfl (any_of HT_.out (by kernel_rfl)) (fun _ _ _ h => h) (Or.inl ⟨by rfl, ?_⟩) ?_ ?_
                                      rotate_left
                                      · intro w'
                                        go_simp
                                        with_reducible rfl
                                      rotate_left
                                      · simp only [Act.put, List.setIfInBounds_toArray, List.set_cons_zero, List.set_cons_succ, i64_w, i32_w]
                                        rfl
                                      refine pure_ (i := 3) (N := some 112) (v := ?_) (a' := ?_) #[true, true, true, true, false, false, false, false, false, false, false, false, false, false, false, false, false, false, false, false, false, false, false, false, false, false, false, false, false, false] rfl rfl (any_of HT_.out (by kernel_rfl)) (fun _ _ _ h => h) (Or.inl ⟨by rfl, ?_⟩) ?_ ?_
                                      rotate_left
                                      · intro w'
                                        go_simp
                                        with_reducible rfl
                                      rotate_left
                                      · simp only [Act.put, List.setIfInBounds_toArray, List.set_cons_zero, List.set_cons_succ, i64_w, i32_w]
                                        rfl
                                      refine pure_ (i := 4) (N := some 113) (v := ?_) (a' := ?_) #[true, true, true, true, true, false, false, false, false, false, false, false, false, false, false, false, false, false, false, false, false, false, false, false, false, false, false, false, false, false] rfl rfl (any_of HT_.out (by kernel_rfl)) (fun _ _ _ h => h) (Or.inl ⟨by rfl, ?_⟩) ?_ ?_
                                      rotate_left
                                      · intro w'
                                        go_simp
                                        with_reducible rfl
                                      rotate_left
                                      · simp only [Act.put, List.setIfInBounds_toArray, List.set_cons_zero, List.set_cons_succ, i64_w, i32_w]
                                        rfl
                                      refine pure_ (i := 5) (N := some 114) (v := ?_) (a' := ?_) #[true, true, true, true, true, true, false, false, false, false, false, false, false, false, false, false, false, false, false, false, false, false, false, false, false, false, false, false, false, false] rfl rfl (any_of HT_.out (by kernel_rfl)) (fun _ _ _ h => h) (Or.inl ⟨by rfl, ?_⟩) ?_ ?_
                                      rotate_left
                                      · intro w'
                                        go_simp
                                        with_reducible rfl
                                      rotate_left
                                      · simp only [Act.put, List.setIfInBounds_toArray, List.set_cons_zero, List.set_cons_succ, i64_w, i32_w]
                                        rfl
                                      refine pure_ (i := 7) (N := some 116) (v := ?_) (a' := ?_) #[true, true, true, true, true, true, false, true, false, false, false, false, false, false, false, false, false, false, false, false, false, false, false, false, false, false, false, false, false, false] rfl rfl (any_of HT_.out (by kernel_rfl)) (fun _ _ _ h => h) (Or.inl ⟨by rfl, ?_⟩) ?_ ?_
                                      rotate_left
                                      · intro w'
                                        go_simp
                                        with_reducible rfl
                                      rotate_left
                                      · simp only [Act.put, List.setIfInBounds_toArray, List.set_cons_zero, List.set_cons_succ, i64_w, i32_w]
                                        rfl
                                      refine pure_ (i := 8) (N := some 117) (v := ?_) (a' := ?_) #[true, true, true, true, true, true, false, true, true, false, false, false, false, false, false, false, false, false, false, false, false, false, false, false, false, false, false, false, false, false] rfl rfl (any_of HT_.out (by kernel_rfl)) (fun _ _ _ h => h) (Or.inl ⟨by rfl, ?_⟩) ?_ ?_
                                      rotate_left
                                      · intro w'
                                        go_simp
                                        with_reducible rfl
                                      rotate_left
                                      · simp only [Act.put, List.setIfInBounds_toArray, List.set_cons_zero, List.set_cons_succ, i64_w, i32_w]
                                        rfl
                                      refine pure_ (i := 10) (N := some 119) (v := ?_) (a' := ?_) #[true, true, true, true, true, true, false, true, true, false, true, false, false, false, false, false, false, false, false, false, false, false, false, false, false, false, false, false, false, false] rfl rfl (any_of HT_.out (by kernel_rfl)) (fun _ _ _ h => h) (Or.inl ⟨by rfl, ?_⟩) ?_ ?_
                                      rotate_left
                                      · intro w'
                                        go_simp
                                        with_reducible rfl
                                      rotate_left
                                      · simp only [Act.put, List.setIfInBounds_toArray, List.set_cons_zero, List.set_cons_succ, i64_w, i32_w]
                                        rfl
                                      refine pure_ (i := 11) (N := some 120) (v := ?_) (a' := ?_) #[true, true, true, true, true, true, false, true, true, false, true, true, false, false, false, false, false, false, false, false, false, false, false, false, false, false, false, false, false, false] rfl rfl (any_of HT_.out (by kernel_rfl)) (fun _ _ _ h => h) (Or.inl ⟨by rfl, ?_⟩) ?_ ?_
                                      rotate_left
                                      · intro w'
                                        go_simp
                                        with_reducible rfl
                                      rotate_left
                                      · simp only [Act.put, List.setIfInBounds_toArray, List.set_cons_zero, List.set_cons_succ, i64_w, i32_w]
                                        rfl
                                      refine pure_ (i := 13) (N := some 122) (v := ?_) (a' := ?_) #[true, true, true, true, true, true, false, true, true, false, true, true, false, true, false, false, false, false, false, false, false, false, false, false, false, false, false, false, false, false] rfl rfl (any_of HT_.out (by kernel_rfl)) (fun _ _ _ h => h) (Or.inl ⟨by rfl, ?_⟩) ?_ ?_
                                      rotate_left
                                      · intro w'
                                        go_simp
                                        with_reducible rfl
                                      rotate_left
                                      · simp only [Act.put, List.setIfInBounds_toArray, List.set_cons_zero, List.set_cons_succ, i64_w, i32_w]
                                        rfl
                                      refine pure_ (i := 14) (N := some 123) (v := ?_) (a' := ?_) #[true, true, true, true, true, true, false, true, true, false, true, true, false, true, true, false, false, false, false, false, false, false, false, false, false, false, false, false, false, false] rfl rfl (any_of HT_.out (by kernel_rfl)) (fun _ _ _ h => h) (Or.inl ⟨by rfl, ?_⟩) ?_ ?_
                                      rotate_left
                                      · intro w'
                                        go_simp
                                        with_reducible rfl
                                      rotate_left
                                      · simp only [Act.put, List.setIfInBounds_toArray, List.set_cons_zero, List.set_cons_succ, i64_w, i32_w]
                                        rfl
                                      refine pure_ (i := 16) (N := some 125) (v := ?_) (a' := ?_) #[true, true, true, true, true, true, false, true, true, false, true, true, false, true, true, false, true, false, false, false, false, false, false, false, false, false, false, false, false, false] rfl rfl (any_of HT_.out (by kernel_rfl)) (fun _ _ _ h => h) (Or.inl ⟨by rfl, ?_⟩) ?_ ?_
                                      rotate_left
                                      · intro w'
                                        go_simp
                                        with_reducible rfl
                                      rotate_left
                                      · simp only [Act.put, List.setIfInBounds_toArray, List.set_cons_zero, List.set_cons_succ, i64_w, i32_w]
                                        rfl
                                      refine pure_ (i := 19) (N := some 128) (v := ?_) (a' := ?_) #[true, true, true, true, true, true, false, true, true, false, true, true, false, true, true, false, true, false, false, true, false, false, false, false, false, false, false, false, false, false] rfl rfl (any_of HT_.out (by kernel_rfl)) (fun _ _ _ h => h) (Or.inl ⟨by rfl, ?_⟩) ?_ ?_
                                      rotate_left
                                      · intro w'
                                        go_simp
                                        with_reducible rfl
                                      rotate_left
                                      · simp only [Act.put, List.setIfInBounds_toArray, List.set_cons_zero, List.set_cons_succ, i64_w, i32_w]
                                        rfl
                                      refine pure_ (i := 20) (N := some 129) (v := ?_) (a' := ?_) #[true, true, true, true, true, true, false, true, true, false, true, true, false, true, true, false, true, false, false, true, true, false, false, false, false, false, false, false, false, false] rfl rfl (any_of HT_.out (by kernel_rfl)) (fun _ _ _ h => h) (Or.inl ⟨by rfl, ?_⟩) ?_ ?_
                                      rotate_left
                                      · intro w'
                                        go_simp
                                        with_reducible rfl
                                      rotate_left
                                      · simp only [Act.put, List.setIfInBounds_toArray, List.set_cons_zero, List.set_cons_succ, i64_w, i32_w]
                                        rfl
                                      refine pure_ (i := 22) (N := some 131) (v := ?_) (a' := ?_) #[true, true, true, true, true, true, false, true, true, false, true, true, false, true, true, false, true, false, false, true, true, false, true, false, false, false, false, false, false, false] rfl rfl (any_of HT_.out (by kernel_rfl)) (fun _ _ _ h => h) (Or.inl ⟨by rfl, ?_⟩) ?_ ?_
                                      rotate_left
                                      · intro w'
                                        go_simp
                                        with_reducible rfl
                                      rotate_left
                                      · simp only [Act.put, List.setIfInBounds_toArray, List.set_cons_zero, List.set_cons_succ, i64_w, i32_w]
                                        rfl
                                      refine pure_ (i := 23) (N := some 132) (v := ?_) (a' := ?_) #[true, true, true, true, true, true, false, true, true, false, true, true, false, true, true, false, true, false, false, true, true, false, true, true, false, false, false, false, false, false] rfl rfl (any_of HT_.out (by kernel_rfl)) (fun _ _ _ h => h) (Or.inl ⟨by rfl, ?_⟩) ?_ ?_
                                      rotate_left
                                      · intro w'
                                        go_simp
                                        with_reducible rfl
                                      rotate_left
                                      · simp only [Act.put, List.setIfInBounds_toArray, List.set_cons_zero, List.set_cons_succ, i64_w, i32_w]
                                        rfl
                                      refine pure_ (i := 25) (N := some 134) (v := ?_) (a' := ?_) #[true, true, true, true, true, true, false, true, true, false, true, true, false, true, true, false, true, false, false, true, true, false, true, true, false, true, false, false, false, false] rfl rfl (any_of HT_.out (by kernel_rfl)) (fun _ _ _ h => h) (Or.inl ⟨by rfl, ?_⟩) ?_ ?_
                                      rotate_left
                                      · intro w'
                                        go_simp
                                        with_reducible rfl
                                      rotate_left
                                      · simp only [Act.put, List.setIfInBounds_toArray, List.set_cons_zero, List.set_cons_succ, i64_w, i32_w]
                                        rfl
                                      refine pure_ (i := 26) (N := some 135) (v := ?_) (a' := ?_) #[true, true, true, true, true, true, false, true, true, false, true, true, false, true, true, false, true, false, false, true, true, false, true, true, false, true, true, false, false, false] rfl rfl (any_of HT_.out (by kernel_rfl)) (fun _ _ _ h => h) (Or.inl ⟨by rfl, ?_⟩) ?_ ?_
                                      rotate_left
                                      · intro w'
                                        go_simp
                                        with_reducible rfl
                                      rotate_left
                                      · simp only [Act.put, List.setIfInBounds_toArray, List.set_cons_zero, List.set_cons_succ, i64_w, i32_w]
                                        rfl
                                      refine take_ (i := 6) (N := some 115) (v := ?_) (a' := ?_) #[true, true, true, true, true, true, true, true, true, false, true, true, false, true, true, false, true, false, false, true, true, false, true, true, false, true, true, false, false, false] rfl rfl (take_ofW HT_.out HW_.out (by kernel_rfl)) (fun _ _ _ h => h) (Or.inl ⟨by rfl, ?_⟩) hHeld ?_ ?_
                                      rotate_left
                                      · rintro w' ⟨s0, s1, s2, s3, s4, s5, s6⟩
                                        go_simp
                                        with_reducible rfl
                                      rotate_left
                                      · simp only [Act.put, List.setIfInBounds_toArray, List.set_cons_zero, List.set_cons_succ, i64_w, i32_w]
                                        rfl
                                      refine take_ (i := 9) (N := some 118) (v := ?_) (a' := ?_) #[true, true, true, true, true, true, true, true, true, true, true, true, false, true, true, false, true, false, false, true, true, false, true, true, false, true, true, false, false, false] rfl rfl (take_ofW HT_.out HW_.out (by kernel_rfl)) (fun _ _ _ h => h) (Or.inl ⟨by rfl, ?_⟩) hHeld ?_ ?_
                                      rotate_left
                                      · rintro w' ⟨s0, s1, s2, s3, s4, s5, s6⟩
                                        go_simp
                                        with_reducible rfl
                                      rotate_left
                                      · simp only [Act.put, List.setIfInBounds_toArray, List.set_cons_zero, List.set_cons_succ, i64_w, i32_w]
                                        rfl
                                      refine take_ (i := 12) (N := some 121) (v := ?_) (a' := ?_) #[true, true, true, true, true, true, true, true, true, true, true, true, true, true, true, false, true, false, false, true, true, false, true, true, false, true, true, false, false, false] rfl rfl (take_ofW HT_.out HW_.out (by kernel_rfl)) (fun _ _ _ h => h) (Or.inl ⟨by rfl, ?_⟩) hHeld ?_ ?_
                                      rotate_left
                                      · rintro w' ⟨s0, s1, s2, s3, s4, s5, s6⟩
                                        go_simp
                                        with_reducible rfl
                                      rotate_left
                                      · simp only [Act.put, List.setIfInBounds_toArray, List.set_cons_zero, List.set_cons_succ, i64_w, i32_w]
                                        rfl
                                      refine take_ (i := 15) (N := some 124) (v := ?_) (a' := ?_) #[true, true, true, true, true, true, true, true, true, true, true, true, true, true, true, true, true, false, false, true, true, false, true, true, false, true, true, false, false, false] rfl rfl (take_ofW HT_.out HW_.out (by kernel_rfl)) (fun _ _ _ h => h) (Or.inl ⟨by rfl, ?_⟩) hHeld ?_ ?_
                                      rotate_left
                                      · rintro w' ⟨s0, s1, s2, s3, s4, s5, s6⟩
                                        go_simp
                                        with_reducible rfl
                                      rotate_left
                                      · simp only [Act.put, List.setIfInBounds_toArray, List.set_cons_zero, List.set_cons_succ, i64_w, i32_w]
                                        rfl
                                      refine pure_ (i := 17) (N := some 126) (v := ?_) (a' := ?_) #[true, true, true, true, true, true, true, true, true, true, true, true, true, true, true, true, true, true, false, true, true, false, true, true, false, true, true, false, false, false] rfl rfl (any_of HT_.out (by kernel_rfl)) (fun _ _ _ h => h) (Or.inl ⟨by rfl, ?_⟩) ?_ ?_
                                      rotate_left
                                      · intro w'
                                        go_simp
                                        with_reducible rfl
                                      rotate_left
                                      · simp only [Act.put, List.setIfInBounds_toArray, List.set_cons_zero, List.set_cons_succ, i64_w, i32_w]
                                        rfl
                                      refine pure_ (i := 18) (N := some 127) (v := ?_) (a' := ?_) #[true, true, true, true, true, true, true, true, true, true, true, true, true, true, true, true, true, true, true, true, true, false, true, true, false, true, true, false, false, false] rfl rfl (any_of HT_.out (by kernel_rfl)) (fun _ _ _ h => h) (Or.inl ⟨by rfl, ?_⟩) ?_ ?_
                                      rotate_left
                                      · intro w'
                                        go_simp
                                        with_reducible rfl
                                      rotate_left
                                      · simp only [Act.put, List.setIfInBounds_toArray, List.set_cons_zero, List.set_cons_succ, i64_w, i32_w]
                                        rfl
                                      refine take_ (i := 21) (N := some 130) (v := ?_) (a' := ?_) #[true, true, true, true, true, true, true, true, true, true, true, true, true, true, true, true, true, true, true, true, true, true, true, true, false, true, true, false, false, false] rfl rfl (take_ofW HT_.out HW_.out (by kernel_rfl)) (fun _ _ _ h => h) (Or.inl ⟨by rfl, ?_⟩) hHeld ?_ ?_
                                      rotate_left
                                      · rintro w' ⟨s0, s1, s2, s3, s4, s5, s6⟩
                                        go_simp
                                        with_reducible rfl
                                      rotate_left
                                      · simp only [Act.put, List.setIfInBounds_toArray, List.set_cons_zero, List.set_cons_succ, i64_w, i32_w]
                                        rfl
                                      refine take_ (i := 24) (N := some 133) (v := ?_) (a' := ?_) #[true, true, true, true, true, true, true, true, true, true, true, true, true, true, true, true, true, true, true, true, true, true, true, true, true, true, true, false, false, false] rfl rfl (take_ofW HT_.out HW_.out (by kernel_rfl)) (fun _ _ _ h => h) (Or.inl ⟨by rfl, ?_⟩) hHeld ?_ ?_
                                      rotate_left
                                      · rintro w' ⟨s0, s1, s2, s3, s4, s5, s6⟩
                                        go_simp
                                        with_reducible rfl
                                      rotate_left
                                      · simp only [Act.put, List.setIfInBounds_toArray, List.set_cons_zero, List.set_cons_succ, i64_w, i32_w]
                                        rfl
                                      refine take_ (i := 27) (N := some 136) (v := ?_) (a' := ?_) #[true, true, true, true, true, true, true, true, true, true, true, true, true, true, true, true, true, true, true, true, true, true, true, true, true, true, true, true, false, false] rfl rfl (take_ofW HT_.out HW_.out (by kernel_rfl)) (fun _ _ _ h => h) (Or.inl ⟨by rfl, ?_⟩) hHeld ?_ ?_
                                      rotate_left
                                      · rintro w' ⟨s0, s1, s2, s3, s4, s5, s6⟩
                                        go_simp
                                        with_reducible rfl
                                      rotate_left
                                      · simp only [Act.put, List.setIfInBounds_toArray, List.set_cons_zero, List.set_cons_succ, i64_w, i32_w]
                                        rfl
                                      refine one_ (i := 28) (N := some 137) #[true, true, true, true, true, true, true, true, true, true, true, true, true, true, true, true, true, true, true, true, true, true, true, true, true, true, true, true, true, false] rfl rfl (one_of HT_.out (by kernel_rfl)) (by decide) (fun K hK => ?_)
                                      refine Kd.R_lit_step (Kd.int .i64) _ 3 ?hg (N := 137) ?hd (xs := ([Int.tmod (wrap64 ((wrap64 ((wrap64 ((wrap64 ((wrap64 ((rd x9_2 7) + (Go.bits .xor .i64 (Go.bits .xor .i64 t156 t157) t158))) + (Go.bits .xor .i64 (Go.bits .and .i64 (rd x9_2 4) (rd x9_2 5)) (Go.bits .and .i64 (wrap64 (4294967295 - (rd x9_2 4))) (rd x9_2 6))))) + (rd t141 x10_2))) + (rd t136 x10_2))) + (wrap64 ((Go.bits .xor .i64 (Go.bits .xor .i64 t161 t162) t163) + (Go.bits .xor .i64 (Go.bits .xor .i64 (Go.bits .and .i64 (rd x9_2 0) (rd x9_2 1)) (Go.bits .and .i64 (rd x9_2 0) (rd x9_2 2))) (Go.bits .and .i64 (rd x9_2 1) (rd x9_2 2))))))) 4294967296, rd x9_2 0, rd x9_2 1, rd x9_2 2, Int.tmod (wrap64 ((rd x9_2 3) + (wrap64 ((wrap64 ((wrap64 ((wrap64 ((rd x9_2 7) + (Go.bits .xor .i64 (Go.bits .xor .i64 t156 t157) t158))) + (Go.bits .xor .i64 (Go.bits .and .i64 (rd x9_2 4) (rd x9_2 5)) (Go.bits .and .i64 (wrap64 (4294967295 - (rd x9_2 4))) (rd x9_2 6))))) + (rd t141 x10_2))) + (rd t136 x10_2))))) 4294967296, rd x9_2 4, rd x9_2 5, rd x9_2 6] : List Int)) (inner := [.int .i64 (Int.tmod (wrap64 ((wrap64 ((wrap64 ((wrap64 ((wrap64 ((rd x9_2 7) + (Go.bits .xor .i64 (Go.bits .xor .i64 t156 t157) t158))) + (Go.bits .xor .i64 (Go.bits .and .i64 (rd x9_2 4) (rd x9_2 5)) (Go.bits .and .i64 (wrap64 (4294967295 - (rd x9_2 4))) (rd x9_2 6))))) + (rd t141 x10_2))) + (rd t136 x10_2))) + (wrap64 ((Go.bits .xor .i64 (Go.bits .xor .i64 t161 t162) t163) + (Go.bits .xor .i64 (Go.bits .xor .i64 (Go.bits .and .i64 (rd x9_2 0) (rd x9_2 1)) (Go.bits .and .i64 (rd x9_2 0) (rd x9_2 2))) (Go.bits .and .i64 (rd x9_2 1) (rd x9_2 2))))))) 4294967296), .int .i64 (rd x9_2 0), .int .i64 (rd x9_2 1), .int .i64 (rd x9_2 2), .int .i64 (Int.tmod (wrap64 ((rd x9_2 3) + (wrap64 ((wrap64 ((wrap64 ((wrap64 ((rd x9_2 7) + (Go.bits .xor .i64 (Go.bits .xor .i64 t156 t157) t158))) + (Go.bits .xor .i64 (Go.bits .and .i64 (rd x9_2 4) (rd x9_2 5)) (Go.bits .and .i64 (wrap64 (4294967295 - (rd x9_2 4))) (rd x9_2 6))))) + (rd t141 x10_2))) + (rd t136 x10_2))))) 4294967296), .int .i64 (rd x9_2 4), .int .i64 (rd x9_2 5), .int .i64 (rd x9_2 6)]) (ok := fun _ => True) (okp := fun _ => True) ?hr ?hp (fun _ hk => hk) trivial (Below.refl _ _) (Nat.le_refl _) (by simp) ?_; (case hd => rfl); (case hg => rfl); (case hr => first | (go_simp; done) | (go_simp; rfl)); (case hp => exact (Reps.one (show Kd.M (Kd.int .i64) _ _ _ (Int.tmod (wrap64 ((wrap64 ((wrap64 ((wrap64 ((wrap64 ((rd x9_2 7) + (Go.bits .xor .i64 (Go.bits .xor .i64 t156 t157) t158))) + (Go.bits .xor .i64 (Go.bits .and .i64 (rd x9_2 4) (rd x9_2 5)) (Go.bits .and .i64 (wrap64 (4294967295 - (rd x9_2 4))) (rd x9_2 6))))) + (rd t141 x10_2))) + (rd t136 x10_2))) + (wrap64 ((Go.bits .xor .i64 (Go.bits .xor .i64 t161 t162) t163) + (Go.bits .xor .i64 (Go.bits .xor .i64 (Go.bits .and .i64 (rd x9_2 0) (rd x9_2 1)) (Go.bits .and .i64 (rd x9_2 0) (rd x9_2 2))) (Go.bits .and .i64 (rd x9_2 1) (rd x9_2 2))))))) 4294967296) [.int .i64 (Int.tmod (wrap64 ((wrap64 ((wrap64 ((wrap64 ((wrap64 ((rd x9_2 7) + (Go.bits .xor .i64 (Go.bits .xor .i64 t156 t157) t158))) + (Go.bits .xor .i64 (Go.bits .and .i64 (rd x9_2 4) (rd x9_2 5)) (Go.bits .and .i64 (wrap64 (4294967295 - (rd x9_2 4))) (rd x9_2 6))))) + (rd t141 x10_2))) + (rd t136 x10_2))) + (wrap64 ((Go.bits .xor .i64 (Go.bits .xor .i64 t161 t162) t163) + (Go.bits .xor .i64 (Go.bits .xor .i64 (Go.bits .and .i64 (rd x9_2 0) (rd x9_2 1)) (Go.bits .and .i64 (rd x9_2 0) (rd x9_2 2))) (Go.bits .and .i64 (rd x9_2 1) (rd x9_2 2))))))) 4294967296)] from rfl) (Reps.one (show Kd.M (Kd.int .i64) _ _ _ (rd x9_2 0) [.int .i64 (rd x9_2 0)] from rfl) (Reps.one (show Kd.M (Kd.int .i64) _ _ _ (rd x9_2 1) [.int .i64 (rd x9_2 1)] from rfl) (Reps.one (show Kd.M (Kd.int .i64) _ _ _ (rd x9_2 2) [.int .i64 (rd x9_2 2)] from rfl) (Reps.one (show Kd.M (Kd.int .i64) _ _ _ (Int.tmod (wrap64 ((rd x9_2 3) + (wrap64 ((wrap64 ((wrap64 ((wrap64 ((rd x9_2 7) + (Go.bits .xor .i64 (Go.bits .xor .i64 t156 t157) t158))) + (Go.bits .xor .i64 (Go.bits .and .i64 (rd x9_2 4) (rd x9_2 5)) (Go.bits .and .i64 (wrap64 (4294967295 - (rd x9_2 4))) (rd x9_2 6))))) + (rd t141 x10_2))) + (rd t136 x10_2))))) 4294967296) [.int .i64 (Int.tmod (wrap64 ((rd x9_2 3) + (wrap64 ((wrap64 ((wrap64 ((wrap64 ((rd x9_2 7) + (Go.bits .xor .i64 (Go.bits .xor .i64 t156 t157) t158))) + (Go.bits .xor .i64 (Go.bits .and .i64 (rd x9_2 4) (rd x9_2 5)) (Go.bits .and .i64 (wrap64 (4294967295 - (rd x9_2 4))) (rd x9_2 6))))) + (rd t141 x10_2))) + (rd t136 x10_2))))) 4294967296)] from rfl) (Reps.one (show Kd.M (Kd.int .i64) _ _ _ (rd x9_2 4) [.int .i64 (rd x9_2 4)] from rfl) (Reps.one (show Kd.M (Kd.int .i64) _ _ _ (rd x9_2 5) [.int .i64 (rd x9_2 5)] from rfl) (Reps.one (show Kd.M (Kd.int .i64) _ _ _ (rd x9_2 6) [.int .i64 (rd x9_2 6)] from rfl) (Reps.none _ _))))))))))
                                      intro v172 w38 ho39 hb hg_ hnew_
                                      have HS0_ := (hb.cell (World.block_lt_of_cell? _ _ (hHeld.1))).trans (hHeld.1)
                                      have HS1_ := (hb.cell (World.block_lt_of_cell? _ _ (hHeld.2.1))).trans (hHeld.2.1)
                                      have HS2_ := (hb.cell (World.block_lt_of_cell? _ _ (hHeld.2.2.1))).trans (hHeld.2.2.1)
                                      have HS3_ := (hb.cell (World.block_lt_of_cell? _ _ (hHeld.2.2.2.1))).trans (hHeld.2.2.2.1)
                                      have HS4_ := (hb.cell (World.block_lt_of_cell? _ _ (hHeld.2.2.2.2.1))).trans (hHeld.2.2.2.2.1)
                                      have HS5_ := (hb.cell (World.block_lt_of_cell? _ _ (hHeld.2.2.2.2.2.1))).trans (hHeld.2.2.2.2.2.1)
                                      have HS6_ := (hb.cell (World.block_lt_of_cell? _ _ (hHeld.2.2.2.2.2.2))).trans (hHeld.2.2.2.2.2.2)
                                      clear hg_ hnew_
                                      (first | rw [← Ny171.out] at ho39 | (simp only [Int.reduceToNat] at ho39; rw [← Ny171.out] at ho39))
                                      have n0_ := Aside0.mk (Kd.R_elder' (by (with_reducible repeat (first | apply Kd.R_alloc | apply Kd.R_drewN | apply Kd.R_drew)); exact HO_6.out) (Kd.R_base ho39) hb)
                                      have n1_ := Aside0.mk (Kd.R_elder' (by (with_reducible repeat (first | apply Kd.R_alloc | apply Kd.R_drewN | apply Kd.R_drew)); exact HO_8.out) (Kd.R_base ho39) hb)
                                      have n2_ := Aside0.mk (Kd.R_elder' (by (with_reducible repeat (first | apply Kd.R_alloc | apply Kd.R_drewN | apply Kd.R_drew)); exact HO_9.out) (Kd.R_base ho39) hb)
                                      have n3_ := Aside0.mk (Kd.R_lower (Kd.R_new' (Kd.R_new' (Kd.R_new' ho39 (Kd.R_lt (by (with_reducible repeat (first | apply Kd.R_alloc | apply Kd.R_drewN | apply Kd.R_drew)); exact HO_6.out))) (Kd.R_lt (by (with_reducible repeat (first | apply Kd.R_alloc | apply Kd.R_drewN | apply Kd.R_drew)); exact HO_8.out))) (Kd.R_lt (by (with_reducible repeat (first | apply Kd.R_alloc | apply Kd.R_drewN | apply Kd.R_drew)); exact HO_9.out))) (below_size (by repeat (first | (with_reducible first | exact HB.out | apply below_alloc | apply pw_below_drewN | apply below_drew1) | exact HB.out))))
                                      have n4_ := Aside0.mk (below_step (by repeat (first | (with_reducible first | exact HB.out | apply below_alloc | apply pw_below_drewN | apply below_drew1) | exact HB.out)) hb)
                                      clear HO_6
                                      clear HO_8
                                      clear HO_9
                                      clear HB
                                      have HO_6 := n0_
                                      have HO_8 := n1_
                                      have HO_9 := n2_
                                      have HO173 := n3_
                                      have HB := n4_
                                      clear n0_ n1_ n2_ n3_ n4_
                                      clear hb ho39
                                      refine hK.out _ _ ⟨HS0_, HS1_, HS2_, HS3_, HS4_, HS5_, HS6_⟩ (fun hHeld => ?_)
                                      clear hK K
                                      refine norm_ (a' := ?_) ?_ ?_
                                      rotate_left
                                      · show Act.put _ (some 137) _ = _
                                        simp only [Act.put, List.setIfInBounds_toArray, List.set_cons_zero, List.set_cons_succ, i64_w, i32_w]
                                        rfl
                                      refine pure_ (i := 29) (N := some 9) (v := ?_) (a' := ?_) #[true, true, true, true, true, true, true, true, true, true, true, true, true, true, true, true, true, true, true, true, true, true, true, true, true, true, true, true, true, true] rfl rfl (any_of HT_.out (by kernel_rfl)) (fun _ _ _ h => h) (Or.inl ⟨by rfl, ?_⟩) ?_ ?_
                                      rotate_left
                                      · intro w'
                                        go_simp
                                        with_reducible rfl
                                      rotate_left
                                      · simp only [Act.put, List.setIfInBounds_toArray, List.set_cons_zero, List.set_cons_succ, i64_w, i32_w]
                                        rfl
                                      refine done_ (done_of HT_.out (by kernel_rfl)) ?_
                                      try go_wp2
                                      go_roundg k2
                                      case measure => have := HJ3.out; have := HK2.out; omega
                                      case rel => exact ⟨(y171), (wrap64 (x10_2 + 1)), (by first | rfl | (simp; done) | (simp [*]; done)), H', ⟨by have := HJ3.out; have := HK2.out; omega⟩, ⟨by (with_reducible repeat (first | apply Kd.R_alloc | apply Kd.R_drewN | apply Kd.R_drew)); exact Kd.R_mono HO_6.out (fun _ hk => ⟨hk.1.1, hk.2⟩)⟩, ⟨by (with_reducible repeat (first | apply Kd.R_alloc | apply Kd.R_drewN | apply Kd.R_drew)); exact Kd.R_mono HO_8.out (fun _ hk => ⟨hk.1.1, hk.2⟩)⟩, ⟨by (with_reducible repeat (first | apply Kd.R_alloc | apply Kd.R_drewN | apply Kd.R_drew)); exact Kd.R_mono HO173.out (fun _ hk => ⟨hk.1.1.2, hk.1.2⟩)⟩, ⟨by repeat (first | (with_reducible first | exact HB.out | apply below_alloc | apply pw_below_drewN | apply below_drew1) | exact HB.out)⟩⟩
                                    · rw [if_neg c30] at H
                                      exact absurd H (by simp)
                                  · rw [if_neg c26] at H
                                    exact absurd H (by simp)
                                · rw [if_neg c25] at H
                                  exact absurd H (by simp)
                              · rw [if_neg c24] at H
                                exact absurd H (by simp)
                            · rw [if_neg c20] at H
                              exact absurd H (by simp)
                          · rw [if_neg c19] at H
                            exact absurd H (by simp)
                        · rw [if_neg c18] at H
                          exact absurd H (by simp)
                      · rw [if_neg c17] at H
                        exact absurd H (by simp)
                    · rw [if_neg c16] at H
                      exact absurd H (by simp)
                  · rw [if_neg c15] at H
                    exact absurd H (by simp)
                · rw [if_neg c14] at H
                  exact absurd H (by simp)
              · rw [if_neg c13] at H
                have c13b0 : decide (x10_2 < 64) = false := decide_eq_false c13
                clear c13
                have H' := Aside0.mk H
                clear H
                go_wp2
                go_loopg [17] k2 (fun kq v17 w' => ∃ (x9_3 : List Int) (x17_3 : Int), v17 = .int .i64 x17_3 ∧ Aside0 (redoubtref10_Round.l1 kq l0 x9_3 x17_3 = some (r1, r2)) ∧ Aside0 (kq ≤ k2) ∧ Aside0 (Kd.R (Kd.int .i64) 3 w' w.heap.size (fun _ => True) u9 x9_3) ∧ Aside0 (Below w.heap.size w w'))
                case atStart => exact ⟨(x9_2), (0), (by first | rfl | (simp; done) | (simp [*]; done)), H', ⟨Nat.le_refl _⟩, ⟨by (with_reducible repeat (first | apply Kd.R_alloc | apply Kd.R_drewN | apply Kd.R_drew)); exact Kd.R_mono HO_9.out (fun _ hk => trivial)⟩, ⟨by repeat (first | (with_reducible first | exact HB.out | apply below_alloc | apply pw_below_drewN | apply below_drew1) | exact HB.out)⟩⟩
                case round =>
                  clear H'
                  try clear c1
                  try clear p1
                  try clear q1
                  try clear hx1
                  try clear qi1
                  try clear c2
                  try clear p2
                  try clear c3
                  try clear p6
                  try clear c13
                  try clear c13b0
                  try clear c14
                  try clear c15
                  try clear hx15
                  try clear c16
                  try clear p16
                  try clear q16
                  try clear hx16
                  try clear qi16
                  try clear c17
                  try clear p17
                  try clear q17
                  try clear hx17
                  try clear qi17
                  try clear c18
                  try clear c19
                  try clear c20
                  try clear c24
                  try clear c25
                  try clear c26
                  try clear c30
                  try clear hx155_0
                  try clear hx159_0
                  try clear hx160_0
                  try clear hx164_0
                  try clear hx165_0
                  try clear hx166_0
                  try clear hx167_0
                  try clear hx168_0
                  try clear hx169_0
                  try clear hx170_0
                  try clear p164
                  try clear p165
                  try clear p166
                  try clear p167
                  try clear p168
                  try clear p169
                  try clear p170
                  try clear q160
                  try clear q164
                  try clear q165
                  try clear q166
                  try clear q167
                  try clear q168
                  try clear q169
                  try clear q170
                  obtain ⟨x9_3, x17_3, rfl, HA, HK3, HO_9, HB⟩ := hrel
                  cases gk with
                  | zero => exact absurd HA.out (by simp [redoubtref10_Round.l1])
                  | succ k3 =>
                    have H := HA.out
                    clear HA
                    simp only [redoubtref10_Round.l1] at H
                    by_cases c40 : x17_3 < 8
                    · rw [if_pos c40] at H
                      have c40b0 : decide (x17_3 < 8) = true := decide_eq_true c40
                      clear c40
                      by_cases c41 : 0 ≤ x17_3
                      · rw [if_pos c41] at H
                        have c41b0 : decide (0 ≤ x17_3) = true := decide_eq_true c41
                        clear c41
                        by_cases c42 : x17_3 < (x9_3.length : Int)
                        · rw [if_pos c42] at H
                          have c42b0 : decide (x17_3 < (x9_3.length : Int)) = true := decide_eq_true c42
                          clear c42
                          by_cases c43 : x17_3 < (l0.length : Int)
                          · rw [if_pos c43] at H
                            have c43b0 : decide (x17_3 < (l0.length : Int)) = true := decide_eq_true c43
                            clear c43
                            obtain ⟨y176, hy176⟩ : ∃ y_ : List Int, y_ = (x9_3.set (x17_3 : Int).toNat (Int.tmod (wrap64 ((rd x9_3 x17_3) + (rd l0 x17_3))) 4294967296)) := ⟨_, rfl⟩
                            replace H : (redoubtref10_Round.l1 k3 l0 y176 (wrap64 (x17_3 + 1))) = some (r1, r2) := by first | (rw [hy176]; with_reducible exact H) | (have H2_ := (Option.bind_some _ _).symm.trans H; rw [hy176]; with_reducible exact H2_) | (have H2_ := (Option.bind_some _ _).symm.trans H; with_reducible exact H2_) | with_reducible exact H | (rw [hy176]; exact H) | exact H
                            have Ny176 := Aside0.mk hy176
                            clear hy176
                            have H' := Aside0.mk H
                            clear H
                            try go_wp2
                            have n0_ := Aside0.mk (Kd.R_drew HO_9.out)
                            have n1_ := Aside0.mk (below_drew1 HB.out)
                            clear HO_9
                            clear HB
                            have HO_9 := n0_
                            have HB := n1_
                            clear n0_ n1_
                            obtain ⟨Ao46, co46, eo46⟩ := Kd.R_slice HO_9.out
                            (first | subst eo46 | (injection eo46 with f1_ f2_ f3_; have f4_ := f1_.symm; have f5_ := f3_.symm; clear f1_ f2_ f3_; subst f4_; subst f5_))
                            have p174 : 0 ≤ (x17_3 : Int) := of_decide_eq_true (by first | (with_reducible assumption) | assumption)
                            have q174 : x17_3 < (x9_3.length : Int) := of_decide_eq_true (by first | (with_reducible assumption) | assumption)
                            obtain ⟨ad174, e174, hx174_0⟩ := Kd.at_int (Kd.R_reads' HO_9.out).2.2 x17_3 p174 q174
                            cases e174
                            replace p174 := eq_true p174
                            replace q174 := eq_true q174
                            have p175 : 0 ≤ (x17_3 : Int) := of_decide_eq_true (by first | (with_reducible assumption) | assumption)
                            have q175 : x17_3 < (l0.length : Int) := of_decide_eq_true (by first | (with_reducible assumption) | assumption)
                            obtain ⟨ad175, e175, hx175_0⟩ := Kd.at_int HR0.out x17_3 p175 q175
                            have hw175_0 := hx175_0
                            cases e175
                            replace hx175_0 := (HB.out.cell (World.block_lt_of_cell? w _ hx175_0)).trans hx175_0
                            replace p175 := eq_true p175
                            replace q175 := eq_true q175
                            have p44 : 0 ≤ (x17_3 : Int) := of_decide_eq_true (by first | (with_reducible assumption) | assumption)
                            have q44 : (x17_3 : Int) < ((x9_3.length : Int) : Int) := of_decide_eq_true (by first | (with_reducible assumption) | assumption)
                            obtain ⟨go44, co44, eo44, gb44, gl44, cl44, HG44⟩ := Kd.R_form HO_9.out (by omega)
                            (first | cases eo44 | (injection eo44 with ea_ en_ ec_; (first | subst ea_ | (injection ea_ with ea_; subst ea_)); subst ec_; clear en_))
                            have GB44 := Aside0.mk gb44
                            have GG44 := Aside0.mk HG44
                            clear gb44 gl44 HG44
                            (first | simp only [add_plain] at hx174_0 | skip)
                            obtain ⟨hx44_0, hf44_0⟩ := Kd.R_celln 0 HO_9.out (x17_3 : Int) p44 q44
                            replace p44 := eq_true p44
                            replace q44 := eq_true q44
                            have HP47 := Kd.R_putn HO_9.out (x17_3 : Int) (Int.tmod (wrap64 ((rd x9_3 x17_3) + (rd l0 x17_3))) 4294967296)
                            rw [← Ny176.out] at HP47
                            have HQ47 := Aside0.mk HP47
                            clear HP47
                            refine start_ (n := 14) (S := fun w' => w'.cell? ⟨go44, (x17_3).toNat, none⟩ = some (.int .i64 (rd x9_3 x17_3)) ∧ w'.cell? (ad175.add (x17_3).toNat) = some (.int .i64 (rd l0 x17_3))) (ds := [13]) #[false, false, false, false, false, false, false, false, false, false, false, false, false, false] (by kernel_rfl) rfl rfl ⟨hx174_0, ((HB.out.cell (World.block_lt_of_cell? w _ hw175_0)).trans hw175_0)⟩ (fun hHeld => ?_); refine with_tabW redoubtref10_Round.tab20 redoubtref10_Round.bits20 (fun HT_ HW_ => ?_)
                            generalize wr.drew = w45 at HO_9 HB GG44 HQ47 hf44_0 hx174_0 hx175_0 hx44_0 hHeld ⊢
                            refine pure_ (i := 0) (N := some 142) (v := ?_) (a' := ?_) #[true, false, false, false, false, false, false, false, false, false, false, false, false, false] rfl rfl (any_of HT_.out (by kernel_rfl)) (fun _ _ _ h => h) (Or.inl ⟨by rfl, ?_⟩) ?_ ?_
                            rotate_left
                            · intro w'
                              go_simp
                              with_reducible rfl
                            rotate_left
                            · simp only [Act.put, List.setIfInBounds_toArray, List.set_cons_zero, List.set_cons_succ, i64_w, i32_w]
                              rfl
                            refine pure_ (i := 1) (N := some 143) (v := ?_) (a' := ?_) #[true, true, false, false, false, false, false, false, false, false, false, false, false, false] rfl rfl (any_of HT_.out (by kernel_rfl)) (fun _ _ _ h => h) (Or.inl ⟨by rfl, ?_⟩) ?_ ?_
                            rotate_left
                            · intro w'
                              go_simp
                              with_reducible rfl
                            rotate_left
                            · simp only [Act.put, List.setIfInBounds_toArray, List.set_cons_zero, List.set_cons_succ, i64_w, i32_w]
                              rfl
                            refine pure_ (i := 2) (N := some 144) (v := ?_) (a' := ?_) #[true, true, true, false, false, false, false, false, false, false, false, false, false, false] rfl rfl (any_of HT_.out (by kernel_rfl)) (fun _ _ _ h => h) (Or.inl ⟨by rfl, ?_⟩) ?_ ?_
                            rotate_left
                            · intro w'
                              go_simp
                              with_reducible rfl
                            rotate_left
                            · simp only [Act.put, List.setIfInBounds_toArray, List.set_cons_zero, List.set_cons_succ, i64_w, i32_w]
                              rfl
                            refine pure_ (i := 3) (N := some 145) (v := ?_) (a' := ?_) #[true, true, true, true, false, false, false, false, false, false, false, false, false, false] rfl rfl (any_of HT_.out (by kernel_rfl)) (fun _ _ _ h => h) (Or.inl ⟨by rfl, ?_⟩) ?_ ?_
                            rotate_left
                            · intro w'
                              go_simp
                              with_reducible rfl
                            rotate_left
                            · simp only [Act.put, List.setIfInBounds_toArray, List.set_cons_zero, List.set_cons_succ, i64_w, i32_w]
                              rfl
                            refine pure_ (i := 4) (N := some 146) (v := ?_) (a' := ?_) #[true, true, true, true, true, false, false, false, false, false, false, false, false, false] rfl rfl (any_of HT_.out (by kernel_rfl)) (fun _ _ _ h => h) (Or.inl ⟨by rfl, ?_⟩) ?_ ?_
                            rotate_left
                            · intro w'
                              go_simp
                              with_reducible rfl
                            rotate_left
                            · simp only [Act.put, List.setIfInBounds_toArray, List.set_cons_zero, List.set_cons_succ, i64_w, i32_w]
                              rfl
                            refine pure_ (i := 6) (N := some 148) (v := ?_) (a' := ?_) #[true, true, true, true, true, false, true, false, false, false, false, false, false, false] rfl rfl (any_of HT_.out (by kernel_rfl)) (fun _ _ _ h => h) (Or.inl ⟨by rfl, ?_⟩) ?_ ?_
                            rotate_left
                            · intro w'
                              go_simp
                              with_reducible rfl
                            rotate_left
                            · simp only [Act.put, List.setIfInBounds_toArray, List.set_cons_zero, List.set_cons_succ, i64_w, i32_w]
                              rfl
                            refine pure_ (i := 7) (N := some 149) (v := ?_) (a' := ?_) #[true, true, true, true, true, false, true, true, false, false, false, false, false, false] rfl rfl (any_of HT_.out (by kernel_rfl)) (fun _ _ _ h => h) (Or.inl ⟨by rfl, ?_⟩) ?_ ?_
                            rotate_left
                            · intro w'
                              go_simp
                              with_reducible rfl
                            rotate_left
                            · simp only [Act.put, List.setIfInBounds_toArray, List.set_cons_zero, List.set_cons_succ, i64_w, i32_w]
                              rfl
                            refine pure_ (i := 8) (N := some 150) (v := ?_) (a' := ?_) #[true, true, true, true, true, false, true, true, true, false, false, false, false, false] rfl rfl (any_of HT_.out (by kernel_rfl)) (fun _ _ _ h => h) (Or.inl ⟨by rfl, ?_⟩) ?_ ?_
                            rotate_left
                            · intro w'
                              go_simp
                              with_reducible rfl
                            rotate_left
                            · simp only [Act.put, List.setIfInBounds_toArray, List.set_cons_zero, List.set_cons_succ, i64_w, i32_w]
                              rfl
                            refine take_ (i := 5) (N := some 147) (v := ?_) (a' := ?_) #[true, true, true, true, true, true, true, true, true, false, false, false, false, false] rfl rfl (take_ofW HT_.out HW_.out (by kernel_rfl)) (fun _ _ _ h => h) (Or.inl ⟨by rfl, ?_⟩) hHeld ?_ ?_
                            rotate_left
                            · rintro w' ⟨s0, s1⟩
                              go_simp
                              with_reducible rfl
                            rotate_left
                            · simp only [Act.put, List.setIfInBounds_toArray, List.set_cons_zero, List.set_cons_succ, i64_w, i32_w]
                              rfl
                            refine take_ (i := 9) (N := some 151) (v := ?_) (a' := ?_) #[true, true, true, true, true, true, true, true, true, true, false, false, false, false] rfl rfl (take_ofW HT_.out HW_.out (by kernel_rfl)) (fun _ _ _ h => h) (Or.inl ⟨by rfl, ?_⟩) hHeld ?_ ?_
                            rotate_left
                            · rintro w' ⟨s0, s1⟩
                              go_simp
                              with_reducible rfl
                            rotate_left
                            · simp only [Act.put, List.setIfInBounds_toArray, List.set_cons_zero, List.set_cons_succ, i64_w, i32_w]
                              rfl
                            refine pure_ (i := 10) (N := some 152) (v := ?_) (a' := ?_) #[true, true, true, true, true, true, true, true, true, true, true, false, false, false] rfl rfl (any_of HT_.out (by kernel_rfl)) (fun _ _ _ h => h) (Or.inl ⟨by rfl, ?_⟩) ?_ ?_
                            rotate_left
                            · intro w'
                              go_simp
                              with_reducible rfl
                            rotate_left
                            · simp only [Act.put, List.setIfInBounds_toArray, List.set_cons_zero, List.set_cons_succ, i64_w, i32_w]
                              rfl
                            refine pure_ (i := 11) (N := some 153) (v := ?_) (a' := ?_) #[true, true, true, true, true, true, true, true, true, true, true, true, false, false] rfl rfl (any_of HT_.out (by kernel_rfl)) (fun _ _ _ h => h) (Or.inl ⟨by rfl, ?_⟩) ?_ ?_
                            rotate_left
                            · intro w'
                              go_simp
                              with_reducible rfl
                            rotate_left
                            · simp only [Act.put, List.setIfInBounds_toArray, List.set_cons_zero, List.set_cons_succ, i64_w, i32_w]
                              rfl
                            refine pure_ (i := 12) (N := some 154) (v := ?_) (a' := ?_) #[true, true, true, true, true, true, true, true, true, true, true, true, true, false] rfl rfl (any_of HT_.out (by kernel_rfl)) (fun _ _ _ h => h) (Or.inl ⟨by rfl, ?_⟩) ?_ ?_
                            rotate_left
                            · intro w'
                              go_simp
                              with_reducible rfl
                            rotate_left
                            · simp only [Act.put, List.setIfInBounds_toArray, List.set_cons_zero, List.set_cons_succ, i64_w, i32_w]
                              rfl
                            refine last_ (i := 13) (N := none) #[true, true, true, true, true, true, true, true, true, true, true, true, true, true] rfl rfl (one_of HT_.out (by kernel_rfl)) (by decide) (fun K hK => ?_)
                            refine skip_ (w1 := ?_) (by rfl) rfl ?_ ?_
                            rotate_left
                            · go_simp
                              rfl
                            refine hK.out _ _ ?_
                            clear hK K
                            refine done_ (done_of HT_.out (by kernel_rfl)) ?_
                            try go_wp2
                            go_roundg k3
                            case measure => have := HJ3.out; have := HK2.out; have := HK3.out; omega
                            case rel => exact ⟨(y176), (wrap64 (x17_3 + 1)), (by first | rfl | (simp; done) | (simp [*]; done)), H', ⟨by have := HJ3.out; have := HK2.out; have := HK3.out; omega⟩, ⟨by (with_reducible repeat (first | apply Kd.R_alloc | apply Kd.R_drewN | apply Kd.R_drew)); exact HQ47.out⟩, ⟨by repeat (first | (with_reducible first | exact HB.out | apply below_alloc | apply pw_below_drewN | apply below_drew1 | refine below_set ?_ GB44.out) | exact HB.out)⟩⟩
                          · rw [if_neg c43] at H
                            exact absurd H (by simp)
                        · rw [if_neg c42] at H
                          exact absurd H (by simp)
                      · rw [if_neg c41] at H
                        exact absurd H (by simp)
                    · rw [if_neg c40] at H
                      have c40b0 : decide (x17_3 < 8) = false := decide_eq_false c40
                      clear c40
                      simp only [Option.some.injEq, Prod.mk.injEq] at H
                      obtain ⟨rfl, rfl⟩ := H
                      go_wp2
                      go_ret2
                      exact ⟨_, by first | rfl | (simp [errW_none, errW_some] <;> rfl) | (simp [*, errW_none, errW_some] <;> rfl), by (with_reducible repeat (first | apply Kd.R_alloc | apply Kd.R_drewN | apply Kd.R_drew)); exact HO_9.out, by repeat (first | (with_reducible first | exact HB.out | apply below_alloc | apply pw_below_drewN | apply below_drew1) | exact HB.out)⟩
        · rw [if_neg c10] at H
          exact absurd H (by simp)

end Go.Proofs.YtaooibcihjkhfaaDoor.PDigestRounds

-- PRINTED BY print.sh 35421559b90ae4d0a3588c463048766b98c2df88dd9212a6774a882060cdf62d: not written by this session
import Derived.Test.YtaooibcihjkhfaaDoorPDigestRoundsx0
import Derived.Test.YtaooibcihjkhfaaDoorPDigestRoundsx1
namespace Go.Proofs.YtaooibcihjkhfaaDoor.PDigestRounds
open Go.RowKit Go.Proofs.YtaooibcihjkhfaaDoorW.PrintWords Go.Proofs.YtaooibcihjkhfaaDoorW.PrintLast Go.Proofs.YtaooibcihjkhfaaDoorW.PrintMore
attribute [local go_sem] max2_int min2_int max_two min_two max_three min_three max_four min_four   -- for this text's walks alone
set_option linter.unusedVariables false
set_option linter.unusedSimpArgs false

/-! ### redoubtref10_Words: function 15 -/
def redoubtref10_Words.l0 : Nat → List Int → List Int → Int → Option (List Int × Int)
  | 0, _, _, _ => none
  | k + 1, x0, x4, x5 => if x5 < 64 then (if x5 < 16 then (if 0 ≤ (wrap64 (4 * x5)) then (if (wrap64 (4 * x5)) < (x0.length : Int) then (if 0 ≤ (wrap64 ((wrap64 (4 * x5)) + 1)) then (if (wrap64 ((wrap64 (4 * x5)) + 1)) < (x0.length : Int) then (if 0 ≤ (wrap64 ((wrap64 (4 * x5)) + 2)) then (if (wrap64 ((wrap64 (4 * x5)) + 2)) < (x0.length : Int) then (if 0 ≤ (wrap64 ((wrap64 (4 * x5)) + 3)) then (if (wrap64 ((wrap64 (4 * x5)) + 3)) < (x0.length : Int) then (if x4.length < 17592186044416 then (redoubtref10_Words.l0 k x0 (x4 ++ [wrap64 ((wrap64 ((wrap64 ((wrap64 (16777216 * (wrap64 (rd x0 (wrap64 (4 * x5)))))) + (wrap64 (65536 * (wrap64 (rd x0 (wrap64 ((wrap64 (4 * x5)) + 1)))))))) + (wrap64 (256 * (wrap64 (rd x0 (wrap64 ((wrap64 (4 * x5)) + 2)))))))) + (wrap64 (rd x0 (wrap64 ((wrap64 (4 * x5)) + 3)))))]) (wrap64 (x5 + 1))) else (none)) else (none)) else (none)) else (none)) else (none)) else (none)) else (none)) else (none)) else (none)) else (if 0 ≤ (wrap64 (x5 - 15)) then (if (wrap64 (x5 - 15)) < (x4.length : Int) then (if 0 ≤ (wrap64 (x5 - 2)) then (if (wrap64 (x5 - 2)) < (x4.length : Int) then ((redoubtref10_turn.f k (rd x4 (wrap64 (x5 - 15))) 7).bind fun t122 => ((redoubtref10_turn.f k (rd x4 (wrap64 (x5 - 15))) 18).bind fun t123 => ((redoubtref10_turn.f k (rd x4 (wrap64 (x5 - 2))) 17).bind fun t124 => ((redoubtref10_turn.f k (rd x4 (wrap64 (x5 - 2))) 19).bind fun t125 => (if 0 ≤ (wrap64 (x5 - 16)) then (if (wrap64 (x5 - 16)) < (x4.length : Int) then (if 0 ≤ (wrap64 (x5 - 7)) then (if (wrap64 (x5 - 7)) < (x4.length : Int) then (if x4.length < 17592186044416 then (redoubtref10_Words.l0 k x0 (x4 ++ [Int.tmod (wrap64 ((wrap64 ((wrap64 ((rd x4 (wrap64 (x5 - 16))) + (Go.bits .xor .i64 (Go.bits .xor .i64 t122 t123) (wrap64 (Int.tdiv (rd x4 (wrap64 (x5 - 15))) 8))))) + (rd x4 (wrap64 (x5 - 7))))) + (Go.bits .xor .i64 (Go.bits .xor .i64 t124 t125) (wrap64 (Int.tdiv (rd x4 (wrap64 (x5 - 2))) 1024))))) 4294967296]) (wrap64 (x5 + 1))) else (none)) else (none)) else (none)) else (none)) else (none)))))) else (none)) else (none)) else (none)) else (none))) else (some (x4, 0))
def redoubtref10_Words.f (k : Nat) (l0 : List Int) : Option (List Int × Int) := if (l0.length : Int) = 64 then (redoubtref10_Words.l0 k l0 ([] : List Int) 0) else (some (([] : List Int), 1))
theorem redoubtref10_Words.mono_l : ∀ k, (∀ y0 y1 y2, LeO (redoubtref10_Words.l0 k y0 y1 y2) (redoubtref10_Words.l0 (k + 1) y0 y1 y2))
  | 0 => fun _ _ _ r h => by simp [redoubtref10_Words.l0] at h
  | k + 1 => by
    have ih0 := redoubtref10_Words.mono_l k
    · intro y0 y1 y2
      unfold redoubtref10_Words.l0
      repeat' first
      | (with_reducible exact ih0 _ _ _)
      | (with_reducible exact redoubtref10_turn.mono _ _ _)
      | (with_reducible exact LeO.refl _)
      | (with_reducible exact LeO.none _)
      | (with_reducible refine LeO.ite ?_ ?_)
      | (with_reducible refine LeO.bind ?_ (fun _ => ?_))
      | exact ih0 _ _ _
      | exact redoubtref10_turn.mono _ _ _
      | exact LeO.none _
      | refine LeO.ite ?_ ?_
      | refine LeO.bind ?_ (fun _ => ?_)
theorem redoubtref10_Words.mono : ∀ a0 k, LeO (redoubtref10_Words.f k a0) (redoubtref10_Words.f (k + 1) a0) := by
  intro a0 k
  have ih0 := redoubtref10_Words.mono_l k
  unfold redoubtref10_Words.f
  repeat' first
      | (with_reducible exact ih0 _ _ _)
      | (with_reducible exact redoubtref10_turn.mono _ _ _)
      | (with_reducible exact LeO.refl _)
      | (with_reducible exact LeO.none _)
      | (with_reducible refine LeO.ite ?_ ?_)
      | (with_reducible refine LeO.bind ?_ (fun _ => ?_))
      | exact ih0 _ _ _
      | exact redoubtref10_turn.mono _ _ _
      | exact LeO.none _
      | refine LeO.ite ?_ ?_
      | refine LeO.bind ?_ (fun _ => ?_)
def redoubtref10_Words.T8 : Bool × List (List Nat × List Nat) := (true, [([], []), ([], []), ([], []), ([2], [2]), ([1, 3], [1, 3]), ([4], [4]), ([5], [5]), ([6], [6]), ([], []), ([], []), ([9], [9]), ([10], [10]), ([8, 11], [8, 11]), ([12], [12]), ([13], [13]), ([14], [14]), ([7, 15], [7, 15]), ([], []), ([], []), ([18], [18]), ([19], [19]), ([17, 20], [17, 20]), ([21], [21]), ([22], [22]), ([23], [23]), ([16, 24], [16, 24]), ([], []), ([], []), ([27], [27]), ([28], [28]), ([26, 29], [26, 29]), ([30], [30]), ([31], [31]), ([25, 32], [25, 32]), ([33], [33]), ([0, 34], [0, 34]), ([35, 35, 0, 1, 2, 3, 4, 5, 6, 7, 8, 9, 10, 11, 12, 13, 14, 15, 16, 17, 18, 19, 20, 21, 22, 23, 24, 25, 26, 27, 28, 29, 30, 31, 32, 33, 34, 35], [0, 35])])
def redoubtref10_Words.B8 : List Nat := [0, 0, 0, 4, 14, 30, 62, 126, 0, 0, 512, 1536, 3840, 7936, 16128, 32512, 65534, 0, 0, 262144, 786432, 1966080, 4063232, 8257536, 16646144, 33554430, 0, 0, 134217728, 402653184, 1006632960, 2080374784, 4227858432, 8589934590, 17179869182, 34359738367, 68719476735]
theorem redoubtref10_Words.tab8 : rtab .any (opsOf Tryd.f15 8) = redoubtref10_Words.T8 := by kernel_rfl
theorem redoubtref10_Words.bits8 : waitsOk redoubtref10_Words.T8.2 redoubtref10_Words.B8 = true := by kernel_rfl
def redoubtref10_Words.T13 : Bool × List (List Nat × List Nat) := (true, [([], []), ([], []), ([], []), ([2], [2]), ([1, 3], [1, 3]), ([4], [4]), ([], []), ([5, 6], [5, 6]), ([], []), ([], []), ([9], [9]), ([8, 10], [8, 10]), ([11], [11]), ([7, 12], [7, 12]), ([], []), ([13, 14], [13, 14]), ([15], [15]), ([16], [16]), ([0, 17], [0, 17]), ([18, 18, 0, 1, 2, 3, 4, 5, 6, 7, 8, 9, 10, 11, 12, 13, 14, 15, 16, 17, 18], [0, 1, 8, 18])])
def redoubtref10_Words.B13 : List Nat := [0, 0, 0, 4, 14, 30, 0, 126, 0, 0, 512, 1792, 3840, 8190, 0, 32766, 65534, 131070, 262143, 524287]
theorem redoubtref10_Words.tab13 : rtab .any (opsOf Tryd.f15 13) = redoubtref10_Words.T13 := by kernel_rfl
theorem redoubtref10_Words.bits13 : waitsOk redoubtref10_Words.T13.2 redoubtref10_Words.B13 = true := by kernel_rfl
set_option maxHeartbeats 8000000 in
set_option maxRecDepth 100000 in
theorem redoubtref10_Words.calls (k : Nat) (A0 : Option Addr) (c0 : Nat) (l0 : List Int) (r1 : List Int) (r2 : Int) (w : World) (hr0 : Kd.C (Kd.int .u8) w A0 l0.length l0) (hc0 : l0.length ≤ c0) (h : redoubtref10_Words.f k l0 = some (r1, r2)) :
    Calls Tryd.prog 15 #[.slice A0 l0.length c0] w fun e w' => ∃ v0_ : Value, e = .returned (.tuple #[v0_, .int .i64 r2]) ∧ Kd.R (Kd.int .i64) 3 w' w.heap.size (fun _ => True) v0_ r1 ∧ Below w.heap.size w w' := by
  have HR0 := Aside0.mk hr0
  have HC0 := Aside0.mk hc0
  clear hr0 hc0
  have HB := Aside0.mk (Below.refl w.heap.size w)
  have H : (if (l0.length : Int) = 64 then (redoubtref10_Words.l0 k l0 ([] : List Int) 0) else (some (([] : List Int), 1))) = some (r1, r2) := h
  clear h
  by_cases c2 : (l0.length : Int) = 64
  · rw [if_pos c2] at H
    have c2b0 : ((l0.length : Int) == 64) = true := beq_iff_eq.mpr c2
    have c2b1 : ((l0.length : Int) != 64) = false := bne_eq_false_iff_eq.mpr c2
    clear c2
    have H' := Aside0.mk H
    clear H
    go_enter Tryd.func15, Tryd.ntmps15
    go_wp2
    go_loopg [4, 5] k (fun kq v4 v5 w' => ∃ (x4_1 : List Int) (x5_1 : Int), v5 = .int .i64 x5_1 ∧ Aside0 (redoubtref10_Words.l0 kq l0 x4_1 x5_1 = some (r1, r2)) ∧ Aside0 (kq ≤ k) ∧ Aside0 (Kd.R (Kd.int .i64) 3 w' w.heap.size (fun _ => True) v4 x4_1) ∧ Aside0 (Below w.heap.size w w'))
    case atStart => exact ⟨(([] : List Int)), (0), (by first | rfl | (simp; done) | (simp [*]; done)), H', ⟨Nat.le_refl _⟩, ⟨by first | exact Kd.R_nil _ _ _ _ _ | exact Kd.N_nil _ _ _ _ _ | exact Kd.V_nil _ _ _ _ _ | exact Kd.Q_nil _ _ _ _ _ | exact Kd.S_nil _ _ _ _ _⟩, ⟨by repeat (first | (with_reducible first | exact HB.out | apply below_alloc | apply pw_below_drewN | apply below_drew1) | exact HB.out)⟩⟩
    case round =>
      clear H'
      try clear c1
      try clear c2
      try clear c2b0
      try clear c2b1
      try clear p2
      obtain ⟨x4_1, x5_1, rfl, HA, HK1, HO_4, HB⟩ := hrel
      cases gk with
      | zero => exact absurd HA.out (by simp [redoubtref10_Words.l0])
      | succ k1 =>
        have H := HA.out
        clear HA
        simp only [redoubtref10_Words.l0] at H
        by_cases c3 : x5_1 < 64
        · rw [if_pos c3] at H
          have c3b0 : decide (x5_1 < 64) = true := decide_eq_true c3
          clear c3
          by_cases c4 : x5_1 < 16
          · rw [if_pos c4] at H
            have c4b0 : decide (x5_1 < 16) = true := decide_eq_true c4
            clear c4
            obtain ⟨ji5, hji5⟩ : ∃ j_ : Int, (wrap64 (4 * x5_1)) = j_ := ⟨_, rfl⟩
            replace H : (if 0 ≤ (ji5) then (if (ji5) < (l0.length : Int) then (if 0 ≤ (wrap64 ((ji5) + 1)) then (if (wrap64 ((ji5) + 1)) < (l0.length : Int) then (if 0 ≤ (wrap64 ((ji5) + 2)) then (if (wrap64 ((ji5) + 2)) < (l0.length : Int) then (if 0 ≤ (wrap64 ((ji5) + 3)) then (if (wrap64 ((ji5) + 3)) < (l0.length : Int) then (if x4_1.length < 17592186044416 then (redoubtref10_Words.l0 k1 l0 (x4_1 ++ [wrap64 ((wrap64 ((wrap64 ((wrap64 (16777216 * (wrap64 (rd l0 (ji5))))) + (wrap64 (65536 * (wrap64 (rd l0 (wrap64 ((ji5) + 1)))))))) + (wrap64 (256 * (wrap64 (rd l0 (wrap64 ((ji5) + 2)))))))) + (wrap64 (rd l0 (wrap64 ((ji5) + 3)))))]) (wrap64 (x5_1 + 1))) else (none)) else (none)) else (none)) else (none)) else (none)) else (none)) else (none)) else (none)) else (none)) = some (r1, r2) := by first | (rw [hji5] at H; exact H) | (simp only [hji5] at H ⊢; exact H)
            have hji5w : (IntKind.i64.wrap (4 * x5_1)) = ji5 := (i64_w _).trans hji5
            by_cases c6 : 0 ≤ (ji5)
            · rw [if_pos c6] at H
              have c6b0 : decide (0 ≤ (ji5)) = true := decide_eq_true c6
              clear c6
              by_cases c7 : (ji5) < (l0.length : Int)
              · rw [if_pos c7] at H
                have c7b0 : decide ((ji5) < (l0.length : Int)) = true := decide_eq_true c7
                clear c7
                obtain ⟨ji8, hji8⟩ : ∃ j_ : Int, (wrap64 ((ji5) + 1)) = j_ := ⟨_, rfl⟩
                replace H : (if 0 ≤ (ji8) then (if (ji8) < (l0.length : Int) then (if 0 ≤ (wrap64 ((ji5) + 2)) then (if (wrap64 ((ji5) + 2)) < (l0.length : Int) then (if 0 ≤ (wrap64 ((ji5) + 3)) then (if (wrap64 ((ji5) + 3)) < (l0.length : Int) then (if x4_1.length < 17592186044416 then (redoubtref10_Words.l0 k1 l0 (x4_1 ++ [wrap64 ((wrap64 ((wrap64 ((wrap64 (16777216 * (wrap64 (rd l0 (ji5))))) + (wrap64 (65536 * (wrap64 (rd l0 (ji8))))))) + (wrap64 (256 * (wrap64 (rd l0 (wrap64 ((ji5) + 2)))))))) + (wrap64 (rd l0 (wrap64 ((ji5) + 3)))))]) (wrap64 (x5_1 + 1))) else (none)) else (none)) else (none)) else (none)) else (none)) else (none)) else (none)) = some (r1, r2) := by first | (rw [hji8] at H; exact H) | (simp only [hji8] at H ⊢; exact H)
                have hji8w : (IntKind.i64.wrap ((ji5) + 1)) = ji8 := (i64_w _).trans hji8
                by_cases c9 : 0 ≤ (ji8)
                · rw [if_pos c9] at H
                  have c9b0 : decide (0 ≤ (ji8)) = true := decide_eq_true c9
                  clear c9
                  by_cases c10 : (ji8) < (l0.length : Int)
                  · rw [if_pos c10] at H
                    have c10b0 : decide ((ji8) < (l0.length : Int)) = true := decide_eq_true c10
                    clear c10
                    obtain ⟨ji11, hji11⟩ : ∃ j_ : Int, (wrap64 ((ji5) + 2)) = j_ := ⟨_, rfl⟩
                    replace H : (if 0 ≤ (ji11) then (if (ji11) < (l0.length : Int) then (if 0 ≤ (wrap64 ((ji5) + 3)) then (if (wrap64 ((ji5) + 3)) < (l0.length : Int) then (if x4_1.length < 17592186044416 then (redoubtref10_Words.l0 k1 l0 (x4_1 ++ [wrap64 ((wrap64 ((wrap64 ((wrap64 (16777216 * (wrap64 (rd l0 (ji5))))) + (wrap64 (65536 * (wrap64 (rd l0 (ji8))))))) + (wrap64 (256 * (wrap64 (rd l0 (ji11))))))) + (wrap64 (rd l0 (wrap64 ((ji5) + 3)))))]) (wrap64 (x5_1 + 1))) else (none)) else (none)) else (none)) else (none)) else (none)) = some (r1, r2) := by first | (rw [hji11] at H; exact H) | (simp only [hji11] at H ⊢; exact H)
                    have hji11w : (IntKind.i64.wrap ((ji5) + 2)) = ji11 := (i64_w _).trans hji11
                    by_cases c12 : 0 ≤ (ji11)
                    · rw [if_pos c12] at H
                      have c12b0 : decide (0 ≤ (ji11)) = true := decide_eq_true c12
                      clear c12
                      by_cases c13 : (ji11) < (l0.length : Int)
                      · rw [if_pos c13] at H
                        have c13b0 : decide ((ji11) < (l0.length : Int)) = true := decide_eq_true c13
                        clear c13
                        obtain ⟨ji14, hji14⟩ : ∃ j_ : Int, (wrap64 ((ji5) + 3)) = j_ := ⟨_, rfl⟩
                        replace H : (if 0 ≤ (ji14) then (if (ji14) < (l0.length : Int) then (if x4_1.length < 17592186044416 then (redoubtref10_Words.l0 k1 l0 (x4_1 ++ [wrap64 ((wrap64 ((wrap64 ((wrap64 (16777216 * (wrap64 (rd l0 (ji5))))) + (wrap64 (65536 * (wrap64 (rd l0 (ji8))))))) + (wrap64 (256 * (wrap64 (rd l0 (ji11))))))) + (wrap64 (rd l0 (ji14))))]) (wrap64 (x5_1 + 1))) else (none)) else (none)) else (none)) = some (r1, r2) := by first | (rw [hji14] at H; exact H) | (simp only [hji14] at H ⊢; exact H)
                        have hji14w : (IntKind.i64.wrap ((ji5) + 3)) = ji14 := (i64_w _).trans hji14
                        by_cases c15 : 0 ≤ (ji14)
                        · rw [if_pos c15] at H
                          have c15b0 : decide (0 ≤ (ji14)) = true := decide_eq_true c15
                          clear c15
                          by_cases c16 : (ji14) < (l0.length : Int)
                          · rw [if_pos c16] at H
                            have c16b0 : decide ((ji14) < (l0.length : Int)) = true := decide_eq_true c16
                            clear c16
                            by_cases c17 : x4_1.length < 17592186044416
                            · rw [if_pos c17] at H
                              have LMc17 := Aside0.mk c17
                              clear c17
                              obtain ⟨y117, hy117⟩ : ∃ y_ : List Int, y_ = (x4_1 ++ [wrap64 ((wrap64 ((wrap64 ((wrap64 (16777216 * (wrap64 (rd l0 (ji5))))) + (wrap64 (65536 * (wrap64 (rd l0 (ji8))))))) + (wrap64 (256 * (wrap64 (rd l0 (ji11))))))) + (wrap64 (rd l0 (ji14))))]) := ⟨_, rfl⟩
                              replace H : (redoubtref10_Words.l0 k1 l0 y117 (wrap64 (x5_1 + 1))) = some (r1, r2) := by first | (rw [hy117]; with_reducible exact H) | (have H2_ := (Option.bind_some _ _).symm.trans H; rw [hy117]; with_reducible exact H2_) | (have H2_ := (Option.bind_some _ _).symm.trans H; with_reducible exact H2_) | with_reducible exact H | (rw [hy117]; exact H) | exact H
                              have Ny117 := Aside0.mk hy117
                              clear hy117
                              have H' := Aside0.mk H
                              clear H
                              try go_wp2
                              have n0_ := Aside0.mk (Kd.R_drew HO_4.out)
                              have n1_ := Aside0.mk (below_drew1 HB.out)
                              clear HO_4
                              clear HB
                              have HO_4 := n0_
                              have HB := n1_
                              clear n0_ n1_
                              have p113 : 0 ≤ ((ji5) : Int) := of_decide_eq_true (by first | (with_reducible assumption) | assumption)
                              have q113 : (ji5) < (l0.length : Int) := of_decide_eq_true (by first | (with_reducible assumption) | assumption)
                              obtain ⟨ad113, e113, hx113_0⟩ := Kd.at_int HR0.out (ji5) p113 q113
                              have hw113_0 := hx113_0
                              cases e113
                              replace hx113_0 := (HB.out.cell (World.block_lt_of_cell? w _ hx113_0)).trans hx113_0
                              replace p113 := eq_true p113
                              replace q113 := eq_true q113
                              have p114 : 0 ≤ ((ji8) : Int) := of_decide_eq_true (by first | (with_reducible assumption) | assumption)
                              have q114 : (ji8) < (l0.length : Int) := of_decide_eq_true (by first | (with_reducible assumption) | assumption)
                              obtain ⟨ad114, e114, hx114_0⟩ := Kd.at_int HR0.out (ji8) p114 q114
                              have hw114_0 := hx114_0
                              obtain rfl : ad113 = ad114 := (by injection e114)
                              replace hx114_0 := (HB.out.cell (World.block_lt_of_cell? w _ hx114_0)).trans hx114_0
                              replace p114 := eq_true p114
                              replace q114 := eq_true q114
                              have p115 : 0 ≤ ((ji11) : Int) := of_decide_eq_true (by first | (with_reducible assumption) | assumption)
                              have q115 : (ji11) < (l0.length : Int) := of_decide_eq_true (by first | (with_reducible assumption) | assumption)
                              obtain ⟨ad115, e115, hx115_0⟩ := Kd.at_int HR0.out (ji11) p115 q115
                              have hw115_0 := hx115_0
                              obtain rfl : ad113 = ad115 := (by injection e115)
                              replace hx115_0 := (HB.out.cell (World.block_lt_of_cell? w _ hx115_0)).trans hx115_0
                              replace p115 := eq_true p115
                              replace q115 := eq_true q115
                              have p116 : 0 ≤ ((ji14) : Int) := of_decide_eq_true (by first | (with_reducible assumption) | assumption)
                              have q116 : (ji14) < (l0.length : Int) := of_decide_eq_true (by first | (with_reducible assumption) | assumption)
                              obtain ⟨ad116, e116, hx116_0⟩ := Kd.at_int HR0.out (ji14) p116 q116
                              have hw116_0 := hx116_0
                              obtain rfl : ad113 = ad116 := (by injection e116)
                              replace hx116_0 := (HB.out.cell (World.block_lt_of_cell? w _ hx116_0)).trans hx116_0
                              replace p116 := eq_true p116
                              replace q116 := eq_true q116
                              refine start_ (n := 37) (S := fun w' => w'.cell? (ad113.add ((ji5)).toNat) = some (.int .u8 (rd l0 (ji5))) ∧ w'.cell? (ad113.add ((ji8)).toNat) = some (.int .u8 (rd l0 (ji8))) ∧ w'.cell? (ad113.add ((ji11)).toNat) = some (.int .u8 (rd l0 (ji11))) ∧ w'.cell? (ad113.add ((ji14)).toNat) = some (.int .u8 (rd l0 (ji14)))) (ds := []) #[false, false, false, false, false, false, false, false, false, false, false, false, false, false, false, false, false, false, false, false, false, false, false, false, false, false, false, false, false, false, false, false, false, false, false, false, false] (by kernel_rfl) rfl rfl ⟨((HB.out.cell (World.block_lt_of_cell? w _ hw113_0)).trans hw113_0), ((HB.out.cell (World.block_lt_of_cell? w _ hw114_0)).trans hw114_0), ((HB.out.cell (World.block_lt_of_cell? w _ hw115_0)).trans hw115_0), ((HB.out.cell (World.block_lt_of_cell? w _ hw116_0)).trans hw116_0)⟩ (fun hHeld => ?_); refine with_tabW redoubtref10_Words.tab8 redoubtref10_Words.bits8 (fun HT_ HW_ => ?_)
                              generalize wr.drew = w18 at HO_4 HB hx113_0 hx114_0 hx115_0 hx116_0 hHeld ⊢
                              refine pure_ (i := 0) (N := some 19) (v := ?_) (a' := ?_) #[true, false, false, false, false, false, false, false, false, false, false, false, false, false, false, false, false, false, false, false, false, false, false, false, false, false, false, false, false, false, false, false, false, false, false, false, false] rfl rfl (any_of HT_.out (by kernel_rfl)) (fun _ _ _ h => h) (Or.inl ⟨by rfl, ?_⟩) ?_ ?_
                              rotate_left
                              · intro w'
                                go_simp
                                with_reducible rfl
                              rotate_left
                              · simp only [Act.put, List.setIfInBounds_toArray, List.set_cons_zero, List.set_cons_succ, i64_w, i32_w]
                                rfl
                              refine pure_ (i := 1) (N := some 20) (v := ?_) (a' := ?_) #[true, true, false, false, false, false, false, false, false, false, false, false, false, false, false, false, false, false, false, false, false, false, false, false, false, false, false, false, false, false, false, false, false, false, false, false, false] rfl rfl (any_of HT_.out (by kernel_rfl)) (fun _ _ _ h => h) (Or.inl ⟨by rfl, ?_⟩) ?_ ?_
                              rotate_left
                              · intro w'
                                go_simp
                                with_reducible rfl
                              rotate_left
                              · simp only [Act.put, List.setIfInBounds_toArray, List.set_cons_zero, List.set_cons_succ, i64_w, i32_w]
                                rfl
                              refine pure_ (i := 2) (N := some 21) (v := ?_) (a' := ?_) #[true, true, true, false, false, false, false, false, false, false, false, false, false, false, false, false, false, false, false, false, false, false, false, false, false, false, false, false, false, false, false, false, false, false, false, false, false] rfl rfl (any_of HT_.out (by kernel_rfl)) (fun _ _ _ h => h) (Or.inl ⟨by rfl, ?_⟩) ?_ ?_
                              rotate_left
                              · intro w'
                                go_simp
                                with_reducible rfl
                              rotate_left
                              · simp only [Act.put, List.setIfInBounds_toArray, List.set_cons_zero, List.set_cons_succ, i64_w, i32_w]
                                rfl
                              refine pure_ (i := 3) (N := some 22) (v := ?_) (a' := ?_) #[true, true, true, true, false, false, false, false, false, false, false, false, false, false, false, false, false, false, false, false, false, false, false, false, false, false, false, false, false, false, false, false, false, false, false, false, false] rfl rfl (any_of HT_.out (by kernel_rfl)) (fun _ _ _ h => h) (Or.inl ⟨by rfl, ?_⟩) ?_ ?_
                              rotate_left
                              · intro w'
                                go_simp
                                with_reducible rfl
                              rotate_left
                              · simp only [Act.put, List.setIfInBounds_toArray, List.set_cons_zero, List.set_cons_succ, i64_w, i32_w]
                                rfl
                              refine pure_ (i := 4) (N := some 23) (v := ?_) (a' := ?_) #[true, true, true, true, true, false, false, false, false, false, false, false, false, false, false, false, false, false, false, false, false, false, false, false, false, false, false, false, false, false, false, false, false, false, false, false, false] rfl rfl (any_of HT_.out (by kernel_rfl)) (fun _ _ _ h => h) (Or.inl ⟨by rfl, ?_⟩) ?_ ?_
                              rotate_left
                              · intro w'
                                go_simp
                                with_reducible rfl
                              rotate_left
                              · simp only [Act.put, List.setIfInBounds_toArray, List.set_cons_zero, List.set_cons_succ, i64_w, i32_w]
                                rfl
                              refine pure_ (i := 8) (N := some 27) (v := ?_) (a' := ?_) #[true, true, true, true, true, false, false, false, true, false, false, false, false, false, false, false, false, false, false, false, false, false, false, false, false, false, false, false, false, false, false, false, false, false, false, false, false] rfl rfl (any_of HT_.out (by kernel_rfl)) (fun _ _ _ h => h) (Or.inl ⟨by rfl, ?_⟩) ?_ ?_
                              rotate_left
                              · intro w'
                                go_simp
                                with_reducible rfl
                              rotate_left
                              · simp only [Act.put, List.setIfInBounds_toArray, List.set_cons_zero, List.set_cons_succ, i64_w, i32_w]
                                rfl
                              refine pure_ (i := 9) (N := some 28) (v := ?_) (a' := ?_) #[true, true, true, true, true, false, false, false, true, true, false, false, false, false, false, false, false, false, false, false, false, false, false, false, false, false, false, false, false, false, false, false, false, false, false, false, false] rfl rfl (any_of HT_.out (by kernel_rfl)) (fun _ _ _ h => h) (Or.inl ⟨by rfl, ?_⟩) ?_ ?_
                              rotate_left
                              · intro w'
                                go_simp
                                with_reducible rfl
                              rotate_left
                              · simp only [Act.put, List.setIfInBounds_toArray, List.set_cons_zero, List.set_cons_succ, i64_w, i32_w]
                                rfl
                              refine pure_ (i := 10) (N := some 29) (v := ?_) (a' := ?_) #[true, true, true, true, true, false, false, false, true, true, true, false, false, false, false, false, false, false, false, false, false, false, false, false, false, false, false, false, false, false, false, false, false, false, false, false, false] rfl rfl (any_of HT_.out (by kernel_rfl)) (fun _ _ _ h => h) (Or.inl ⟨by rfl, ?_⟩) ?_ ?_
                              rotate_left
                              · intro w'
                                go_simp
                                with_reducible rfl
                              rotate_left
                              · simp only [Act.put, List.setIfInBounds_toArray, List.set_cons_zero, List.set_cons_succ, i64_w, i32_w]
                                rfl
                              refine pure_ (i := 11) (N := some 30) (v := ?_) (a' := ?_) #[true, true, true, true, true, false, false, false, true, true, true, true, false, false, false, false, false, false, false, false, false, false, false, false, false, false, false, false, false, false, false, false, false, false, false, false, false] rfl rfl (any_of HT_.out (by kernel_rfl)) (fun _ _ _ h => h) (Or.inl ⟨by rfl, ?_⟩) ?_ ?_
                              rotate_left
                              · intro w'
                                go_simp
                                with_reducible rfl
                              rotate_left
                              · simp only [Act.put, List.setIfInBounds_toArray, List.set_cons_zero, List.set_cons_succ, i64_w, i32_w]
                                rfl
                              refine pure_ (i := 12) (N := some 31) (v := ?_) (a' := ?_) #[true, true, true, true, true, false, false, false, true, true, true, true, true, false, false, false, false, false, false, false, false, false, false, false, false, false, false, false, false, false, false, false, false, false, false, false, false] rfl rfl (any_of HT_.out (by kernel_rfl)) (fun _ _ _ h => h) (Or.inl ⟨by rfl, ?_⟩) ?_ ?_
                              rotate_left
                              · intro w'
                                go_simp
                                with_reducible rfl
                              rotate_left
                              · simp only [Act.put, List.setIfInBounds_toArray, List.set_cons_zero, List.set_cons_succ, i64_w, i32_w]
                                rfl
                              refine pure_ (i := 17) (N := some 36) (v := ?_) (a' := ?_) #[true, true, true, true, true, false, false, false, true, true, true, true, true, false, false, false, false, true, false, false, false, false, false, false, false, false, false, false, false, false, false, false, false, false, false, false, false] rfl rfl (any_of HT_.out (by kernel_rfl)) (fun _ _ _ h => h) (Or.inl ⟨by rfl, ?_⟩) ?_ ?_
                              rotate_left
                              · intro w'
                                go_simp
                                with_reducible rfl
                              rotate_left
                              · simp only [Act.put, List.setIfInBounds_toArray, List.set_cons_zero, List.set_cons_succ, i64_w, i32_w]
                                rfl
                              refine pure_ (i := 18) (N := some 37) (v := ?_) (a' := ?_) #[true, true, true, true, true, false, false, false, true, true, true, true, true, false, false, false, false, true, true, false, false, false, false, false, false, false, false, false, false, false, false, false, false, false, false, false, false] rfl rfl (any_of HT_.out (by kernel_rfl)) (fun _ _ _ h => h) (Or.inl ⟨by rfl, ?_⟩) ?_ ?_
                              rotate_left
                              · intro w'
                                go_simp
                                with_reducible rfl
                              rotate_left
                              · simp only [Act.put, List.setIfInBounds_toArray, List.set_cons_zero, List.set_cons_succ, i64_w, i32_w]
                                rfl
                              refine pure_ (i := 19) (N := some 38) (v := ?_) (a' := ?_) #[true, true, true, true, true, false, false, false, true, true, true, true, true, false, false, false, false, true, true, true, false, false, false, false, false, false, false, false, false, false, false, false, false, false, false, false, false] rfl rfl (any_of HT_.out (by kernel_rfl)) (fun _ _ _ h => h) (Or.inl ⟨by rfl, ?_⟩) ?_ ?_
                              rotate_left
                              · intro w'
                                go_simp
                                with_reducible rfl
                              rotate_left
                              · simp only [Act.put, List.setIfInBounds_toArray, List.set_cons_zero, List.set_cons_succ, i64_w, i32_w]
                                rfl
                              refine pure_ (i := 20) (N := some 39) (v := ?_) (a' := ?_) #[true, true, true, true, true, false, false, false, true, true, true, true, true, false, false, false, false, true, true, true, true, false, false, false, false, false, false, false, false, false, false, false, false, false, false, false, false] rfl rfl (any_of HT_.out (by kernel_rfl)) (fun _ _ _ h => h) (Or.inl ⟨by rfl, ?_⟩) ?_ ?_
                              rotate_left
                              · intro w'
                                go_simp
                                with_reducible rfl
                              rotate_left
                              · simp only [Act.put, List.setIfInBounds_toArray, List.set_cons_zero, List.set_cons_succ, i64_w, i32_w]
                                rfl
                              refine pure_ (i := 21) (N := some 40) (v := ?_) (a' := ?_) #[true, true, true, true, true, false, false, false, true, true, true, true, true, false, false, false, false, true, true, true, true, true, false, false, false, false, false, false, false, false, false, false, false, false, false, false, false] rfl rfl (any_of HT_.out (by kernel_rfl)) (fun _ _ _ h => h) (Or.inl ⟨by rfl, ?_⟩) ?_ ?_
                              rotate_left
                              · intro w'
                                go_simp
                                with_reducible rfl
                              rotate_left
                              · simp only [Act.put, List.setIfInBounds_toArray, List.set_cons_zero, List.set_cons_succ, i64_w, i32_w]
                                rfl
                              refine pure_ (i := 26) (N := some 45) (v := ?_) (a' := ?_) #[true, true, true, true, true, false, false, false, true, true, true, true, true, false, false, false, false, true, true, true, true, true, false, false, false, false, true, false, false, false, false, false, false, false, false, false, false] rfl rfl (any_of HT_.out (by kernel_rfl)) (fun _ _ _ h => h) (Or.inl ⟨by rfl, ?_⟩) ?_ ?_
                              rotate_left
                              · intro w'
                                go_simp
                                with_reducible rfl
                              rotate_left
                              · simp only [Act.put, List.setIfInBounds_toArray, List.set_cons_zero, List.set_cons_succ, i64_w, i32_w]
                                rfl
                              refine pure_ (i := 27) (N := some 46) (v := ?_) (a' := ?_) #[true, true, true, true, true, false, false, false, true, true, true, true, true, false, false, false, false, true, true, true, true, true, false, false, false, false, true, true, false, false, false, false, false, false, false, false, false] rfl rfl (any_of HT_.out (by kernel_rfl)) (fun _ _ _ h => h) (Or.inl ⟨by rfl, ?_⟩) ?_ ?_
                              rotate_left
                              · intro w'
                                go_simp
                                with_reducible rfl
                              rotate_left
                              · simp only [Act.put, List.setIfInBounds_toArray, List.set_cons_zero, List.set_cons_succ, i64_w, i32_w]
                                rfl
                              refine pure_ (i := 28) (N := some 47) (v := ?_) (a' := ?_) #[true, true, true, true, true, false, false, false, true, true, true, true, true, false, false, false, false, true, true, true, true, true, false, false, false, false, true, true, true, false, false, false, false, false, false, false, false] rfl rfl (any_of HT_.out (by kernel_rfl)) (fun _ _ _ h => h) (Or.inl ⟨by rfl, ?_⟩) ?_ ?_
                              rotate_left
                              · intro w'
                                go_simp
                                with_reducible rfl
                              rotate_left
                              · simp only [Act.put, List.setIfInBounds_toArray, List.set_cons_zero, List.set_cons_succ, i64_w, i32_w]
                                rfl
                              refine pure_ (i := 29) (N := some 48) (v := ?_) (a' := ?_) #[true, true, true, true, true, false, false, false, true, true, true, true, true, false, false, false, false, true, true, true, true, true, false, false, false, false, true, true, true, true, false, false, false, false, false, false, false] rfl rfl (any_of HT_.out (by kernel_rfl)) (fun _ _ _ h => h) (Or.inl ⟨by rfl, ?_⟩) ?_ ?_
                              rotate_left
                              · intro w'
                                go_simp
                                with_reducible rfl
                              rotate_left
                              · simp only [Act.put, List.setIfInBounds_toArray, List.set_cons_zero, List.set_cons_succ, i64_w, i32_w]
                                rfl
                              refine pure_ (i := 30) (N := some 49) (v := ?_) (a' := ?_) #[true, true, true, true, true, false, false, false, true, true, true, true, true, false, false, false, false, true, true, true, true, true, false, false, false, false, true, true, true, true, true, false, false, false, false, false, false] rfl rfl (any_of HT_.out (by kernel_rfl)) (fun _ _ _ h => h) (Or.inl ⟨by rfl, ?_⟩) ?_ ?_
                              rotate_left
                              · intro w'
                                go_simp
                                with_reducible rfl
                              rotate_left
                              · simp only [Act.put, List.setIfInBounds_toArray, List.set_cons_zero, List.set_cons_succ, i64_w, i32_w]
                                rfl
                              refine take_ (i := 5) (N := some 24) (v := ?_) (a' := ?_) #[true, true, true, true, true, true, false, false, true, true, true, true, true, false, false, false, false, true, true, true, true, true, false, false, false, false, true, true, true, true, true, false, false, false, false, false, false] rfl rfl (take_ofW HT_.out HW_.out (by kernel_rfl)) (fun _ _ _ h => h) (Or.inl ⟨by rfl, ?_⟩) hHeld ?_ ?_
                              rotate_left
                              · rintro w' ⟨s0, s1, s2, s3⟩
                                go_simp
                                with_reducible rfl
                              rotate_left
                              · simp only [Act.put, List.setIfInBounds_toArray, List.set_cons_zero, List.set_cons_succ, i64_w, i32_w]
                                rfl
                              refine pure_ (i := 6) (N := some 25) (v := ?_) (a' := ?_) #[true, true, true, true, true, true, true, false, true, true, true, true, true, false, false, false, false, true, true, true, true, true, false, false, false, false, true, true, true, true, true, false, false, false, false, false, false] rfl rfl (any_of HT_.out (by kernel_rfl)) (fun _ _ _ h => h) (Or.inl ⟨by rfl, ?_⟩) ?_ ?_
                              rotate_left
                              · intro w'
                                go_simp
                                with_reducible rfl
                              rotate_left
                              · simp only [Act.put, List.setIfInBounds_toArray, List.set_cons_zero, List.set_cons_succ, i64_w, i32_w]
                                rfl
                              refine pure_ (i := 7) (N := some 26) (v := ?_) (a' := ?_) #[true, true, true, true, true, true, true, true, true, true, true, true, true, false, false, false, false, true, true, true, true, true, false, false, false, false, true, true, true, true, true, false, false, false, false, false, false] rfl rfl (any_of HT_.out (by kernel_rfl)) (fun _ _ _ h => h) (Or.inl ⟨by rfl, ?_⟩) ?_ ?_
                              rotate_left
                              · intro w'
                                go_simp
                                with_reducible rfl
                              rotate_left
                              · simp only [Act.put, List.setIfInBounds_toArray, List.set_cons_zero, List.set_cons_succ, i64_w, i32_w]
                                rfl
                              refine take_ (i := 13) (N := some 32) (v := ?_) (a' := ?_) #[true, true, true, true, true, true, true, true, true, true, true, true, true, true, false, false, false, true, true, true, true, true, false, false, false, false, true, true, true, true, true, false, false, false, false, false, false] rfl rfl (take_ofW HT_.out HW_.out (by kernel_rfl)) (fun _ _ _ h => h) (Or.inl ⟨by rfl, ?_⟩) hHeld ?_ ?_
                              rotate_left
                              · rintro w' ⟨s0, s1, s2, s3⟩
                                go_simp
                                with_reducible rfl
                              rotate_left
                              · simp only [Act.put, List.setIfInBounds_toArray, List.set_cons_zero, List.set_cons_succ, i64_w, i32_w]
                                rfl
                              refine pure_ (i := 14) (N := some 33) (v := ?_) (a' := ?_) #[true, true, true, true, true, true, true, true, true, true, true, true, true, true, true, false, false, true, true, true, true, true, false, false, false, false, true, true, true, true, true, false, false, false, false, false, false] rfl rfl (any_of HT_.out (by kernel_rfl)) (fun _ _ _ h => h) (Or.inl ⟨by rfl, ?_⟩) ?_ ?_
                              rotate_left
                              · intro w'
                                go_simp
                                with_reducible rfl
                              rotate_left
                              · simp only [Act.put, List.setIfInBounds_toArray, List.set_cons_zero, List.set_cons_succ, i64_w, i32_w]
                                rfl
                              refine pure_ (i := 15) (N := some 34) (v := ?_) (a' := ?_) #[true, true, true, true, true, true, true, true, true, true, true, true, true, true, true, true, false, true, true, true, true, true, false, false, false, false, true, true, true, true, true, false, false, false, false, false, false] rfl rfl (any_of HT_.out (by kernel_rfl)) (fun _ _ _ h => h) (Or.inl ⟨by rfl, ?_⟩) ?_ ?_
                              rotate_left
                              · intro w'
                                go_simp
                                with_reducible rfl
                              rotate_left
                              · simp only [Act.put, List.setIfInBounds_toArray, List.set_cons_zero, List.set_cons_succ, i64_w, i32_w]
                                rfl
                              refine pure_ (i := 16) (N := some 35) (v := ?_) (a' := ?_) #[true, true, true, true, true, true, true, true, true, true, true, true, true, true, true, true, true, true, true, true, true, true, false, false, false, false, true, true, true, true, true, false, false, false, false, false, false] rfl rfl (any_of HT_.out (by kernel_rfl)) (fun _ _ _ h => h) (Or.inl ⟨by rfl, ?_⟩) ?_ ?_
                              rotate_left
                              · intro w'
                                go_simp
                                with_reducible rfl
                              rotate_left
                              · simp only [Act.put, List.setIfInBounds_toArray, List.set_cons_zero, List.set_cons_succ, i64_w, i32_w]
                                rfl
                              refine take_ (i := 22) (N := some 41) (v := ?_) (a' := ?_) #[true, true, true, true, true, true, true, true, true, true, true, true, true, true, true, true, true, true, true, true, true, true, true, false, false, false, true, true, true, true, true, false, false, false, false, false, false] rfl rfl (take_ofW HT_.out HW_.out (by kernel_rfl)) (fun _ _ _ h => h) (Or.inl ⟨by rfl, ?_⟩) hHeld ?_ ?_
                              rotate_left
                              · rintro w' ⟨s0, s1, s2, s3⟩
                                go_simp
                                with_reducible rfl
                              rotate_left
                              · simp only [Act.put, List.setIfInBounds_toArray, List.set_cons_zero, List.set_cons_succ, i64_w, i32_w]
                                rfl
                              refine pure_ (i := 23) (N := some 42) (v := ?_) (a' := ?_) #[true, true, true, true, true, true, true, true, true, true, true, true, true, true, true, true, true, true, true, true, true, true, true, true, false, false, true, true, true, true, true, false, false, false, false, false, false] rfl rfl (any_of HT_.out (by kernel_rfl)) (fun _ _ _ h => h) (Or.inl ⟨by rfl, ?_⟩) ?_ ?_
                              rotate_left
                              · intro w'
                                go_simp
                                with_reducible rfl
                              rotate_left
                              · simp only [Act.put, List.setIfInBounds_toArray, List.set_cons_zero, List.set_cons_succ, i64_w, i32_w]
                                rfl
                              refine pure_ (i := 24) (N := some 43) (v := ?_) (a' := ?_) #[true, true, true, true, true, true, true, true, true, true, true, true, true, true, true, true, true, true, true, true, true, true, true, true, true, false, true, true, true, true, true, false, false, false, false, false, false] rfl rfl (any_of HT_.out (by kernel_rfl)) (fun _ _ _ h => h) (Or.inl ⟨by rfl, ?_⟩) ?_ ?_
                              rotate_left
                              · intro w'
                                go_simp
                                with_reducible rfl
                              rotate_left
                              · simp only [Act.put, List.setIfInBounds_toArray, List.set_cons_zero, List.set_cons_succ, i64_w, i32_w]
                                rfl
                              refine pure_ (i := 25) (N := some 44) (v := ?_) (a' := ?_) #[true, true, true, true, true, true, true, true, true, true, true, true, true, true, true, true, true, true, true, true, true, true, true, true, true, true, true, true, true, true, true, false, false, false, false, false, false] rfl rfl (any_of HT_.out (by kernel_rfl)) (fun _ _ _ h => h) (Or.inl ⟨by rfl, ?_⟩) ?_ ?_
                              rotate_left
                              · intro w'
                                go_simp
                                with_reducible rfl
                              rotate_left
                              · simp only [Act.put, List.setIfInBounds_toArray, List.set_cons_zero, List.set_cons_succ, i64_w, i32_w]
                                rfl
                              refine take_ (i := 31) (N := some 50) (v := ?_) (a' := ?_) #[true, true, true, true, true, true, true, true, true, true, true, true, true, true, true, true, true, true, true, true, true, true, true, true, true, true, true, true, true, true, true, true, false, false, false, false, false] rfl rfl (take_ofW HT_.out HW_.out (by kernel_rfl)) (fun _ _ _ h => h) (Or.inl ⟨by rfl, ?_⟩) hHeld ?_ ?_
                              rotate_left
                              · rintro w' ⟨s0, s1, s2, s3⟩
                                go_simp
                                with_reducible rfl
                              rotate_left
                              · simp only [Act.put, List.setIfInBounds_toArray, List.set_cons_zero, List.set_cons_succ, i64_w, i32_w]
                                rfl
                              refine pure_ (i := 32) (N := some 51) (v := ?_) (a' := ?_) #[true, true, true, true, true, true, true, true, true, true, true, true, true, true, true, true, true, true, true, true, true, true, true, true, true, true, true, true, true, true, true, true, true, false, false, false, false] rfl rfl (any_of HT_.out (by kernel_rfl)) (fun _ _ _ h => h) (Or.inl ⟨by rfl, ?_⟩) ?_ ?_
                              rotate_left
                              · intro w'
                                go_simp
                                with_reducible rfl
                              rotate_left
                              · simp only [Act.put, List.setIfInBounds_toArray, List.set_cons_zero, List.set_cons_succ, i64_w, i32_w]
                                rfl
                              refine pure_ (i := 33) (N := some 52) (v := ?_) (a' := ?_) #[true, true, true, true, true, true, true, true, true, true, true, true, true, true, true, true, true, true, true, true, true, true, true, true, true, true, true, true, true, true, true, true, true, true, false, false, false] rfl rfl (any_of HT_.out (by kernel_rfl)) (fun _ _ _ h => h) (Or.inl ⟨by rfl, ?_⟩) ?_ ?_
                              rotate_left
                              · intro w'
                                go_simp
                                with_reducible rfl
                              rotate_left
                              · simp only [Act.put, List.setIfInBounds_toArray, List.set_cons_zero, List.set_cons_succ, i64_w, i32_w]
                                rfl
                              refine one_ (i := 34) (N := some 53) #[true, true, true, true, true, true, true, true, true, true, true, true, true, true, true, true, true, true, true, true, true, true, true, true, true, true, true, true, true, true, true, true, true, true, true, false, false] rfl rfl (one_of HT_.out (by kernel_rfl)) (by decide) (fun K hK => ?_)
                              refine value_ (w1 := ?_) (v := ?_) (by rfl) rfl ?_ ?_
                              rotate_left 2
                              · go_simp
                                constructor
                                · rfl
                                · rfl
                              refine hK.out _ _ ⟨(World.cell?_alloc_lt _ _ _ (World.block_lt_of_cell? _ _ (((HB.out.cell (World.block_lt_of_cell? w _ hw113_0)).trans hw113_0)))).trans (((HB.out.cell (World.block_lt_of_cell? w _ hw113_0)).trans hw113_0)), (World.cell?_alloc_lt _ _ _ (World.block_lt_of_cell? _ _ (((HB.out.cell (World.block_lt_of_cell? w _ hw114_0)).trans hw114_0)))).trans (((HB.out.cell (World.block_lt_of_cell? w _ hw114_0)).trans hw114_0)), (World.cell?_alloc_lt _ _ _ (World.block_lt_of_cell? _ _ (((HB.out.cell (World.block_lt_of_cell? w _ hw115_0)).trans hw115_0)))).trans (((HB.out.cell (World.block_lt_of_cell? w _ hw115_0)).trans hw115_0)), (World.cell?_alloc_lt _ _ _ (World.block_lt_of_cell? _ _ (((HB.out.cell (World.block_lt_of_cell? w _ hw116_0)).trans hw116_0)))).trans (((HB.out.cell (World.block_lt_of_cell? w _ hw116_0)).trans hw116_0))⟩ (fun hHeld => ?_)
                              clear hK K
                              refine norm_ (a' := ?_) ?_ ?_
                              rotate_left
                              · show Act.put _ (some 53) _ = _
                                simp only [Act.put, List.setIfInBounds_toArray, List.set_cons_zero, List.set_cons_succ, i64_w, i32_w]
                                rfl
                              refine one_ (i := 35) (N := some 54) #[true, true, true, true, true, true, true, true, true, true, true, true, true, true, true, true, true, true, true, true, true, true, true, true, true, true, true, true, true, true, true, true, true, true, true, true, false] rfl rfl (one_of HT_.out (by kernel_rfl)) (by decide) (fun K hK => ?_)
                              refine Kd.R_append_step (Kd.int .i64) (w0 := w) w.heap.size (by rfl) (.tmp 19) (.tmp 53) 31 3 (.int .i64 0) 8 rfl Tryd.underlying31 info3 rfl (by decide) (by omega) u4 x4_1 (wrap64 ((wrap64 ((wrap64 ((wrap64 (16777216 * (wrap64 (rd l0 (ji5))))) + (wrap64 (65536 * (wrap64 (rd l0 (ji8))))))) + (wrap64 (256 * (wrap64 (rd l0 (ji11))))))) + (wrap64 (rd l0 (ji14))))) [.int .i64 (wrap64 ((wrap64 ((wrap64 ((wrap64 (16777216 * (wrap64 (rd l0 (ji5))))) + (wrap64 (65536 * (wrap64 (rd l0 (ji8))))))) + (wrap64 (256 * (wrap64 (rd l0 (ji11))))))) + (wrap64 (rd l0 (ji14)))))] (fun _ => True) (fun _ => False) rfl rfl ?aP (fun _ hk => hk.elim) ?aF ?aO ?aB ?aS ?aL ?_
                              (case aP => exact rfl)
                              (case aB => exact (by repeat (first | (with_reducible first | exact HB.out | apply below_alloc | apply pw_below_drewN | apply below_drew1) | exact HB.out)))
                              (case aF => exact (fun _ _ => trivial))
                              (case aO => exact (by (with_reducible repeat (first | apply Kd.R_alloc | apply Kd.R_drewN | apply Kd.R_drew)); exact HO_4.out))
                              (case aS => exact (below_size (by repeat (first | (with_reducible first | exact HB.out | apply below_alloc | apply pw_below_drewN | apply below_drew1) | exact HB.out))))
                              (case aL => have := LMc17.out; omega)
                              intro v118 w19 ho hb hg hat
                              rw [← Ny117.out] at ho
                              have n0_ := Aside0.mk (hb)
                              have n1_ := Aside0.mk (ho)
                              clear HB
                              clear HO_4
                              have HB := n0_
                              have HO119 := n1_
                              clear n0_ n1_
                              clear ho hb hg hat
                              refine hK.out _ _ ⟨((HB.out.cell (World.block_lt_of_cell? w _ hw113_0)).trans hw113_0), ((HB.out.cell (World.block_lt_of_cell? w _ hw114_0)).trans hw114_0), ((HB.out.cell (World.block_lt_of_cell? w _ hw115_0)).trans hw115_0), ((HB.out.cell (World.block_lt_of_cell? w _ hw116_0)).trans hw116_0)⟩ (fun hHeld => ?_)
                              clear hK K
                              refine norm_ (a' := ?_) ?_ ?_
                              rotate_left
                              · show Act.put _ (some 54) _ = _
                                simp only [Act.put, List.setIfInBounds_toArray, List.set_cons_zero, List.set_cons_succ, i64_w, i32_w]
                                rfl
                              refine pure_ (i := 36) (N := some 4) (v := ?_) (a' := ?_) #[true, true, true, true, true, true, true, true, true, true, true, true, true, true, true, true, true, true, true, true, true, true, true, true, true, true, true, true, true, true, true, true, true, true, true, true, true] rfl rfl (any_of HT_.out (by kernel_rfl)) (fun _ _ _ h => h) (Or.inl ⟨by rfl, ?_⟩) ?_ ?_
                              rotate_left
                              · intro w'
                                go_simp
                                with_reducible rfl
                              rotate_left
                              · simp only [Act.put, List.setIfInBounds_toArray, List.set_cons_zero, List.set_cons_succ, i64_w, i32_w]
                                rfl
                              refine done_ (done_of HT_.out (by kernel_rfl)) ?_
                              try go_wp2
                              go_roundg k1
                              case measure => have := HK1.out; omega
                              case rel => exact ⟨(y117), (wrap64 (x5_1 + 1)), (by first | rfl | (simp; done) | (simp [*]; done)), H', ⟨by have := HK1.out; omega⟩, ⟨by (with_reducible repeat (first | apply Kd.R_alloc | apply Kd.R_drewN | apply Kd.R_drew)); exact HO119.out⟩, ⟨by repeat (first | (with_reducible first | exact HB.out | apply below_alloc | apply pw_below_drewN | apply below_drew1) | exact HB.out)⟩⟩
                            · rw [if_neg c17] at H
                              exact absurd H (by simp)
                          · rw [if_neg c16] at H
                            exact absurd H (by simp)
                        · rw [if_neg c15] at H
                          exact absurd H (by simp)
                      · rw [if_neg c13] at H
                        exact absurd H (by simp)
                    · rw [if_neg c12] at H
                      exact absurd H (by simp)
                  · rw [if_neg c10] at H
                    exact absurd H (by simp)
                · rw [if_neg c9] at H
                  exact absurd H (by simp)
              · rw [if_neg c7] at H
                exact absurd H (by simp)
            · rw [if_neg c6] at H
              exact absurd H (by simp)
          · rw [if_neg c4] at H
            have c4b0 : decide (x5_1 < 16) = false := decide_eq_false c4
            clear c4
            obtain ⟨ji20, hji20⟩ : ∃ j_ : Int, (wrap64 (x5_1 - 15)) = j_ := ⟨_, rfl⟩
            replace H : (if 0 ≤ (ji20) then (if (ji20) < (x4_1.length : Int) then (if 0 ≤ (wrap64 (x5_1 - 2)) then (if (wrap64 (x5_1 - 2)) < (x4_1.length : Int) then ((redoubtref10_turn.f k1 (rd x4_1 (ji20)) 7).bind fun t122 => ((redoubtref10_turn.f k1 (rd x4_1 (ji20)) 18).bind fun t123 => ((redoubtref10_turn.f k1 (rd x4_1 (wrap64 (x5_1 - 2))) 17).bind fun t124 => ((redoubtref10_turn.f k1 (rd x4_1 (wrap64 (x5_1 - 2))) 19).bind fun t125 => (if 0 ≤ (wrap64 (x5_1 - 16)) then (if (wrap64 (x5_1 - 16)) < (x4_1.length : Int) then (if 0 ≤ (wrap64 (x5_1 - 7)) then (if (wrap64 (x5_1 - 7)) < (x4_1.length : Int) then (if x4_1.length < 17592186044416 then (redoubtref10_Words.l0 k1 l0 (x4_1 ++ [Int.tmod (wrap64 ((wrap64 ((wrap64 ((rd x4_1 (wrap64 (x5_1 - 16))) + (Go.bits .xor .i64 (Go.bits .xor .i64 t122 t123) (wrap64 (Int.tdiv (rd x4_1 (ji20)) 8))))) + (rd x4_1 (wrap64 (x5_1 - 7))))) + (Go.bits .xor .i64 (Go.bits .xor .i64 t124 t125) (wrap64 (Int.tdiv (rd x4_1 (wrap64 (x5_1 - 2))) 1024))))) 4294967296]) (wrap64 (x5_1 + 1))) else (none)) else (none)) else (none)) else (none)) else (none)))))) else (none)) else (none)) else (none)) else (none)) = some (r1, r2) := by first | (rw [hji20] at H; exact H) | (simp only [hji20] at H ⊢; exact H)
            have hji20w : (IntKind.i64.wrap (x5_1 - 15)) = ji20 := (i64_w _).trans hji20
            by_cases c21 : 0 ≤ (ji20)
            · rw [if_pos c21] at H
              have c21b0 : decide (0 ≤ (ji20)) = true := decide_eq_true c21
              clear c21
              by_cases c22 : (ji20) < (x4_1.length : Int)
              · rw [if_pos c22] at H
                have c22b0 : decide ((ji20) < (x4_1.length : Int)) = true := decide_eq_true c22
                clear c22
                obtain ⟨ji23, hji23⟩ : ∃ j_ : Int, (wrap64 (x5_1 - 2)) = j_ := ⟨_, rfl⟩
                replace H : (if 0 ≤ (ji23) then (if (ji23) < (x4_1.length : Int) then ((redoubtref10_turn.f k1 (rd x4_1 (ji20)) 7).bind fun t122 => ((redoubtref10_turn.f k1 (rd x4_1 (ji20)) 18).bind fun t123 => ((redoubtref10_turn.f k1 (rd x4_1 (ji23)) 17).bind fun t124 => ((redoubtref10_turn.f k1 (rd x4_1 (ji23)) 19).bind fun t125 => (if 0 ≤ (wrap64 (x5_1 - 16)) then (if (wrap64 (x5_1 - 16)) < (x4_1.length : Int) then (if 0 ≤ (wrap64 (x5_1 - 7)) then (if (wrap64 (x5_1 - 7)) < (x4_1.length : Int) then (if x4_1.length < 17592186044416 then (redoubtref10_Words.l0 k1 l0 (x4_1 ++ [Int.tmod (wrap64 ((wrap64 ((wrap64 ((rd x4_1 (wrap64 (x5_1 - 16))) + (Go.bits .xor .i64 (Go.bits .xor .i64 t122 t123) (wrap64 (Int.tdiv (rd x4_1 (ji20)) 8))))) + (rd x4_1 (wrap64 (x5_1 - 7))))) + (Go.bits .xor .i64 (Go.bits .xor .i64 t124 t125) (wrap64 (Int.tdiv (rd x4_1 (ji23)) 1024))))) 4294967296]) (wrap64 (x5_1 + 1))) else (none)) else (none)) else (none)) else (none)) else (none)))))) else (none)) else (none)) = some (r1, r2) := by first | (rw [hji23] at H; exact H) | (simp only [hji23] at H ⊢; exact H)
                have hji23w : (IntKind.i64.wrap (x5_1 - 2)) = ji23 := (i64_w _).trans hji23
                by_cases c24 : 0 ≤ (ji23)
                · rw [if_pos c24] at H
                  have c24b0 : decide (0 ≤ (ji23)) = true := decide_eq_true c24
                  clear c24
                  by_cases c25 : (ji23) < (x4_1.length : Int)
                  · rw [if_pos c25] at H
                    have c25b0 : decide ((ji23) < (x4_1.length : Int)) = true := decide_eq_true c25
                    clear c25
                    replace H := Option.bind_eq_some_iff.mp H
                    obtain ⟨t122, A260, H⟩ := H
                    replace H : ((redoubtref10_turn.f k1 (rd x4_1 (ji20)) 18).bind fun t123 => ((redoubtref10_turn.f k1 (rd x4_1 (ji23)) 17).bind fun t124 => ((redoubtref10_turn.f k1 (rd x4_1 (ji23)) 19).bind fun t125 => (if 0 ≤ (wrap64 (x5_1 - 16)) then (if (wrap64 (x5_1 - 16)) < (x4_1.length : Int) then (if 0 ≤ (wrap64 (x5_1 - 7)) then (if (wrap64 (x5_1 - 7)) < (x4_1.length : Int) then (if x4_1.length < 17592186044416 then (redoubtref10_Words.l0 k1 l0 (x4_1 ++ [Int.tmod (wrap64 ((wrap64 ((wrap64 ((rd x4_1 (wrap64 (x5_1 - 16))) + (Go.bits .xor .i64 (Go.bits .xor .i64 t122 t123) (wrap64 (Int.tdiv (rd x4_1 (ji20)) 8))))) + (rd x4_1 (wrap64 (x5_1 - 7))))) + (Go.bits .xor .i64 (Go.bits .xor .i64 t124 t125) (wrap64 (Int.tdiv (rd x4_1 (ji23)) 1024))))) 4294967296]) (wrap64 (x5_1 + 1))) else (none)) else (none)) else (none)) else (none)) else (none))))) = some (r1, r2) := H
                    have A26 := Aside0.mk A260
                    clear A260
                    replace H := Option.bind_eq_some_iff.mp H
                    obtain ⟨t123, A270, H⟩ := H
                    replace H : ((redoubtref10_turn.f k1 (rd x4_1 (ji23)) 17).bind fun t124 => ((redoubtref10_turn.f k1 (rd x4_1 (ji23)) 19).bind fun t125 => (if 0 ≤ (wrap64 (x5_1 - 16)) then (if (wrap64 (x5_1 - 16)) < (x4_1.length : Int) then (if 0 ≤ (wrap64 (x5_1 - 7)) then (if (wrap64 (x5_1 - 7)) < (x4_1.length : Int) then (if x4_1.length < 17592186044416 then (redoubtref10_Words.l0 k1 l0 (x4_1 ++ [Int.tmod (wrap64 ((wrap64 ((wrap64 ((rd x4_1 (wrap64 (x5_1 - 16))) + (Go.bits .xor .i64 (Go.bits .xor .i64 t122 t123) (wrap64 (Int.tdiv (rd x4_1 (ji20)) 8))))) + (rd x4_1 (wrap64 (x5_1 - 7))))) + (Go.bits .xor .i64 (Go.bits .xor .i64 t124 t125) (wrap64 (Int.tdiv (rd x4_1 (ji23)) 1024))))) 4294967296]) (wrap64 (x5_1 + 1))) else (none)) else (none)) else (none)) else (none)) else (none)))) = some (r1, r2) := H
                    have A27 := Aside0.mk A270
                    clear A270
                    replace H := Option.bind_eq_some_iff.mp H
                    obtain ⟨t124, A280, H⟩ := H
                    replace H : ((redoubtref10_turn.f k1 (rd x4_1 (ji23)) 19).bind fun t125 => (if 0 ≤ (wrap64 (x5_1 - 16)) then (if (wrap64 (x5_1 - 16)) < (x4_1.length : Int) then (if 0 ≤ (wrap64 (x5_1 - 7)) then (if (wrap64 (x5_1 - 7)) < (x4_1.length : Int) then (if x4_1.length < 17592186044416 then (redoubtref10_Words.l0 k1 l0 (x4_1 ++ [Int.tmod (wrap64 ((wrap64 ((wrap64 ((rd x4_1 (wrap64 (x5_1 - 16))) + (Go.bits .xor .i64 (Go.bits .xor .i64 t122 t123) (wrap64 (Int.tdiv (rd x4_1 (ji20)) 8))))) + (rd x4_1 (wrap64 (x5_1 - 7))))) + (Go.bits .xor .i64 (Go.bits .xor .i64 t124 t125) (wrap64 (Int.tdiv (rd x4_1 (ji23)) 1024))))) 4294967296]) (wrap64 (x5_1 + 1))) else (none)) else (none)) else (none)) else (none)) else (none))) = some (r1, r2) := H
                    have A28 := Aside0.mk A280
                    clear A280
                    replace H := Option.bind_eq_some_iff.mp H
                    obtain ⟨t125, A290, H⟩ := H
                    replace H : (if 0 ≤ (wrap64 (x5_1 - 16)) then (if (wrap64 (x5_1 - 16)) < (x4_1.length : Int) then (if 0 ≤ (wrap64 (x5_1 - 7)) then (if (wrap64 (x5_1 - 7)) < (x4_1.length : Int) then (if x4_1.length < 17592186044416 then (redoubtref10_Words.l0 k1 l0 (x4_1 ++ [Int.tmod (wrap64 ((wrap64 ((wrap64 ((rd x4_1 (wrap64 (x5_1 - 16))) + (Go.bits .xor .i64 (Go.bits .xor .i64 t122 t123) (wrap64 (Int.tdiv (rd x4_1 (ji20)) 8))))) + (rd x4_1 (wrap64 (x5_1 - 7))))) + (Go.bits .xor .i64 (Go.bits .xor .i64 t124 t125) (wrap64 (Int.tdiv (rd x4_1 (ji23)) 1024))))) 4294967296]) (wrap64 (x5_1 + 1))) else (none)) else (none)) else (none)) else (none)) else (none)) = some (r1, r2) := H
                    have A29 := Aside0.mk A290
                    clear A290
                    obtain ⟨ji30, hji30⟩ : ∃ j_ : Int, (wrap64 (x5_1 - 16)) = j_ := ⟨_, rfl⟩
                    replace H : (if 0 ≤ (ji30) then (if (ji30) < (x4_1.length : Int) then (if 0 ≤ (wrap64 (x5_1 - 7)) then (if (wrap64 (x5_1 - 7)) < (x4_1.length : Int) then (if x4_1.length < 17592186044416 then (redoubtref10_Words.l0 k1 l0 (x4_1 ++ [Int.tmod (wrap64 ((wrap64 ((wrap64 ((rd x4_1 (ji30)) + (Go.bits .xor .i64 (Go.bits .xor .i64 t122 t123) (wrap64 (Int.tdiv (rd x4_1 (ji20)) 8))))) + (rd x4_1 (wrap64 (x5_1 - 7))))) + (Go.bits .xor .i64 (Go.bits .xor .i64 t124 t125) (wrap64 (Int.tdiv (rd x4_1 (ji23)) 1024))))) 4294967296]) (wrap64 (x5_1 + 1))) else (none)) else (none)) else (none)) else (none)) else (none)) = some (r1, r2) := by first | (rw [hji30] at H; exact H) | (simp only [hji30] at H ⊢; exact H)
                    (try rw [hji30] at A26)
                    (try rw [hji30] at A27)
                    (try rw [hji30] at A28)
                    (try rw [hji30] at A29)
                    have hji30w : (IntKind.i64.wrap (x5_1 - 16)) = ji30 := (i64_w _).trans hji30
                    by_cases c31 : 0 ≤ (ji30)
                    · rw [if_pos c31] at H
                      have c31b0 : decide (0 ≤ (ji30)) = true := decide_eq_true c31
                      clear c31
                      by_cases c32 : (ji30) < (x4_1.length : Int)
                      · rw [if_pos c32] at H
                        have c32b0 : decide ((ji30) < (x4_1.length : Int)) = true := decide_eq_true c32
                        clear c32
                        obtain ⟨ji33, hji33⟩ : ∃ j_ : Int, (wrap64 (x5_1 - 7)) = j_ := ⟨_, rfl⟩
                        replace H : (if 0 ≤ (ji33) then (if (ji33) < (x4_1.length : Int) then (if x4_1.length < 17592186044416 then (redoubtref10_Words.l0 k1 l0 (x4_1 ++ [Int.tmod (wrap64 ((wrap64 ((wrap64 ((rd x4_1 (ji30)) + (Go.bits .xor .i64 (Go.bits .xor .i64 t122 t123) (wrap64 (Int.tdiv (rd x4_1 (ji20)) 8))))) + (rd x4_1 (ji33)))) + (Go.bits .xor .i64 (Go.bits .xor .i64 t124 t125) (wrap64 (Int.tdiv (rd x4_1 (ji23)) 1024))))) 4294967296]) (wrap64 (x5_1 + 1))) else (none)) else (none)) else (none)) = some (r1, r2) := by first | (rw [hji33] at H; exact H) | (simp only [hji33] at H ⊢; exact H)
                        (try rw [hji33] at A26)
                        (try rw [hji33] at A27)
                        (try rw [hji33] at A28)
                        (try rw [hji33] at A29)
                        have hji33w : (IntKind.i64.wrap (x5_1 - 7)) = ji33 := (i64_w _).trans hji33
                        by_cases c34 : 0 ≤ (ji33)
                        · rw [if_pos c34] at H
                          have c34b0 : decide (0 ≤ (ji33)) = true := decide_eq_true c34
                          clear c34
                          by_cases c35 : (ji33) < (x4_1.length : Int)
                          · rw [if_pos c35] at H
                            have c35b0 : decide ((ji33) < (x4_1.length : Int)) = true := decide_eq_true c35
                            clear c35
                            by_cases c36 : x4_1.length < 17592186044416
                            · rw [if_pos c36] at H
                              have LMc36 := Aside0.mk c36
                              clear c36
                              obtain ⟨y128, hy128⟩ : ∃ y_ : List Int, y_ = (x4_1 ++ [Int.tmod (wrap64 ((wrap64 ((wrap64 ((rd x4_1 (ji30)) + (Go.bits .xor .i64 (Go.bits .xor .i64 t122 t123) (wrap64 (Int.tdiv (rd x4_1 (ji20)) 8))))) + (rd x4_1 (ji33)))) + (Go.bits .xor .i64 (Go.bits .xor .i64 t124 t125) (wrap64 (Int.tdiv (rd x4_1 (ji23)) 1024))))) 4294967296]) := ⟨_, rfl⟩
                              replace H : (redoubtref10_Words.l0 k1 l0 y128 (wrap64 (x5_1 + 1))) = some (r1, r2) := by first | (rw [hy128]; with_reducible exact H) | (have H2_ := (Option.bind_some _ _).symm.trans H; rw [hy128]; with_reducible exact H2_) | (have H2_ := (Option.bind_some _ _).symm.trans H; with_reducible exact H2_) | with_reducible exact H | (rw [hy128]; exact H) | exact H
                              have Ny128 := Aside0.mk hy128
                              clear hy128
                              have H' := Aside0.mk H
                              clear H
                              obtain ⟨Ao37, co37, eo37⟩ := Kd.R_slice HO_4.out
                              subst eo37
                              have p120 : 0 ≤ ((ji20) : Int) := of_decide_eq_true (by first | (with_reducible assumption) | assumption)
                              have q120 : (ji20) < (x4_1.length : Int) := of_decide_eq_true (by first | (with_reducible assumption) | assumption)
                              obtain ⟨ad120, e120, hx120_0⟩ := Kd.at_int (Kd.R_reads' HO_4.out).2.2 (ji20) p120 q120
                              cases e120
                              replace p120 := eq_true p120
                              replace q120 := eq_true q120
                              have p121 : 0 ≤ ((ji23) : Int) := of_decide_eq_true (by first | (with_reducible assumption) | assumption)
                              have q121 : (ji23) < (x4_1.length : Int) := of_decide_eq_true (by first | (with_reducible assumption) | assumption)
                              obtain ⟨ad121, e121, hx121_0⟩ := Kd.at_int (Kd.R_reads' HO_4.out).2.2 (ji23) p121 q121
                              obtain rfl : ad120 = ad121 := (by injection e121)
                              replace p121 := eq_true p121
                              replace q121 := eq_true q121
                              try go_wp2_with (first | ((with_reducible refine gate_callee (f := 26) rfl ?_); refine goesL_ (some 66) rfl rfl Tryd.func26 (by kernel_rfl) rfl #[.int .i64 (rd x4_1 (ji20)), .int .i64 7] rfl (by (try simp only [List.map_toArray, List.map_cons, List.map_nil]); first | done | (simp only [hji20]; rfl) | rfl | (simp only [List.length_drop, List.length_take]; rfl)) ?_; (with_reducible refine (redoubtref10_turn.calls k1 (rd x4_1 (ji20)) 7 t122 _ A26.out).mono ?_); rintro e w' ⟨rfl, ⟨nd, rfl⟩⟩; refine ⟨_, rfl, ?_⟩) | ((with_reducible refine gate_callee (f := 26) rfl ?_); refine goesL_ (some 68) rfl rfl Tryd.func26 (by kernel_rfl) rfl #[.int .i64 (rd x4_1 (ji20)), .int .i64 18] rfl (by (try simp only [List.map_toArray, List.map_cons, List.map_nil]); first | done | (simp only [hji20]; rfl) | rfl | (simp only [List.length_drop, List.length_take]; rfl)) ?_; (with_reducible refine (redoubtref10_turn.calls k1 (rd x4_1 (ji20)) 18 t123 _ A27.out).mono ?_); rintro e w' ⟨rfl, ⟨nd, rfl⟩⟩; refine ⟨_, rfl, ?_⟩) | ((with_reducible refine gate_callee (f := 26) rfl ?_); refine goesL_ (some 74) rfl rfl Tryd.func26 (by kernel_rfl) rfl #[.int .i64 (rd x4_1 (ji23)), .int .i64 17] rfl (by (try simp only [List.map_toArray, List.map_cons, List.map_nil]); first | done | (simp only [hji23]; rfl) | rfl | (simp only [List.length_drop, List.length_take]; rfl)) ?_; (with_reducible refine (redoubtref10_turn.calls k1 (rd x4_1 (ji23)) 17 t124 _ A28.out).mono ?_); rintro e w' ⟨rfl, ⟨nd, rfl⟩⟩; refine ⟨_, rfl, ?_⟩) | ((with_reducible refine gate_callee (f := 26) rfl ?_); refine goesL_ (some 76) rfl rfl Tryd.func26 (by kernel_rfl) rfl #[.int .i64 (rd x4_1 (ji23)), .int .i64 19] rfl (by (try simp only [List.map_toArray, List.map_cons, List.map_nil]); first | done | (simp only [hji23]; rfl) | rfl | (simp only [List.length_drop, List.length_take]; rfl)) ?_; (with_reducible refine (redoubtref10_turn.calls k1 (rd x4_1 (ji23)) 19 t125 _ A29.out).mono ?_); rintro e w' ⟨rfl, ⟨nd, rfl⟩⟩; refine ⟨_, rfl, ?_⟩))
                              (try (rw [drewN_self wr]; generalize hq_ : World.drewN wr _ = wr; have n0_ : Aside0 (Kd.R (Kd.int .i64) 3 wr w.heap.size (fun _ => True) (.slice (some ad120) x4_1.length co37) x4_1) := ⟨by rw [← hq_]; exact (by (with_reducible repeat (first | apply Kd.R_alloc | apply Kd.R_drewN | apply Kd.R_drew)); exact HO_4.out)⟩; have n1_ : Aside0 (Below w.heap.size w wr) := ⟨by rw [← hq_]; exact (by repeat (first | (with_reducible first | exact HB.out | apply below_alloc | apply pw_below_drewN | apply below_drew1) | exact HB.out))⟩; clear HO_4 HB hq_; have HO_4 := n0_; have HB := n1_; clear n0_ n1_))
                              have n0_ := Aside0.mk (Kd.R_drew HO_4.out)
                              have n1_ := Aside0.mk (below_drew1 HB.out)
                              clear HO_4
                              clear HB
                              have HO_4 := n0_
                              have HB := n1_
                              clear n0_ n1_
                              have p126 : 0 ≤ ((ji30) : Int) := of_decide_eq_true (by first | (with_reducible assumption) | assumption)
                              have q126 : (ji30) < (x4_1.length : Int) := of_decide_eq_true (by first | (with_reducible assumption) | assumption)
                              obtain ⟨ad126, e126, hx126_0⟩ := Kd.at_int (Kd.R_reads' HO_4.out).2.2 (ji30) p126 q126
                              obtain rfl : ad120 = ad126 := (by injection e126)
                              replace p126 := eq_true p126
                              replace q126 := eq_true q126
                              have p127 : 0 ≤ ((ji33) : Int) := of_decide_eq_true (by first | (with_reducible assumption) | assumption)
                              have q127 : (ji33) < (x4_1.length : Int) := of_decide_eq_true (by first | (with_reducible assumption) | assumption)
                              obtain ⟨ad127, e127, hx127_0⟩ := Kd.at_int (Kd.R_reads' HO_4.out).2.2 (ji33) p127 q127
                              obtain rfl : ad120 = ad127 := (by injection e127)
                              replace p127 := eq_true p127
                              replace q127 := eq_true q127
                              refine start_ (n := 20) (S := fun w' => w'.cell? (ad120.add ((ji30)).toNat) = some (.int .i64 (rd x4_1 (ji30))) ∧ w'.cell? (ad120.add ((ji33)).toNat) = some (.int .i64 (rd x4_1 (ji33)))) (ds := [17, 18]) #[false, false, false, false, false, false, false, false, false, false, false, false, false, false, false, false, false, false, false, false] (by kernel_rfl) rfl rfl ⟨hx126_0, hx127_0⟩ (fun hHeld => ?_); refine with_tabW redoubtref10_Words.tab13 redoubtref10_Words.bits13 (fun HT_ HW_ => ?_)
                              generalize wr.drew = w38 at HO_4 HB hx126_0 hx127_0 hHeld ⊢
                              refine pure_ (i := 0) (N := some 81) (v := ?_) (a' := ?_) #[true, false, false, false, false, false, false, false, false, false, false, false, false, false, false, false, false, false, false, false] rfl rfl (any_of HT_.out (by kernel_rfl)) (fun _ _ _ h => h) (Or.inl ⟨by rfl, ?_⟩) ?_ ?_
                              rotate_left
                              · intro w'
                                go_simp
                                with_reducible rfl
                              rotate_left
                              · simp only [Act.put, List.setIfInBounds_toArray, List.set_cons_zero, List.set_cons_succ, i64_w, i32_w]
                                rfl
                              refine pure_ (i := 1) (N := some 82) (v := ?_) (a' := ?_) #[true, true, false, false, false, false, false, false, false, false, false, false, false, false, false, false, false, false, false, false] rfl rfl (any_of HT_.out (by kernel_rfl)) (fun _ _ _ h => h) (Or.inl ⟨by rfl, ?_⟩) ?_ ?_
                              rotate_left
                              · intro w'
                                go_simp
                                with_reducible rfl
                              rotate_left
                              · simp only [Act.put, List.setIfInBounds_toArray, List.set_cons_zero, List.set_cons_succ, i64_w, i32_w]
                                rfl
                              refine pure_ (i := 2) (N := some 83) (v := ?_) (a' := ?_) #[true, true, true, false, false, false, false, false, false, false, false, false, false, false, false, false, false, false, false, false] rfl rfl (any_of HT_.out (by kernel_rfl)) (fun _ _ _ h => h) (Or.inl ⟨by rfl, ?_⟩) ?_ ?_
                              rotate_left
                              · intro w'
                                go_simp
                                with_reducible rfl
                              rotate_left
                              · simp only [Act.put, List.setIfInBounds_toArray, List.set_cons_zero, List.set_cons_succ, i64_w, i32_w]
                                rfl
                              refine pure_ (i := 3) (N := some 84) (v := ?_) (a' := ?_) #[true, true, true, true, false, false, false, false, false, false, false, false, false, false, false, false, false, false, false, false] rfl rfl (any_of HT_.out (by kernel_rfl)) (fun _ _ _ h => h) (Or.inl ⟨by rfl, ?_⟩) ?_ ?_
                              rotate_left
                              · intro w'
                                go_simp
                                with_reducible rfl
                              rotate_left
                              · simp only [Act.put, List.setIfInBounds_toArray, List.set_cons_zero, List.set_cons_succ, i64_w, i32_w]
                                rfl
                              refine pure_ (i := 4) (N := some 85) (v := ?_) (a' := ?_) #[true, true, true, true, true, false, false, false, false, false, false, false, false, false, false, false, false, false, false, false] rfl rfl (any_of HT_.out (by kernel_rfl)) (fun _ _ _ h => h) (Or.inl ⟨by rfl, ?_⟩) ?_ ?_
                              rotate_left
                              · intro w'
                                go_simp
                                with_reducible rfl
                              rotate_left
                              · simp only [Act.put, List.setIfInBounds_toArray, List.set_cons_zero, List.set_cons_succ, i64_w, i32_w]
                                rfl
                              refine pure_ (i := 6) (N := some 87) (v := ?_) (a' := ?_) #[true, true, true, true, true, false, true, false, false, false, false, false, false, false, false, false, false, false, false, false] rfl rfl (any_of HT_.out (by kernel_rfl)) (fun _ _ _ h => h) (Or.inl ⟨by rfl, ?_⟩) ?_ ?_
                              rotate_left
                              · intro w'
                                go_simp
                                with_reducible rfl
                              rotate_left
                              · simp only [Act.put, List.setIfInBounds_toArray, List.set_cons_zero, List.set_cons_succ, i64_w, i32_w]
                                rfl
                              refine pure_ (i := 8) (N := some 89) (v := ?_) (a' := ?_) #[true, true, true, true, true, false, true, false, true, false, false, false, false, false, false, false, false, false, false, false] rfl rfl (any_of HT_.out (by kernel_rfl)) (fun _ _ _ h => h) (Or.inl ⟨by rfl, ?_⟩) ?_ ?_
                              rotate_left
                              · intro w'
                                go_simp
                                with_reducible rfl
                              rotate_left
                              · simp only [Act.put, List.setIfInBounds_toArray, List.set_cons_zero, List.set_cons_succ, i64_w, i32_w]
                                rfl
                              refine pure_ (i := 9) (N := some 90) (v := ?_) (a' := ?_) #[true, true, true, true, true, false, true, false, true, true, false, false, false, false, false, false, false, false, false, false] rfl rfl (any_of HT_.out (by kernel_rfl)) (fun _ _ _ h => h) (Or.inl ⟨by rfl, ?_⟩) ?_ ?_
                              rotate_left
                              · intro w'
                                go_simp
                                with_reducible rfl
                              rotate_left
                              · simp only [Act.put, List.setIfInBounds_toArray, List.set_cons_zero, List.set_cons_succ, i64_w, i32_w]
                                rfl
                              refine pure_ (i := 10) (N := some 91) (v := ?_) (a' := ?_) #[true, true, true, true, true, false, true, false, true, true, true, false, false, false, false, false, false, false, false, false] rfl rfl (any_of HT_.out (by kernel_rfl)) (fun _ _ _ h => h) (Or.inl ⟨by rfl, ?_⟩) ?_ ?_
                              rotate_left
                              · intro w'
                                go_simp
                                with_reducible rfl
                              rotate_left
                              · simp only [Act.put, List.setIfInBounds_toArray, List.set_cons_zero, List.set_cons_succ, i64_w, i32_w]
                                rfl
                              refine pure_ (i := 11) (N := some 92) (v := ?_) (a' := ?_) #[true, true, true, true, true, false, true, false, true, true, true, true, false, false, false, false, false, false, false, false] rfl rfl (any_of HT_.out (by kernel_rfl)) (fun _ _ _ h => h) (Or.inl ⟨by rfl, ?_⟩) ?_ ?_
                              rotate_left
                              · intro w'
                                go_simp
                                with_reducible rfl
                              rotate_left
                              · simp only [Act.put, List.setIfInBounds_toArray, List.set_cons_zero, List.set_cons_succ, i64_w, i32_w]
                                rfl
                              refine pure_ (i := 14) (N := some 95) (v := ?_) (a' := ?_) #[true, true, true, true, true, false, true, false, true, true, true, true, false, false, true, false, false, false, false, false] rfl rfl (any_of HT_.out (by kernel_rfl)) (fun _ _ _ h => h) (Or.inl ⟨by rfl, ?_⟩) ?_ ?_
                              rotate_left
                              · intro w'
                                go_simp
                                with_reducible rfl
                              rotate_left
                              · simp only [Act.put, List.setIfInBounds_toArray, List.set_cons_zero, List.set_cons_succ, i64_w, i32_w]
                                rfl
                              refine take_ (i := 5) (N := some 86) (v := ?_) (a' := ?_) #[true, true, true, true, true, true, true, false, true, true, true, true, false, false, true, false, false, false, false, false] rfl rfl (take_ofW HT_.out HW_.out (by kernel_rfl)) (fun _ _ _ h => h) (Or.inl ⟨by rfl, ?_⟩) hHeld ?_ ?_
                              rotate_left
                              · rintro w' ⟨s0, s1⟩
                                go_simp
                                with_reducible rfl
                              rotate_left
                              · simp only [Act.put, List.setIfInBounds_toArray, List.set_cons_zero, List.set_cons_succ, i64_w, i32_w]
                                rfl
                              refine pure_ (i := 7) (N := some 88) (v := ?_) (a' := ?_) #[true, true, true, true, true, true, true, true, true, true, true, true, false, false, true, false, false, false, false, false] rfl rfl (any_of HT_.out (by kernel_rfl)) (fun _ _ _ h => h) (Or.inl ⟨by rfl, ?_⟩) ?_ ?_
                              rotate_left
                              · intro w'
                                go_simp
                                with_reducible rfl
                              rotate_left
                              · simp only [Act.put, List.setIfInBounds_toArray, List.set_cons_zero, List.set_cons_succ, i64_w, i32_w]
                                rfl
                              refine take_ (i := 12) (N := some 93) (v := ?_) (a' := ?_) #[true, true, true, true, true, true, true, true, true, true, true, true, true, false, true, false, false, false, false, false] rfl rfl (take_ofW HT_.out HW_.out (by kernel_rfl)) (fun _ _ _ h => h) (Or.inl ⟨by rfl, ?_⟩) hHeld ?_ ?_
                              rotate_left
                              · rintro w' ⟨s0, s1⟩
                                go_simp
                                with_reducible rfl
                              rotate_left
                              · simp only [Act.put, List.setIfInBounds_toArray, List.set_cons_zero, List.set_cons_succ, i64_w, i32_w]
                                rfl
                              refine pure_ (i := 13) (N := some 94) (v := ?_) (a' := ?_) #[true, true, true, true, true, true, true, true, true, true, true, true, true, true, true, false, false, false, false, false] rfl rfl (any_of HT_.out (by kernel_rfl)) (fun _ _ _ h => h) (Or.inl ⟨by rfl, ?_⟩) ?_ ?_
                              rotate_left
                              · intro w'
                                go_simp
                                with_reducible rfl
                              rotate_left
                              · simp only [Act.put, List.setIfInBounds_toArray, List.set_cons_zero, List.set_cons_succ, i64_w, i32_w]
                                rfl
                              refine pure_ (i := 15) (N := some 96) (v := ?_) (a' := ?_) #[true, true, true, true, true, true, true, true, true, true, true, true, true, true, true, true, false, false, false, false] rfl rfl (any_of HT_.out (by kernel_rfl)) (fun _ _ _ h => h) (Or.inl ⟨by rfl, ?_⟩) ?_ ?_
                              rotate_left
                              · intro w'
                                go_simp
                                with_reducible rfl
                              rotate_left
                              · simp only [Act.put, List.setIfInBounds_toArray, List.set_cons_zero, List.set_cons_succ, i64_w, i32_w]
                                rfl
                              refine pure_ (i := 16) (N := some 97) (v := ?_) (a' := ?_) #[true, true, true, true, true, true, true, true, true, true, true, true, true, true, true, true, true, false, false, false] rfl rfl (any_of HT_.out (by kernel_rfl)) (fun _ _ _ h => h) (Or.inl ⟨by rfl, ?_⟩) ?_ ?_
                              rotate_left
                              · intro w'
                                go_simp
                                with_reducible rfl
                              rotate_left
                              · simp only [Act.put, List.setIfInBounds_toArray, List.set_cons_zero, List.set_cons_succ, i64_w, i32_w]
                                rfl
                              refine last_ (i := 17) (N := some 98) #[true, true, true, true, true, true, true, true, true, true, true, true, true, true, true, true, true, true, false, false] rfl rfl (one_of HT_.out (by kernel_rfl)) (by decide) (fun K hK => ?_)
                              refine value_ (w1 := ?_) (v := ?_) (by rfl) rfl ?_ ?_
                              rotate_left 2
                              · go_simp
                                constructor
                                · rfl
                                · rfl
                              refine hK.out _ _ ?_
                              clear hK K
                              refine norm_ (a' := ?_) ?_ ?_
                              rotate_left
                              · show Act.put _ (some 98) _ = _
                                simp only [Act.put, List.setIfInBounds_toArray, List.set_cons_zero, List.set_cons_succ, i64_w, i32_w]
                                rfl
                              refine last_ (i := 18) (N := some 99) #[true, true, true, true, true, true, true, true, true, true, true, true, true, true, true, true, true, true, true, false] rfl rfl (one_of HT_.out (by kernel_rfl)) (by decide) (fun K hK => ?_)
                              refine Kd.R_append_step (Kd.int .i64) (w0 := w) w.heap.size (by rfl) (.tmp 81) (.tmp 98) 31 3 (.int .i64 0) 8 rfl Tryd.underlying31 info3 rfl (by decide) (by omega) (.slice (some ad120) x4_1.length co37) x4_1 (Int.tmod (wrap64 ((wrap64 ((wrap64 ((rd x4_1 (ji30)) + (Go.bits .xor .i64 (Go.bits .xor .i64 t122 t123) (wrap64 (Int.tdiv (rd x4_1 (ji20)) 8))))) + (rd x4_1 (ji33)))) + (Go.bits .xor .i64 (Go.bits .xor .i64 t124 t125) (wrap64 (Int.tdiv (rd x4_1 (ji23)) 1024))))) 4294967296) [.int .i64 (Int.tmod (wrap64 ((wrap64 ((wrap64 ((rd x4_1 (ji30)) + (Go.bits .xor .i64 (Go.bits .xor .i64 t122 t123) (wrap64 (Int.tdiv (rd x4_1 (ji20)) 8))))) + (rd x4_1 (ji33)))) + (Go.bits .xor .i64 (Go.bits .xor .i64 t124 t125) (wrap64 (Int.tdiv (rd x4_1 (ji23)) 1024))))) 4294967296)] (fun _ => True) (fun _ => False) rfl rfl ?aP (fun _ hk => hk.elim) ?aF ?aO ?aB ?aS ?aL ?_
                              (case aP => exact rfl)
                              (case aB => exact (by repeat (first | (with_reducible first | exact HB.out | apply below_alloc | apply pw_below_drewN | apply below_drew1) | exact HB.out)))
                              (case aF => exact (fun _ _ => trivial))
                              (case aO => exact (by (with_reducible repeat (first | apply Kd.R_alloc | apply Kd.R_drewN | apply Kd.R_drew)); exact HO_4.out))
                              (case aS => exact (below_size (by repeat (first | (with_reducible first | exact HB.out | apply below_alloc | apply pw_below_drewN | apply below_drew1) | exact HB.out))))
                              (case aL => have := LMc36.out; omega)
                              intro v129 w39 ho hb hg hat
                              rw [← Ny128.out] at ho
                              have n0_ := Aside0.mk (hb)
                              have n1_ := Aside0.mk (ho)
                              clear HB
                              clear HO_4
                              have HB := n0_
                              have HO130 := n1_
                              clear n0_ n1_
                              clear ho hb hg hat
                              refine hK.out _ _ ?_
                              clear hK K
                              refine norm_ (a' := ?_) ?_ ?_
                              rotate_left
                              · show Act.put _ (some 99) _ = _
                                simp only [Act.put, List.setIfInBounds_toArray, List.set_cons_zero, List.set_cons_succ, i64_w, i32_w]
                                rfl
                              refine pure_ (i := 19) (N := some 4) (v := ?_) (a' := ?_) #[true, true, true, true, true, true, true, true, true, true, true, true, true, true, true, true, true, true, true, true] rfl rfl (any_of HT_.out (by kernel_rfl)) (fun _ _ _ h => h) (Or.inl ⟨by rfl, ?_⟩) ?_ ?_
                              rotate_left
                              · intro w'
                                go_simp
                                with_reducible rfl
                              rotate_left
                              · simp only [Act.put, List.setIfInBounds_toArray, List.set_cons_zero, List.set_cons_succ, i64_w, i32_w]
                                rfl
                              refine done_ (done_of HT_.out (by kernel_rfl)) ?_
                              try go_wp2
                              go_roundg k1
                              case measure => have := HK1.out; omega
                              case rel => exact ⟨(y128), (wrap64 (x5_1 + 1)), (by first | rfl | (simp; done) | (simp [*]; done)), H', ⟨by have := HK1.out; omega⟩, ⟨by (with_reducible repeat (first | apply Kd.R_alloc | apply Kd.R_drewN | apply Kd.R_drew)); exact HO130.out⟩, ⟨by repeat (first | (with_reducible first | exact HB.out | apply below_alloc | apply pw_below_drewN | apply below_drew1) | exact HB.out)⟩⟩
                            · rw [if_neg c36] at H
                              exact absurd H (by simp)
                          · rw [if_neg c35] at H
                            exact absurd H (by simp)
                        · rw [if_neg c34] at H
                          exact absurd H (by simp)
                      · rw [if_neg c32] at H
                        exact absurd H (by simp)
                    · rw [if_neg c31] at H
                      exact absurd H (by simp)
                  · rw [if_neg c25] at H
                    exact absurd H (by simp)
                · rw [if_neg c24] at H
                  exact absurd H (by simp)
              · rw [if_neg c22] at H
                exact absurd H (by simp)
            · rw [if_neg c21] at H
              exact absurd H (by simp)
        · rw [if_neg c3] at H
          have c3b0 : decide (x5_1 < 64) = false := decide_eq_false c3
          clear c3
          simp only [Option.some.injEq, Prod.mk.injEq] at H
          obtain ⟨rfl, rfl⟩ := H
          go_wp2
          go_ret2
          exact ⟨_, by first | rfl | (simp [errW_none, errW_some] <;> rfl) | (simp [*, errW_none, errW_some] <;> rfl), by (with_reducible repeat (first | apply Kd.R_alloc | apply Kd.R_drewN | apply Kd.R_drew)); exact HO_4.out, by repeat (first | (with_reducible first | exact HB.out | apply below_alloc | apply pw_below_drewN | apply below_drew1) | exact HB.out)⟩
  · rw [if_neg c2] at H
    have c2b0 : ((l0.length : Int) == 64) = false := beq_eq_false_iff_ne.mpr c2
    have c2b1 : ((l0.length : Int) != 64) = true := bne_iff_ne.mpr c2
    simp only [Option.some.injEq, Prod.mk.injEq] at H
    obtain ⟨rfl, rfl⟩ := H
    go_enter Tryd.func15, Tryd.ntmps15
    go_wp2
    go_ret2
    exact ⟨_, by first | rfl | (simp [errW_none, errW_some] <;> rfl) | (simp [*, errW_none, errW_some] <;> rfl), by first | exact Kd.R_nil _ _ _ _ _ | exact Kd.N_nil _ _ _ _ _ | exact Kd.V_nil _ _ _ _ _ | exact Kd.Q_nil _ _ _ _ _ | exact Kd.S_nil _ _ _ _ _, by repeat (first | (with_reducible first | exact HB.out | apply below_alloc | apply pw_below_drewN | apply below_drew1) | exact HB.out)⟩

/-! ### redoubtref10_Constants: function 22 -/
def redoubtref10_Constants.f  : Option (List Int) := some (([1116352408, 1899447441, 3049323471, 3921009573, 961987163, 1508970993, 2453635748, 2870763221, 3624381080, 310598401, 607225278, 1426881987, 1925078388, 2162078206, 2614888103, 3248222580, 3835390401, 4022224774, 264347078, 604807628, 770255983, 1249150122, 1555081692, 1996064986, 2554220882, 2821834349, 2952996808, 3210313671, 3336571891, 3584528711, 113926993, 338241895, 666307205, 773529912, 1294757372, 1396182291, 1695183700, 1986661051, 2177026350, 2456956037, 2730485921, 2820302411, 3259730800, 3345764771, 3516065817, 3600352804, 4094571909, 275423344, 430227734, 506948616, 659060556, 883997877, 958139571, 1322822218, 1537002063, 1747873779, 1955562222, 2024104815, 2227730452, 2361852424, 2428436474, 2756734187, 3204031479, 3329325298, 1779033703, 3144134277, 1013904242, 2773480762, 1359893119, 2600822924, 528734635, 1541459225] : List Int))
set_option maxHeartbeats 8000000 in
set_option maxRecDepth 100000 in
theorem redoubtref10_Constants.calls  (r : List Int) (w : World) (h : redoubtref10_Constants.f  = some r) :
    Calls Tryd.prog 22 #[] w fun e w' => ∃ v0_ : Value, e = .returned (v0_) ∧ Kd.R (Kd.int .i64) 3 w' w.heap.size (fun _ => True) v0_ r ∧ Below w.heap.size w w' := by
  have HB := Aside0.mk (Below.refl w.heap.size w)
  have H : (some (([1116352408, 1899447441, 3049323471, 3921009573, 961987163, 1508970993, 2453635748, 2870763221, 3624381080, 310598401, 607225278, 1426881987, 1925078388, 2162078206, 2614888103, 3248222580, 3835390401, 4022224774, 264347078, 604807628, 770255983, 1249150122, 1555081692, 1996064986, 2554220882, 2821834349, 2952996808, 3210313671, 3336571891, 3584528711, 113926993, 338241895, 666307205, 773529912, 1294757372, 1396182291, 1695183700, 1986661051, 2177026350, 2456956037, 2730485921, 2820302411, 3259730800, 3345764771, 3516065817, 3600352804, 4094571909, 275423344, 430227734, 506948616, 659060556, 883997877, 958139571, 1322822218, 1537002063, 1747873779, 1955562222, 2024104815, 2227730452, 2361852424, 2428436474, 2756734187, 3204031479, 3329325298, 1779033703, 3144134277, 1013904242, 2773480762, 1359893119, 2600822924, 528734635, 1541459225] : List Int))) = some r := h
  clear h
  obtain ⟨y131, hy131⟩ : ∃ y_ : List Int, y_ = (([1116352408, 1899447441, 3049323471, 3921009573, 961987163, 1508970993, 2453635748, 2870763221, 3624381080, 310598401, 607225278, 1426881987, 1925078388, 2162078206, 2614888103, 3248222580, 3835390401, 4022224774, 264347078, 604807628, 770255983, 1249150122, 1555081692, 1996064986, 2554220882, 2821834349, 2952996808, 3210313671, 3336571891, 3584528711, 113926993, 338241895, 666307205, 773529912, 1294757372, 1396182291, 1695183700, 1986661051, 2177026350, 2456956037, 2730485921, 2820302411, 3259730800, 3345764771, 3516065817, 3600352804, 4094571909, 275423344, 430227734, 506948616, 659060556, 883997877, 958139571, 1322822218, 1537002063, 1747873779, 1955562222, 2024104815, 2227730452, 2361852424, 2428436474, 2756734187, 3204031479, 3329325298, 1779033703, 3144134277, 1013904242, 2773480762, 1359893119, 2600822924, 528734635, 1541459225] : List Int)) := ⟨_, rfl⟩
  replace H : (some y131) = some r := by first | (rw [hy131]; with_reducible exact H) | (have H2_ := (Option.bind_some _ _).symm.trans H; rw [hy131]; with_reducible exact H2_) | (have H2_ := (Option.bind_some _ _).symm.trans H; with_reducible exact H2_) | with_reducible exact H | (rw [hy131]; exact H) | exact H
  have Ny131 := Aside0.mk hy131
  clear hy131
  obtain rfl := Option.some.inj H
  go_enter Tryd.func22, Tryd.ntmps22
  go_wp2_with (first | ((with_reducible refine gate_dst (N := 1) rfl ?_); refine Kd.R_lit (Kd.int .i64) _ 3 ?hg (N := 1) ?hd (xs := ([1116352408, 1899447441, 3049323471, 3921009573, 961987163, 1508970993, 2453635748, 2870763221, 3624381080, 310598401, 607225278, 1426881987, 1925078388, 2162078206, 2614888103, 3248222580, 3835390401, 4022224774, 264347078, 604807628, 770255983, 1249150122, 1555081692, 1996064986, 2554220882, 2821834349, 2952996808, 3210313671, 3336571891, 3584528711, 113926993, 338241895, 666307205, 773529912, 1294757372, 1396182291, 1695183700, 1986661051, 2177026350, 2456956037, 2730485921, 2820302411, 3259730800, 3345764771, 3516065817, 3600352804, 4094571909, 275423344, 430227734, 506948616, 659060556, 883997877, 958139571, 1322822218, 1537002063, 1747873779, 1955562222, 2024104815, 2227730452, 2361852424, 2428436474, 2756734187, 3204031479, 3329325298, 1779033703, 3144134277, 1013904242, 2773480762, 1359893119, 2600822924, 528734635, 1541459225] : List Int)) (inner := [.int .i64 1116352408, .int .i64 1899447441, .int .i64 3049323471, .int .i64 3921009573, .int .i64 961987163, .int .i64 1508970993, .int .i64 2453635748, .int .i64 2870763221, .int .i64 3624381080, .int .i64 310598401, .int .i64 607225278, .int .i64 1426881987, .int .i64 1925078388, .int .i64 2162078206, .int .i64 2614888103, .int .i64 3248222580, .int .i64 3835390401, .int .i64 4022224774, .int .i64 264347078, .int .i64 604807628, .int .i64 770255983, .int .i64 1249150122, .int .i64 1555081692, .int .i64 1996064986, .int .i64 2554220882, .int .i64 2821834349, .int .i64 2952996808, .int .i64 3210313671, .int .i64 3336571891, .int .i64 3584528711, .int .i64 113926993, .int .i64 338241895, .int .i64 666307205, .int .i64 773529912, .int .i64 1294757372, .int .i64 1396182291, .int .i64 1695183700, .int .i64 1986661051, .int .i64 2177026350, .int .i64 2456956037, .int .i64 2730485921, .int .i64 2820302411, .int .i64 3259730800, .int .i64 3345764771, .int .i64 3516065817, .int .i64 3600352804, .int .i64 4094571909, .int .i64 275423344, .int .i64 430227734, .int .i64 506948616, .int .i64 659060556, .int .i64 883997877, .int .i64 958139571, .int .i64 1322822218, .int .i64 1537002063, .int .i64 1747873779, .int .i64 1955562222, .int .i64 2024104815, .int .i64 2227730452, .int .i64 2361852424, .int .i64 2428436474, .int .i64 2756734187, .int .i64 3204031479, .int .i64 3329325298, .int .i64 1779033703, .int .i64 3144134277, .int .i64 1013904242, .int .i64 2773480762, .int .i64 1359893119, .int .i64 2600822924, .int .i64 528734635, .int .i64 1541459225]) (ok := fun _ => True) (okp := fun _ => True) ?hr ?hp (fun _ hk => hk) trivial (Below.refl _ _) (Nat.le_refl _) (by simp) ?_; (case hd => rfl); (case hg => rfl); (case hr => first | (go_simp; done) | (go_simp; rfl)); (case hp => exact (Reps.one (show Kd.M (Kd.int .i64) _ _ _ 1116352408 [.int .i64 1116352408] from rfl) (Reps.one (show Kd.M (Kd.int .i64) _ _ _ 1899447441 [.int .i64 1899447441] from rfl) (Reps.one (show Kd.M (Kd.int .i64) _ _ _ 3049323471 [.int .i64 3049323471] from rfl) (Reps.one (show Kd.M (Kd.int .i64) _ _ _ 3921009573 [.int .i64 3921009573] from rfl) (Reps.one (show Kd.M (Kd.int .i64) _ _ _ 961987163 [.int .i64 961987163] from rfl) (Reps.one (show Kd.M (Kd.int .i64) _ _ _ 1508970993 [.int .i64 1508970993] from rfl) (Reps.one (show Kd.M (Kd.int .i64) _ _ _ 2453635748 [.int .i64 2453635748] from rfl) (Reps.one (show Kd.M (Kd.int .i64) _ _ _ 2870763221 [.int .i64 2870763221] from rfl) (Reps.one (show Kd.M (Kd.int .i64) _ _ _ 3624381080 [.int .i64 3624381080] from rfl) (Reps.one (show Kd.M (Kd.int .i64) _ _ _ 310598401 [.int .i64 310598401] from rfl) (Reps.one (show Kd.M (Kd.int .i64) _ _ _ 607225278 [.int .i64 607225278] from rfl) (Reps.one (show Kd.M (Kd.int .i64) _ _ _ 1426881987 [.int .i64 1426881987] from rfl) (Reps.one (show Kd.M (Kd.int .i64) _ _ _ 1925078388 [.int .i64 1925078388] from rfl) (Reps.one (show Kd.M (Kd.int .i64) _ _ _ 2162078206 [.int .i64 2162078206] from rfl) (Reps.one (show Kd.M (Kd.int .i64) _ _ _ 2614888103 [.int .i64 2614888103] from rfl) (Reps.one (show Kd.M (Kd.int .i64) _ _ _ 3248222580 [.int .i64 3248222580] from rfl) (Reps.one (show Kd.M (Kd.int .i64) _ _ _ 3835390401 [.int .i64 3835390401] from rfl) (Reps.one (show Kd.M (Kd.int .i64) _ _ _ 4022224774 [.int .i64 4022224774] from rfl) (Reps.one (show Kd.M (Kd.int .i64) _ _ _ 264347078 [.int .i64 264347078] from rfl) (Reps.one (show Kd.M (Kd.int .i64) _ _ _ 604807628 [.int .i64 604807628] from rfl) (Reps.one (show Kd.M (Kd.int .i64) _ _ _ 770255983 [.int .i64 770255983] from rfl) (Reps.one (show Kd.M (Kd.int .i64) _ _ _ 1249150122 [.int .i64 1249150122] from rfl) (Reps.one (show Kd.M (Kd.int .i64) _ _ _ 1555081692 [.int .i64 1555081692] from rfl) (Reps.one (show Kd.M (Kd.int .i64) _ _ _ 1996064986 [.int .i64 1996064986] from rfl) (Reps.one (show Kd.M (Kd.int .i64) _ _ _ 2554220882 [.int .i64 2554220882] from rfl) (Reps.one (show Kd.M (Kd.int .i64) _ _ _ 2821834349 [.int .i64 2821834349] from rfl) (Reps.one (show Kd.M (Kd.int .i64) _ _ _ 2952996808 [.int .i64 2952996808] from rfl) (Reps.one (show Kd.M (Kd.int .i64) _ _ _ 3210313671 [.int .i64 3210313671] from rfl) (Reps.one (show Kd.M (Kd.int .i64) _ _ _ 3336571891 [.int .i64 3336571891] from rfl) (Reps.one (show Kd.M (Kd.int .i64) _ _ _ 3584528711 [.int .i64 3584528711] from rfl) (Reps.one (show Kd.M (Kd.int .i64) _ _ _ 113926993 [.int .i64 113926993] from rfl) (Reps.one (show Kd.M (Kd.int .i64) _ _ _ 338241895 [.int .i64 338241895] from rfl) (Reps.one (show Kd.M (Kd.int .i64) _ _ _ 666307205 [.int .i64 666307205] from rfl) (Reps.one (show Kd.M (Kd.int .i64) _ _ _ 773529912 [.int .i64 773529912] from rfl) (Reps.one (show Kd.M (Kd.int .i64) _ _ _ 1294757372 [.int .i64 1294757372] from rfl) (Reps.one (show Kd.M (Kd.int .i64) _ _ _ 1396182291 [.int .i64 1396182291] from rfl) (Reps.one (show Kd.M (Kd.int .i64) _ _ _ 1695183700 [.int .i64 1695183700] from rfl) (Reps.one (show Kd.M (Kd.int .i64) _ _ _ 1986661051 [.int .i64 1986661051] from rfl) (Reps.one (show Kd.M (Kd.int .i64) _ _ _ 2177026350 [.int .i64 2177026350] from rfl) (Reps.one (show Kd.M (Kd.int .i64) _ _ _ 2456956037 [.int .i64 2456956037] from rfl) (Reps.one (show Kd.M (Kd.int .i64) _ _ _ 2730485921 [.int .i64 2730485921] from rfl) (Reps.one (show Kd.M (Kd.int .i64) _ _ _ 2820302411 [.int .i64 2820302411] from rfl) (Reps.one (show Kd.M (Kd.int .i64) _ _ _ 3259730800 [.int .i64 3259730800] from rfl) (Reps.one (show Kd.M (Kd.int .i64) _ _ _ 3345764771 [.int .i64 3345764771] from rfl) (Reps.one (show Kd.M (Kd.int .i64) _ _ _ 3516065817 [.int .i64 3516065817] from rfl) (Reps.one (show Kd.M (Kd.int .i64) _ _ _ 3600352804 [.int .i64 3600352804] from rfl) (Reps.one (show Kd.M (Kd.int .i64) _ _ _ 4094571909 [.int .i64 4094571909] from rfl) (Reps.one (show Kd.M (Kd.int .i64) _ _ _ 275423344 [.int .i64 275423344] from rfl) (Reps.one (show Kd.M (Kd.int .i64) _ _ _ 430227734 [.int .i64 430227734] from rfl) (Reps.one (show Kd.M (Kd.int .i64) _ _ _ 506948616 [.int .i64 506948616] from rfl) (Reps.one (show Kd.M (Kd.int .i64) _ _ _ 659060556 [.int .i64 659060556] from rfl) (Reps.one (show Kd.M (Kd.int .i64) _ _ _ 883997877 [.int .i64 883997877] from rfl) (Reps.one (show Kd.M (Kd.int .i64) _ _ _ 958139571 [.int .i64 958139571] from rfl) (Reps.one (show Kd.M (Kd.int .i64) _ _ _ 1322822218 [.int .i64 1322822218] from rfl) (Reps.one (show Kd.M (Kd.int .i64) _ _ _ 1537002063 [.int .i64 1537002063] from rfl) (Reps.one (show Kd.M (Kd.int .i64) _ _ _ 1747873779 [.int .i64 1747873779] from rfl) (Reps.one (show Kd.M (Kd.int .i64) _ _ _ 1955562222 [.int .i64 1955562222] from rfl) (Reps.one (show Kd.M (Kd.int .i64) _ _ _ 2024104815 [.int .i64 2024104815] from rfl) (Reps.one (show Kd.M (Kd.int .i64) _ _ _ 2227730452 [.int .i64 2227730452] from rfl) (Reps.one (show Kd.M (Kd.int .i64) _ _ _ 2361852424 [.int .i64 2361852424] from rfl) (Reps.one (show Kd.M (Kd.int .i64) _ _ _ 2428436474 [.int .i64 2428436474] from rfl) (Reps.one (show Kd.M (Kd.int .i64) _ _ _ 2756734187 [.int .i64 2756734187] from rfl) (Reps.one (show Kd.M (Kd.int .i64) _ _ _ 3204031479 [.int .i64 3204031479] from rfl) (Reps.one (show Kd.M (Kd.int .i64) _ _ _ 3329325298 [.int .i64 3329325298] from rfl) (Reps.one (show Kd.M (Kd.int .i64) _ _ _ 1779033703 [.int .i64 1779033703] from rfl) (Reps.one (show Kd.M (Kd.int .i64) _ _ _ 3144134277 [.int .i64 3144134277] from rfl) (Reps.one (show Kd.M (Kd.int .i64) _ _ _ 1013904242 [.int .i64 1013904242] from rfl) (Reps.one (show Kd.M (Kd.int .i64) _ _ _ 2773480762 [.int .i64 2773480762] from rfl) (Reps.one (show Kd.M (Kd.int .i64) _ _ _ 1359893119 [.int .i64 1359893119] from rfl) (Reps.one (show Kd.M (Kd.int .i64) _ _ _ 2600822924 [.int .i64 2600822924] from rfl) (Reps.one (show Kd.M (Kd.int .i64) _ _ _ 528734635 [.int .i64 528734635] from rfl) (Reps.one (show Kd.M (Kd.int .i64) _ _ _ 1541459225 [.int .i64 1541459225] from rfl) (Reps.none _ _)))))))))))))))))))))))))))))))))))))))))))))))))))))))))))))))))))))))))); intro v132 w1 ho2 hb hg_ hnew_; clear hg_ hnew_; (first | rw [← Ny131.out] at ho2 | (simp only [Int.reduceToNat] at ho2; rw [← Ny131.out] at ho2)); have n0_ := Aside0.mk (Kd.R_lower ho2 (below_size (by repeat (first | (with_reducible first | exact HB.out | apply below_alloc | apply pw_below_drewN | apply below_drew1) | exact HB.out)))); have n1_ := Aside0.mk (below_step (by repeat (first | (with_reducible first | exact HB.out | apply below_alloc | apply pw_below_drewN | apply below_drew1) | exact HB.out)) hb); clear HB; have HO133 := n0_; have HB := n1_; clear n0_ n1_; clear hb ho2))
  go_ret
  exact ⟨_, by first | rfl | (simp [errW_none, errW_some] <;> rfl) | (simp [*, errW_none, errW_some] <;> rfl), by (with_reducible repeat (first | apply Kd.R_alloc | apply Kd.R_drewN | apply Kd.R_drew)); exact HO133.out, by repeat (first | (with_reducible first | exact HB.out | apply below_alloc | apply pw_below_drewN | apply below_drew1) | exact HB.out)⟩

end Go.Proofs.YtaooibcihjkhfaaDoor.PDigestRounds

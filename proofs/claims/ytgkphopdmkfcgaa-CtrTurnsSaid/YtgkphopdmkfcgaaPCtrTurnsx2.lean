-- PRINTED BY print.sh 35421559b90ae4d0a3588c463048766b98c2df88dd9212a6774a882060cdf62d: not written by this session
import Derived.Test.YtgkphopdmkfcgaaPCtrTurnsx0
import Derived.Test.YtgkphopdmkfcgaaPCtrTurnsx1
namespace Go.Proofs.Ytgkphopdmkfcgaa.PCtrTurns
open Go.RowKit Go.Proofs.YtgkphopdmkfcgaaW.PrintWords Go.Proofs.YtgkphopdmkfcgaaW.PrintLast Go.Proofs.YtgkphopdmkfcgaaW.PrintMore
attribute [local go_sem] max2_int min2_int max_two min_two max_three min_three max_four min_four   -- for this text's walks alone
set_option linter.unusedVariables false
set_option linter.unusedSimpArgs false

/-! ### redoubtref08_Keys: function 22 -/
mutual
def redoubtref08_Keys.l0 : Nat → List Int → Int → List Int → Int → Int → Option (List Int)
  | 0, _, _, _, _, _ => none
  | k + 1, x3, x4, x5, x6, x7 => if x7 < (wrap64 (4 * (wrap64 (x4 + 7)))) then (if 0 ≤ (wrap64 ((wrap64 (4 * x7)) - 4)) then (if (wrap64 ((wrap64 (4 * x7)) - 4)) < (x5.length : Int) then (if 0 ≤ (wrap64 ((wrap64 (4 * x7)) - 3)) then (if (wrap64 ((wrap64 (4 * x7)) - 3)) < (x5.length : Int) then (if 0 ≤ (wrap64 ((wrap64 (4 * x7)) - 2)) then (if (wrap64 ((wrap64 (4 * x7)) - 2)) < (x5.length : Int) then (if 0 ≤ (wrap64 ((wrap64 (4 * x7)) - 1)) then (if (wrap64 ((wrap64 (4 * x7)) - 1)) < (x5.length : Int) then ((some (([wrap64 (rd x5 (wrap64 ((wrap64 (4 * x7)) - 4))), wrap64 (rd x5 (wrap64 ((wrap64 (4 * x7)) - 3))), wrap64 (rd x5 (wrap64 ((wrap64 (4 * x7)) - 2))), wrap64 (rd x5 (wrap64 ((wrap64 (4 * x7)) - 1)))] : List Int) : List Int)).bind fun y146 => (if x4 = 0 then (none) else (if (Int.tmod x7 x4) = 0 then (if 1 < (y146.length : Int) then (if 0 ≤ (rd y146 1) then (if (rd y146 1) < (x3.length : Int) then (if 2 < (y146.length : Int) then (if 0 ≤ (rd y146 2) then (if (rd y146 2) < (x3.length : Int) then (if 3 < (y146.length : Int) then (if 0 ≤ (rd y146 3) then (if (rd y146 3) < (x3.length : Int) then (if 0 < (y146.length : Int) then (if 0 ≤ (rd y146 0) then (if (rd y146 0) < (x3.length : Int) then ((redoubtref08_Times.f k x6 2).bind fun t160 => (redoubtref08_Keys.j1 k x3 x4 x5 t160 x7 (([Go.bits .xor .i64 (rd x3 (rd y146 1)) x6, rd x3 (rd y146 2), rd x3 (rd y146 3), rd x3 (rd y146 0)] : List Int)))) else (none)) else (none)) else (none)) else (none)) else (none)) else (none)) else (none)) else (none)) else (none)) else (none)) else (none)) else (none)) else (if x4 = 8 then (if (Int.tmod x7 8) = 4 then (if 0 < (y146.length : Int) then (if 0 ≤ (rd y146 0) then (if (rd y146 0) < (x3.length : Int) then (if 1 < (y146.length : Int) then (if 0 ≤ (rd y146 1) then (if (rd y146 1) < (x3.length : Int) then (if 2 < (y146.length : Int) then (if 0 ≤ (rd y146 2) then (if (rd y146 2) < (x3.length : Int) then (if 3 < (y146.length : Int) then (if 0 ≤ (rd y146 3) then (if (rd y146 3) < (x3.length : Int) then (redoubtref08_Keys.j1 k x3 x4 x5 x6 x7 (([rd x3 (rd y146 0), rd x3 (rd y146 1), rd x3 (rd y146 2), rd x3 (rd y146 3)] : List Int))) else (none)) else (none)) else (none)) else (none)) else (none)) else (none)) else (none)) else (none)) else (none)) else (none)) else (none)) else (none)) else (redoubtref08_Keys.j1 k x3 x4 x5 x6 x7 y146)) else (redoubtref08_Keys.j1 k x3 x4 x5 x6 x7 y146))))) else (none)) else (none)) else (none)) else (none)) else (none)) else (none)) else (none)) else (none)) else (some x5)
def redoubtref08_Keys.j1 : Nat → List Int → Int → List Int → Int → Int → List Int → Option (List Int)
  | 0, _, _, _, _, _, _ => none
  | k + 1, x3, x4, x5, x6, x7, x8 => redoubtref08_Keys.l1 k x3 x4 x5 x6 x7 x8 0
def redoubtref08_Keys.l1 : Nat → List Int → Int → List Int → Int → Int → List Int → Int → Option (List Int)
  | 0, _, _, _, _, _, _, _ => none
  | k + 1, x3, x4, x5, x6, x7, x8, x9 => if x9 < 4 then (if 0 ≤ x9 then (if x9 < (x8.length : Int) then (if 0 ≤ (wrap64 ((wrap64 (4 * (wrap64 (x7 - x4)))) + x9)) then (if (wrap64 ((wrap64 (4 * (wrap64 (x7 - x4)))) + x9)) < (x5.length : Int) then (if x5.length < 140737488355328 then (redoubtref08_Keys.l1 k x3 x4 (x5 ++ [(Go.bits .xor .i64 (rd x8 x9) (wrap64 (rd x5 (wrap64 ((wrap64 (4 * (wrap64 (x7 - x4)))) + x9))))) % 256]) x6 x7 x8 (wrap64 (x9 + 1))) else (none)) else (none)) else (none)) else (none)) else (none)) else (redoubtref08_Keys.l0 k x3 x4 x5 x6 (wrap64 (x7 + 1)))
end
def redoubtref08_Keys.f (k : Nat) (l0 : List Int) : Option (List Int) := (redoubtref08_Table.f k).bind fun t133 => ((redoubtref01_Both.f k (([l0] : List (List Int)))).bind fun t139 => (redoubtref08_Keys.l0 k t133 (wrap64 ((l0.length : Int) / 4)) t139 1 (wrap64 ((l0.length : Int) / 4))))
theorem redoubtref08_Keys.mono_l : ∀ k, (∀ y0 y1 y2 y3 y4, LeO (redoubtref08_Keys.l0 k y0 y1 y2 y3 y4) (redoubtref08_Keys.l0 (k + 1) y0 y1 y2 y3 y4)) ∧ (∀ y0 y1 y2 y3 y4 y5, LeO (redoubtref08_Keys.j1 k y0 y1 y2 y3 y4 y5) (redoubtref08_Keys.j1 (k + 1) y0 y1 y2 y3 y4 y5)) ∧ (∀ y0 y1 y2 y3 y4 y5 y6, LeO (redoubtref08_Keys.l1 k y0 y1 y2 y3 y4 y5 y6) (redoubtref08_Keys.l1 (k + 1) y0 y1 y2 y3 y4 y5 y6))
  | 0 => ⟨fun _ _ _ _ _ r h => by simp [redoubtref08_Keys.l0] at h, fun _ _ _ _ _ _ r h => by simp [redoubtref08_Keys.j1] at h, fun _ _ _ _ _ _ _ r h => by simp [redoubtref08_Keys.l1] at h⟩
  | k + 1 => by
    obtain ⟨ih0, ih1, ih2⟩ := redoubtref08_Keys.mono_l k
    refine ⟨?_, ?_, ?_⟩
    · intro y0 y1 y2 y3 y4
      unfold redoubtref08_Keys.l0
      repeat' first
      | (with_reducible exact ih0 _ _ _ _ _)
      | (with_reducible exact ih1 _ _ _ _ _ _)
      | (with_reducible exact ih2 _ _ _ _ _ _ _)
      | (with_reducible exact redoubtref01_Both.mono _ _)
      | (with_reducible exact redoubtref08_Table.mono _)
      | (with_reducible exact redoubtref08_Times.mono _ _ _)
      | (with_reducible exact LeO.refl _)
      | (with_reducible exact LeO.none _)
      | (with_reducible refine LeO.ite ?_ ?_)
      | (with_reducible refine LeO.bind ?_ (fun _ => ?_))
      | exact ih0 _ _ _ _ _
      | exact ih1 _ _ _ _ _ _
      | exact ih2 _ _ _ _ _ _ _
      | exact redoubtref01_Both.mono _ _
      | exact redoubtref08_Table.mono _
      | exact redoubtref08_Times.mono _ _ _
      | exact LeO.none _
      | refine LeO.ite ?_ ?_
      | refine LeO.bind ?_ (fun _ => ?_)
    · intro y0 y1 y2 y3 y4 y5
      unfold redoubtref08_Keys.j1
      repeat' first
      | (with_reducible exact ih0 _ _ _ _ _)
      | (with_reducible exact ih1 _ _ _ _ _ _)
      | (with_reducible exact ih2 _ _ _ _ _ _ _)
      | (with_reducible exact redoubtref01_Both.mono _ _)
      | (with_reducible exact redoubtref08_Table.mono _)
      | (with_reducible exact redoubtref08_Times.mono _ _ _)
      | (with_reducible exact LeO.refl _)
      | (with_reducible exact LeO.none _)
      | (with_reducible refine LeO.ite ?_ ?_)
      | (with_reducible refine LeO.bind ?_ (fun _ => ?_))
      | exact ih0 _ _ _ _ _
      | exact ih1 _ _ _ _ _ _
      | exact ih2 _ _ _ _ _ _ _
      | exact redoubtref01_Both.mono _ _
      | exact redoubtref08_Table.mono _
      | exact redoubtref08_Times.mono _ _ _
      | exact LeO.none _
      | refine LeO.ite ?_ ?_
      | refine LeO.bind ?_ (fun _ => ?_)
    · intro y0 y1 y2 y3 y4 y5 y6
      unfold redoubtref08_Keys.l1
      repeat' first
      | (with_reducible exact ih0 _ _ _ _ _)
      | (with_reducible exact ih1 _ _ _ _ _ _)
      | (with_reducible exact ih2 _ _ _ _ _ _ _)
      | (with_reducible exact redoubtref01_Both.mono _ _)
      | (with_reducible exact redoubtref08_Table.mono _)
      | (with_reducible exact redoubtref08_Times.mono _ _ _)
      | (with_reducible exact LeO.refl _)
      | (with_reducible exact LeO.none _)
      | (with_reducible refine LeO.ite ?_ ?_)
      | (with_reducible refine LeO.bind ?_ (fun _ => ?_))
      | exact ih0 _ _ _ _ _
      | exact ih1 _ _ _ _ _ _
      | exact ih2 _ _ _ _ _ _ _
      | exact redoubtref01_Both.mono _ _
      | exact redoubtref08_Table.mono _
      | exact redoubtref08_Times.mono _ _ _
      | exact LeO.none _
      | refine LeO.ite ?_ ?_
      | refine LeO.bind ?_ (fun _ => ?_)
theorem redoubtref08_Keys.mono : ∀ a0 k, LeO (redoubtref08_Keys.f k a0) (redoubtref08_Keys.f (k + 1) a0) := by
  intro a0 k
  obtain ⟨ih0, ih1, ih2⟩ := redoubtref08_Keys.mono_l k
  unfold redoubtref08_Keys.f
  repeat' first
      | (with_reducible exact ih0 _ _ _ _ _)
      | (with_reducible exact ih1 _ _ _ _ _ _)
      | (with_reducible exact ih2 _ _ _ _ _ _ _)
      | (with_reducible exact redoubtref01_Both.mono _ _)
      | (with_reducible exact redoubtref08_Table.mono _)
      | (with_reducible exact redoubtref08_Times.mono _ _ _)
      | (with_reducible exact LeO.refl _)
      | (with_reducible exact LeO.none _)
      | (with_reducible refine LeO.ite ?_ ?_)
      | (with_reducible refine LeO.bind ?_ (fun _ => ?_))
      | exact ih0 _ _ _ _ _
      | exact ih1 _ _ _ _ _ _
      | exact ih2 _ _ _ _ _ _ _
      | exact redoubtref01_Both.mono _ _
      | exact redoubtref08_Table.mono _
      | exact redoubtref08_Times.mono _ _ _
      | exact LeO.none _
      | refine LeO.ite ?_ ?_
      | refine LeO.bind ?_ (fun _ => ?_)
def redoubtref08_Keys.T8 : Bool × List (List Nat × List Nat) := (true, [([], []), ([], []), ([1], [1]), ([2], [2]), ([0, 3], [0, 3]), ([4], [4]), ([5], [5]), ([], []), ([], []), ([8], [8]), ([9], [9]), ([7, 10], [7, 10]), ([11], [11]), ([12], [12]), ([], []), ([], []), ([15], [15]), ([16], [16]), ([14, 17], [14, 17]), ([18], [18]), ([19], [19]), ([], []), ([], []), ([22], [22]), ([23], [23]), ([21, 24], [21, 24]), ([25], [25]), ([26], [26]), ([6, 13, 20, 27], [6, 13, 20, 27]), ([28, 0, 1, 2, 3, 4, 5, 6, 7, 8, 9, 10, 11, 12, 13, 14, 15, 16, 17, 18, 19, 20, 21, 22, 23, 24, 25, 26, 27, 28], [28])])
def redoubtref08_Keys.B8 : List Nat := [0, 0, 2, 6, 15, 31, 63, 0, 0, 256, 768, 1920, 3968, 8064, 0, 0, 32768, 98304, 245760, 507904, 1032192, 0, 0, 4194304, 12582912, 31457280, 65011712, 132120576, 268435455, 536870911]
theorem redoubtref08_Keys.tab8 : rtab .any (opsOf Try.f22 8) = redoubtref08_Keys.T8 := by kernel_rfl
theorem redoubtref08_Keys.bits8 : waitsOk redoubtref08_Keys.T8.2 redoubtref08_Keys.B8 = true := by kernel_rfl
def redoubtref08_Keys.T10 : Bool × List (List Nat × List Nat) := (true, [([], []), ([], []), ([1], [1]), ([2], [2]), ([0, 3], [0, 3]), ([4], [4]), ([], []), ([5, 6], [5, 6]), ([], []), ([], []), ([9], [9]), ([10], [10]), ([8, 11], [8, 11]), ([12], [12]), ([], []), ([], []), ([15], [15]), ([16], [16]), ([14, 17], [14, 17]), ([18], [18]), ([], []), ([], []), ([21], [21]), ([22], [22]), ([20, 23], [20, 23]), ([24], [24]), ([7, 13, 19, 25], [7, 13, 19, 25]), ([26, 0, 1, 2, 3, 4, 5, 6, 7, 8, 9, 10, 11, 12, 13, 14, 15, 16, 17, 18, 19, 20, 21, 22, 23, 24, 25, 26], [1, 9, 15, 21, 26])])
def redoubtref08_Keys.B10 : List Nat := [0, 0, 2, 6, 15, 31, 0, 127, 0, 0, 512, 1536, 3840, 7936, 0, 0, 32768, 98304, 245760, 507904, 0, 0, 2097152, 6291456, 15728640, 32505856, 67108863, 134217727]
theorem redoubtref08_Keys.tab10 : rtab .any (opsOf Try.f22 10) = redoubtref08_Keys.T10 := by kernel_rfl
theorem redoubtref08_Keys.bits10 : waitsOk redoubtref08_Keys.T10.2 redoubtref08_Keys.B10 = true := by kernel_rfl
def redoubtref08_Keys.T13 : Bool × List (List Nat × List Nat) := (true, [([], []), ([], []), ([1], [1]), ([2], [2]), ([0, 3], [0, 3]), ([4], [4]), ([], []), ([], []), ([7], [7]), ([8], [8]), ([6, 9], [6, 9]), ([10], [10]), ([], []), ([], []), ([13], [13]), ([14], [14]), ([12, 15], [12, 15]), ([16], [16]), ([], []), ([], []), ([19], [19]), ([20], [20]), ([18, 21], [18, 21]), ([22], [22]), ([5, 11, 17, 23], [5, 11, 17, 23]), ([24, 0, 1, 2, 3, 4, 5, 6, 7, 8, 9, 10, 11, 12, 13, 14, 15, 16, 17, 18, 19, 20, 21, 22, 23, 24], [1, 7, 13, 19, 24])])
def redoubtref08_Keys.B13 : List Nat := [0, 0, 2, 6, 15, 31, 0, 0, 128, 384, 960, 1984, 0, 0, 8192, 24576, 61440, 126976, 0, 0, 524288, 1572864, 3932160, 8126464, 16777215, 33554431]
theorem redoubtref08_Keys.tab13 : rtab .any (opsOf Try.f22 13) = redoubtref08_Keys.T13 := by kernel_rfl
theorem redoubtref08_Keys.bits13 : waitsOk redoubtref08_Keys.T13.2 redoubtref08_Keys.B13 = true := by kernel_rfl
def redoubtref08_Keys.T17 : Bool × List (List Nat × List Nat) := (true, [([], []), ([], []), ([], []), ([1, 2], [1, 2]), ([3], [3]), ([], []), ([], []), ([], []), ([6, 7], [6, 7]), ([8], [8]), ([], []), ([9, 10], [9, 10]), ([5, 11], [5, 11]), ([12], [12]), ([13], [13]), ([4, 14], [4, 14]), ([15], [15]), ([16], [16]), ([0, 17], [0, 17]), ([18, 18, 0, 1, 2, 3, 4, 5, 6, 7, 8, 9, 10, 11, 12, 13, 14, 15, 16, 17, 18], [0, 5, 18])])
def redoubtref08_Keys.B17 : List Nat := [0, 0, 0, 6, 14, 0, 0, 0, 192, 448, 0, 1984, 4064, 8160, 16352, 32766, 65534, 131070, 262143, 524287]
theorem redoubtref08_Keys.tab17 : rtab .any (opsOf Try.f22 17) = redoubtref08_Keys.T17 := by kernel_rfl
theorem redoubtref08_Keys.bits17 : waitsOk redoubtref08_Keys.T17.2 redoubtref08_Keys.B17 = true := by kernel_rfl
set_option maxHeartbeats 8000000 in
set_option maxRecDepth 100000 in
theorem redoubtref08_Keys.calls (k : Nat) (P0_ : Nat → Prop) (A0 : Option Addr) (c0 : Nat) (l0 : List Int) (r : List Int) (w : World) (hs0 : Kd.V (Kd.int .u8) 5 w w.heap.size (fun k_ => P0_ k_) (.slice A0 l0.length c0) l0) (h : redoubtref08_Keys.f k l0 = some r) :
    Calls Try.prog 22 #[.slice A0 l0.length c0] w fun e w' => ∃ v0_ : Value, e = .returned (v0_) ∧ Kd.R (Kd.int .u8) 5 w' w.heap.size (fun k_ => (w.heap.size ≤ k_)) v0_ r ∧ Below w.heap.size w w' := by
  have HO0 := Aside0.mk (show Kd.V (Kd.int .u8) 5 w w.heap.size (fun k_ => (P0_ k_ ∨ w.heap.size ≤ k_)) (.slice A0 l0.length c0) l0 from Kd.V_mono hs0 (fun k_ hk => .inl hk))
  have HB := Aside0.mk (Below.refl w.heap.size w)
  have H : ((redoubtref08_Table.f k).bind fun t133 => ((redoubtref01_Both.f k (([l0] : List (List Int)))).bind fun t139 => (redoubtref08_Keys.l0 k t133 (wrap64 ((l0.length : Int) / 4)) t139 1 (wrap64 ((l0.length : Int) / 4))))) = some r := h
  clear h
  replace H := Option.bind_eq_some_iff.mp H
  obtain ⟨t133, A20, H⟩ := H
  replace H : ((redoubtref01_Both.f k (([l0] : List (List Int)))).bind fun t139 => (redoubtref08_Keys.l0 k t133 (wrap64 ((l0.length : Int) / 4)) t139 1 (wrap64 ((l0.length : Int) / 4)))) = some r := H
  have A2 := Aside0.mk A20
  clear A20
  obtain ⟨y136, hy136⟩ : ∃ y_ : List (List Int), y_ = (([l0] : List (List Int))) := ⟨_, rfl⟩
  replace H : ((redoubtref01_Both.f k y136).bind fun t139 => (redoubtref08_Keys.l0 k t133 (wrap64 ((l0.length : Int) / 4)) t139 1 (wrap64 ((l0.length : Int) / 4)))) = some r := by first | (rw [hy136]; with_reducible exact H) | (have H2_ := (Option.bind_some _ _).symm.trans H; rw [hy136]; with_reducible exact H2_) | (have H2_ := (Option.bind_some _ _).symm.trans H; with_reducible exact H2_) | with_reducible exact H | (rw [hy136]; exact H) | exact H
  have Ny136 := Aside0.mk hy136
  clear hy136
  replace H := Option.bind_eq_some_iff.mp H
  obtain ⟨t139, A30, H⟩ := H
  replace H : (redoubtref08_Keys.l0 k t133 (wrap64 ((l0.length : Int) / 4)) t139 1 (wrap64 ((l0.length : Int) / 4))) = some r := H
  have A3 := Aside0.mk A30
  clear A30
  have H' := Aside0.mk H
  clear H
  go_enter Try.func22, Try.ntmps22
  go_wp2_with (first | ((with_reducible refine gate_callee (f := 23) rfl ?_); refine goesL_ (some 10) rfl rfl Try.func23 (by kernel_rfl) rfl #[] rfl (by (try simp only [List.map_toArray, List.map_cons, List.map_nil]); first | done | rfl | (simp only [List.length_drop, List.length_take]; rfl)) ?_; (with_reducible refine (redoubtref08_Table.calls k  t133 _ A2.out).mono ?_); rintro e w4 ⟨v134, rfl, ho0, hb⟩; refine ⟨_, rfl, ?_⟩; have n0_ := Aside0.mk (Kd.V_elder' (by (with_reducible repeat (first | apply Kd.V_alloc | apply Kd.V_drewN | apply Kd.V_drew)); exact HO0.out) (Kd.R_base ho0) hb); have n1_ := Aside0.mk (Kd.R_lower (Kd.R_newM (M := fun k_ => (w.heap.size ≤ k_)) ho0 (below_size (by repeat (first | (with_reducible first | exact HB.out | apply below_alloc | apply pw_below_drewN | apply below_drew1) | exact HB.out))) (fun k_ h_ => h_)) (below_size (by repeat (first | (with_reducible first | exact HB.out | apply below_alloc | apply pw_below_drewN | apply below_drew1) | exact HB.out)))); have n2_ := Aside0.mk (below_step (by repeat (first | (with_reducible first | exact HB.out | apply below_alloc | apply pw_below_drewN | apply below_drew1) | exact HB.out)) hb); clear HO0; clear HB; have HO0 := n0_; have HO135 := n1_; have HB := n2_; clear n0_ n1_ n2_; (try clear hb); (try clear hb2); (try clear hk); (try clear hi); (try clear ho0)) | ((with_reducible refine gate_dst (N := 15) rfl ?_); refine Kd.N_lit (Kd.slice 5 (Kd.int .u8)) _ 22 ?hg (N' := 15) ?hd (xs := ([l0] : List (List Int))) (inner := [.slice A0 l0.length c0]) (ok := (fun k_ => (P0_ k_ ∨ w.heap.size ≤ k_) ∧ some k_ ≠ (v134 : Value).ownBlock)) (okp := (fun k_ => (P0_ k_ ∨ w.heap.size ≤ k_) ∧ some k_ ≠ (v134 : Value).ownBlock)) ?hr ?hp (fun _ hk => hk) ((show ∀ k_, w4.heap.size ≤ k_ → (fun k_ => (P0_ k_ ∨ w.heap.size ≤ k_) ∧ some k_ ≠ (v134 : Value).ownBlock) k_ from fun k_ hk => ⟨(.inr (Nat.le_trans (below_size (by repeat (first | (with_reducible first | exact HB.out | apply below_alloc | apply pw_below_drewN | apply below_drew1) | exact HB.out))) hk)), Kd.fresh' (Kd.R_lt (by (with_reducible repeat (first | apply Kd.R_alloc | apply Kd.R_drewN | apply Kd.R_drew)); exact HO135.out)) k_ hk⟩) _ (Nat.le_refl _)) (Below.refl _ _) (Nat.le_refl _) (by simp) ?_; (case hd => rfl); (case hg => rfl); (case hr => first | (go_simp; done) | (go_simp; rfl)); (case hp => exact (Reps.one (show Kd.FK (Kd.slice 5 (Kd.int .u8)) _ _ l0 [.slice A0 l0.length c0] from (Kd.FK_slice_mk (Kd.V_reads' (Kd.V_mono (ok' := (fun k_ => (P0_ k_ ∨ w.heap.size ≤ k_) ∧ some k_ ≠ (v134 : Value).ownBlock)) (HO0.out) (fun k_ hk => ⟨hk.1, hk.2⟩))).2.1 (Kd.V_F (Kd.V_mono (ok' := (fun k_ => (P0_ k_ ∨ w.heap.size ≤ k_) ∧ some k_ ≠ (v134 : Value).ownBlock)) (HO0.out) (fun k_ hk => ⟨hk.1, hk.2⟩))))) (Reps.none _ _))); intro v137 w5 ho6 hb hg_ hnew_; clear hg_ hnew_; (first | rw [← Ny136.out] at ho6 | (simp only [Int.reduceToNat] at ho6; rw [← Ny136.out] at ho6)); have n0_ := Aside0.mk (Kd.V_elder' (by (with_reducible repeat (first | apply Kd.V_alloc | apply Kd.V_drewN | apply Kd.V_drew)); exact HO0.out) (Kd.N_base ho6) hb); have n1_ := Aside0.mk (Kd.R_below (by (with_reducible repeat (first | apply Kd.R_alloc | apply Kd.R_drewN | apply Kd.R_drew)); exact HO135.out) hb); have n2_ := Aside0.mk (Kd.N_lower ho6 (below_size (by repeat (first | (with_reducible first | exact HB.out | apply below_alloc | apply pw_below_drewN | apply below_drew1) | exact HB.out)))); have n3_ := Aside0.mk (below_step (by repeat (first | (with_reducible first | exact HB.out | apply below_alloc | apply pw_below_drewN | apply below_drew1) | exact HB.out)) hb); clear HO0; clear HO135; clear HB; have HO0 := n0_; have HO135 := n1_; have HO138 := n2_; have HB := n3_; clear n0_ n1_ n2_ n3_; clear hb ho6; obtain ⟨Ao7, co7, eo7⟩ := Kd.N_slice HO138.out; subst eo7) | ((with_reducible refine gate_callee (f := 8) rfl ?_); refine goesL_ (some 16) rfl rfl Try.func8 (by kernel_rfl) rfl #[.slice Ao7 y136.length co7] rfl (by (try simp only [List.map_toArray, List.map_cons, List.map_nil]); first | done | rfl | (simp only [List.length_drop, List.length_take]; rfl)) ?_; (with_reducible refine (redoubtref01_Both.calls k _ _ y136 t139 _ ?side1 ?side2 A3.out).mono ?_); (case side1 => repeat (first | exact (Kd.N_reads' HO138.out).2.2 | (with_reducible refine Kd.C_alloc ?_ _) | (with_reducible refine Kd.C_drewN ?_ _) | (with_reducible refine Kd.C_drew ?_))); (case side2 => exact (Kd.N_reads' HO138.out).2.1); rintro e w8 ⟨v140, rfl, ho0, hb⟩; refine ⟨_, rfl, ?_⟩; have n0_ := Aside0.mk (Kd.V_elder' (by (with_reducible repeat (first | apply Kd.V_alloc | apply Kd.V_drewN | apply Kd.V_drew)); exact HO0.out) (Kd.R_base ho0) hb); have n1_ := Aside0.mk (Kd.R_below (by (with_reducible repeat (first | apply Kd.R_alloc | apply Kd.R_drewN | apply Kd.R_drew)); exact HO135.out) hb); have n2_ := Aside0.mk (Kd.N_elder' (by (with_reducible repeat (first | apply Kd.N_alloc | apply Kd.N_drewN | apply Kd.N_drew)); exact HO138.out) (Kd.R_base ho0) hb); have n3_ := Aside0.mk (Kd.R_lower (Kd.R_newM (M := fun k_ => (w.heap.size ≤ k_)) ho0 (below_size (by repeat (first | (with_reducible first | exact HB.out | apply below_alloc | apply pw_below_drewN | apply below_drew1) | exact HB.out))) (fun k_ h_ => h_)) (below_size (by repeat (first | (with_reducible first | exact HB.out | apply below_alloc | apply pw_below_drewN | apply below_drew1) | exact HB.out)))); have n4_ := Aside0.mk (below_step (by repeat (first | (with_reducible first | exact HB.out | apply below_alloc | apply pw_below_drewN | apply below_drew1) | exact HB.out)) hb); clear HO0; clear HO135; clear HO138; clear HB; have HO0 := n0_; have HO135 := n1_; have HO138 := n2_; have HO141 := n3_; have HB := n4_; clear n0_ n1_ n2_ n3_ n4_; (try clear hb); (try clear hb2); (try clear hk); (try clear hi); (try clear ho0)))
  go_loopg [5, 6, 7] k (fun kq v5 v6 v7 w' => ∃ (x5_1 : List Int) (x6_1 : Int) (x7_1 : Int), v6 = .int .i64 x6_1 ∧ v7 = .int .i64 x7_1 ∧ Aside0 (redoubtref08_Keys.l0 kq t133 (wrap64 ((l0.length : Int) / 4)) x5_1 x6_1 x7_1 = some r) ∧ Aside0 (kq ≤ k) ∧ Aside0 (Kd.R (Kd.int .i64) 3 w' w.heap.size (fun k_ => (w.heap.size ≤ k_)) v134 t133) ∧ Aside0 (Kd.R (Kd.int .u8) 5 w' w.heap.size (fun k_ => (w.heap.size ≤ k_)) v5 x5_1) ∧ Aside0 (Below w.heap.size w w'))
  case atStart => exact ⟨(t139), (1), (wrap64 ((l0.length : Int) / 4)), (by first | rfl | (simp; done) | (simp [*]; done)), (by first | rfl | (simp; done) | (simp [*]; done)), H', ⟨Nat.le_refl _⟩, ⟨by (with_reducible repeat (first | apply Kd.R_alloc | apply Kd.R_drewN | apply Kd.R_drew)); exact Kd.R_mono HO135.out (fun _ hk => hk.1)⟩, ⟨by (with_reducible repeat (first | apply Kd.R_alloc | apply Kd.R_drewN | apply Kd.R_drew)); exact Kd.R_mono HO141.out (fun _ hk => hk.1)⟩, ⟨by repeat (first | (with_reducible first | exact HB.out | apply below_alloc | apply pw_below_drewN | apply below_drew1) | exact HB.out)⟩⟩
  case round =>
    clear H'
    try clear c2
    try clear p2
    try clear p6
    try clear c8
    obtain ⟨x5_1, x6_1, x7_1, rfl, rfl, HA, HK1, HO_3, HO_5, HB⟩ := hrel
    cases gk with
    | zero => exact absurd HA.out (by simp [redoubtref08_Keys.l0])
    | succ k1 =>
      have H := HA.out
      clear HA
      simp only [redoubtref08_Keys.l0] at H
      by_cases c9 : x7_1 < (wrap64 (4 * (wrap64 ((wrap64 ((l0.length : Int) / 4)) + 7))))
      · rw [if_pos c9] at H
        have c9b0 : decide (x7_1 < (wrap64 (4 * (wrap64 ((wrap64 ((l0.length : Int) / 4)) + 7))))) = true := decide_eq_true c9
        clear c9
        obtain ⟨ji10, hji10⟩ : ∃ j_ : Int, (wrap64 ((wrap64 (4 * x7_1)) - 4)) = j_ := ⟨_, rfl⟩
        replace H : (if 0 ≤ (ji10) then (if (ji10) < (x5_1.length : Int) then (if 0 ≤ (wrap64 ((wrap64 (4 * x7_1)) - 3)) then (if (wrap64 ((wrap64 (4 * x7_1)) - 3)) < (x5_1.length : Int) then (if 0 ≤ (wrap64 ((wrap64 (4 * x7_1)) - 2)) then (if (wrap64 ((wrap64 (4 * x7_1)) - 2)) < (x5_1.length : Int) then (if 0 ≤ (wrap64 ((wrap64 (4 * x7_1)) - 1)) then (if (wrap64 ((wrap64 (4 * x7_1)) - 1)) < (x5_1.length : Int) then ((some (([wrap64 (rd x5_1 (ji10)), wrap64 (rd x5_1 (wrap64 ((wrap64 (4 * x7_1)) - 3))), wrap64 (rd x5_1 (wrap64 ((wrap64 (4 * x7_1)) - 2))), wrap64 (rd x5_1 (wrap64 ((wrap64 (4 * x7_1)) - 1)))] : List Int) : List Int)).bind fun y146 => (if (wrap64 ((l0.length : Int) / 4)) = 0 then (none) else (if (Int.tmod x7_1 (wrap64 ((l0.length : Int) / 4))) = 0 then (if 1 < (y146.length : Int) then (if 0 ≤ (rd y146 1) then (if (rd y146 1) < (t133.length : Int) then (if 2 < (y146.length : Int) then (if 0 ≤ (rd y146 2) then (if (rd y146 2) < (t133.length : Int) then (if 3 < (y146.length : Int) then (if 0 ≤ (rd y146 3) then (if (rd y146 3) < (t133.length : Int) then (if 0 < (y146.length : Int) then (if 0 ≤ (rd y146 0) then (if (rd y146 0) < (t133.length : Int) then ((redoubtref08_Times.f k1 x6_1 2).bind fun t160 => (redoubtref08_Keys.j1 k1 t133 (wrap64 ((l0.length : Int) / 4)) x5_1 t160 x7_1 (([Go.bits .xor .i64 (rd t133 (rd y146 1)) x6_1, rd t133 (rd y146 2), rd t133 (rd y146 3), rd t133 (rd y146 0)] : List Int)))) else (none)) else (none)) else (none)) else (none)) else (none)) else (none)) else (none)) else (none)) else (none)) else (none)) else (none)) else (none)) else (if (wrap64 ((l0.length : Int) / 4)) = 8 then (if (Int.tmod x7_1 8) = 4 then (if 0 < (y146.length : Int) then (if 0 ≤ (rd y146 0) then (if (rd y146 0) < (t133.length : Int) then (if 1 < (y146.length : Int) then (if 0 ≤ (rd y146 1) then (if (rd y146 1) < (t133.length : Int) then (if 2 < (y146.length : Int) then (if 0 ≤ (rd y146 2) then (if (rd y146 2) < (t133.length : Int) then (if 3 < (y146.length : Int) then (if 0 ≤ (rd y146 3) then (if (rd y146 3) < (t133.length : Int) then (redoubtref08_Keys.j1 k1 t133 (wrap64 ((l0.length : Int) / 4)) x5_1 x6_1 x7_1 (([rd t133 (rd y146 0), rd t133 (rd y146 1), rd t133 (rd y146 2), rd t133 (rd y146 3)] : List Int))) else (none)) else (none)) else (none)) else (none)) else (none)) else (none)) else (none)) else (none)) else (none)) else (none)) else (none)) else (none)) else (redoubtref08_Keys.j1 k1 t133 (wrap64 ((l0.length : Int) / 4)) x5_1 x6_1 x7_1 y146)) else (redoubtref08_Keys.j1 k1 t133 (wrap64 ((l0.length : Int) / 4)) x5_1 x6_1 x7_1 y146))))) else (none)) else (none)) else (none)) else (none)) else (none)) else (none)) else (none)) else (none)) = some r := by first | (rw [hji10] at H; exact H) | (simp only [hji10] at H ⊢; exact H)
        have hji10w : (IntKind.i64.wrap ((wrap64 (4 * x7_1)) - 4)) = ji10 := (i64_w _).trans hji10
        by_cases c11 : 0 ≤ (ji10)
        · rw [if_pos c11] at H
          have c11b0 : decide (0 ≤ (ji10)) = true := decide_eq_true c11
          clear c11
          by_cases c12 : (ji10) < (x5_1.length : Int)
          · rw [if_pos c12] at H
            have c12b0 : decide ((ji10) < (x5_1.length : Int)) = true := decide_eq_true c12
            clear c12
            obtain ⟨ji13, hji13⟩ : ∃ j_ : Int, (wrap64 ((wrap64 (4 * x7_1)) - 3)) = j_ := ⟨_, rfl⟩
            replace H : (if 0 ≤ (ji13) then (if (ji13) < (x5_1.length : Int) then (if 0 ≤ (wrap64 ((wrap64 (4 * x7_1)) - 2)) then (if (wrap64 ((wrap64 (4 * x7_1)) - 2)) < (x5_1.length : Int) then (if 0 ≤ (wrap64 ((wrap64 (4 * x7_1)) - 1)) then (if (wrap64 ((wrap64 (4 * x7_1)) - 1)) < (x5_1.length : Int) then ((some (([wrap64 (rd x5_1 (ji10)), wrap64 (rd x5_1 (ji13)), wrap64 (rd x5_1 (wrap64 ((wrap64 (4 * x7_1)) - 2))), wrap64 (rd x5_1 (wrap64 ((wrap64 (4 * x7_1)) - 1)))] : List Int) : List Int)).bind fun y146 => (if (wrap64 ((l0.length : Int) / 4)) = 0 then (none) else (if (Int.tmod x7_1 (wrap64 ((l0.length : Int) / 4))) = 0 then (if 1 < (y146.length : Int) then (if 0 ≤ (rd y146 1) then (if (rd y146 1) < (t133.length : Int) then (if 2 < (y146.length : Int) then (if 0 ≤ (rd y146 2) then (if (rd y146 2) < (t133.length : Int) then (if 3 < (y146.length : Int) then (if 0 ≤ (rd y146 3) then (if (rd y146 3) < (t133.length : Int) then (if 0 < (y146.length : Int) then (if 0 ≤ (rd y146 0) then (if (rd y146 0) < (t133.length : Int) then ((redoubtref08_Times.f k1 x6_1 2).bind fun t160 => (redoubtref08_Keys.j1 k1 t133 (wrap64 ((l0.length : Int) / 4)) x5_1 t160 x7_1 (([Go.bits .xor .i64 (rd t133 (rd y146 1)) x6_1, rd t133 (rd y146 2), rd t133 (rd y146 3), rd t133 (rd y146 0)] : List Int)))) else (none)) else (none)) else (none)) else (none)) else (none)) else (none)) else (none)) else (none)) else (none)) else (none)) else (none)) else (none)) else (if (wrap64 ((l0.length : Int) / 4)) = 8 then (if (Int.tmod x7_1 8) = 4 then (if 0 < (y146.length : Int) then (if 0 ≤ (rd y146 0) then (if (rd y146 0) < (t133.length : Int) then (if 1 < (y146.length : Int) then (if 0 ≤ (rd y146 1) then (if (rd y146 1) < (t133.length : Int) then (if 2 < (y146.length : Int) then (if 0 ≤ (rd y146 2) then (if (rd y146 2) < (t133.length : Int) then (if 3 < (y146.length : Int) then (if 0 ≤ (rd y146 3) then (if (rd y146 3) < (t133.length : Int) then (redoubtref08_Keys.j1 k1 t133 (wrap64 ((l0.length : Int) / 4)) x5_1 x6_1 x7_1 (([rd t133 (rd y146 0), rd t133 (rd y146 1), rd t133 (rd y146 2), rd t133 (rd y146 3)] : List Int))) else (none)) else (none)) else (none)) else (none)) else (none)) else (none)) else (none)) else (none)) else (none)) else (none)) else (none)) else (none)) else (redoubtref08_Keys.j1 k1 t133 (wrap64 ((l0.length : Int) / 4)) x5_1 x6_1 x7_1 y146)) else (redoubtref08_Keys.j1 k1 t133 (wrap64 ((l0.length : Int) / 4)) x5_1 x6_1 x7_1 y146))))) else (none)) else (none)) else (none)) else (none)) else (none)) else (none)) = some r := by first | (rw [hji13] at H; exact H) | (simp only [hji13] at H ⊢; exact H)
            have hji13w : (IntKind.i64.wrap ((wrap64 (4 * x7_1)) - 3)) = ji13 := (i64_w _).trans hji13
            by_cases c14 : 0 ≤ (ji13)
            · rw [if_pos c14] at H
              have c14b0 : decide (0 ≤ (ji13)) = true := decide_eq_true c14
              clear c14
              by_cases c15 : (ji13) < (x5_1.length : Int)
              · rw [if_pos c15] at H
                have c15b0 : decide ((ji13) < (x5_1.length : Int)) = true := decide_eq_true c15
                clear c15
                obtain ⟨ji16, hji16⟩ : ∃ j_ : Int, (wrap64 ((wrap64 (4 * x7_1)) - 2)) = j_ := ⟨_, rfl⟩
                replace H : (if 0 ≤ (ji16) then (if (ji16) < (x5_1.length : Int) then (if 0 ≤ (wrap64 ((wrap64 (4 * x7_1)) - 1)) then (if (wrap64 ((wrap64 (4 * x7_1)) - 1)) < (x5_1.length : Int) then ((some (([wrap64 (rd x5_1 (ji10)), wrap64 (rd x5_1 (ji13)), wrap64 (rd x5_1 (ji16)), wrap64 (rd x5_1 (wrap64 ((wrap64 (4 * x7_1)) - 1)))] : List Int) : List Int)).bind fun y146 => (if (wrap64 ((l0.length : Int) / 4)) = 0 then (none) else (if (Int.tmod x7_1 (wrap64 ((l0.length : Int) / 4))) = 0 then (if 1 < (y146.length : Int) then (if 0 ≤ (rd y146 1) then (if (rd y146 1) < (t133.length : Int) then (if 2 < (y146.length : Int) then (if 0 ≤ (rd y146 2) then (if (rd y146 2) < (t133.length : Int) then (if 3 < (y146.length : Int) then (if 0 ≤ (rd y146 3) then (if (rd y146 3) < (t133.length : Int) then (if 0 < (y146.length : Int) then (if 0 ≤ (rd y146 0) then (if (rd y146 0) < (t133.length : Int) then ((redoubtref08_Times.f k1 x6_1 2).bind fun t160 => (redoubtref08_Keys.j1 k1 t133 (wrap64 ((l0.length : Int) / 4)) x5_1 t160 x7_1 (([Go.bits .xor .i64 (rd t133 (rd y146 1)) x6_1, rd t133 (rd y146 2), rd t133 (rd y146 3), rd t133 (rd y146 0)] : List Int)))) else (none)) else (none)) else (none)) else (none)) else (none)) else (none)) else (none)) else (none)) else (none)) else (none)) else (none)) else (none)) else (if (wrap64 ((l0.length : Int) / 4)) = 8 then (if (Int.tmod x7_1 8) = 4 then (if 0 < (y146.length : Int) then (if 0 ≤ (rd y146 0) then (if (rd y146 0) < (t133.length : Int) then (if 1 < (y146.length : Int) then (if 0 ≤ (rd y146 1) then (if (rd y146 1) < (t133.length : Int) then (if 2 < (y146.length : Int) then (if 0 ≤ (rd y146 2) then (if (rd y146 2) < (t133.length : Int) then (if 3 < (y146.length : Int) then (if 0 ≤ (rd y146 3) then (if (rd y146 3) < (t133.length : Int) then (redoubtref08_Keys.j1 k1 t133 (wrap64 ((l0.length : Int) / 4)) x5_1 x6_1 x7_1 (([rd t133 (rd y146 0), rd t133 (rd y146 1), rd t133 (rd y146 2), rd t133 (rd y146 3)] : List Int))) else (none)) else (none)) else (none)) else (none)) else (none)) else (none)) else (none)) else (none)) else (none)) else (none)) else (none)) else (none)) else (redoubtref08_Keys.j1 k1 t133 (wrap64 ((l0.length : Int) / 4)) x5_1 x6_1 x7_1 y146)) else (redoubtref08_Keys.j1 k1 t133 (wrap64 ((l0.length : Int) / 4)) x5_1 x6_1 x7_1 y146))))) else (none)) else (none)) else (none)) else (none)) = some r := by first | (rw [hji16] at H; exact H) | (simp only [hji16] at H ⊢; exact H)
                have hji16w : (IntKind.i64.wrap ((wrap64 (4 * x7_1)) - 2)) = ji16 := (i64_w _).trans hji16
                by_cases c17 : 0 ≤ (ji16)
                · rw [if_pos c17] at H
                  have c17b0 : decide (0 ≤ (ji16)) = true := decide_eq_true c17
                  clear c17
                  by_cases c18 : (ji16) < (x5_1.length : Int)
                  · rw [if_pos c18] at H
                    have c18b0 : decide ((ji16) < (x5_1.length : Int)) = true := decide_eq_true c18
                    clear c18
                    obtain ⟨ji19, hji19⟩ : ∃ j_ : Int, (wrap64 ((wrap64 (4 * x7_1)) - 1)) = j_ := ⟨_, rfl⟩
                    replace H : (if 0 ≤ (ji19) then (if (ji19) < (x5_1.length : Int) then ((some (([wrap64 (rd x5_1 (ji10)), wrap64 (rd x5_1 (ji13)), wrap64 (rd x5_1 (ji16)), wrap64 (rd x5_1 (ji19))] : List Int) : List Int)).bind fun y146 => (if (wrap64 ((l0.length : Int) / 4)) = 0 then (none) else (if (Int.tmod x7_1 (wrap64 ((l0.length : Int) / 4))) = 0 then (if 1 < (y146.length : Int) then (if 0 ≤ (rd y146 1) then (if (rd y146 1) < (t133.length : Int) then (if 2 < (y146.length : Int) then (if 0 ≤ (rd y146 2) then (if (rd y146 2) < (t133.length : Int) then (if 3 < (y146.length : Int) then (if 0 ≤ (rd y146 3) then (if (rd y146 3) < (t133.length : Int) then (if 0 < (y146.length : Int) then (if 0 ≤ (rd y146 0) then (if (rd y146 0) < (t133.length : Int) then ((redoubtref08_Times.f k1 x6_1 2).bind fun t160 => (redoubtref08_Keys.j1 k1 t133 (wrap64 ((l0.length : Int) / 4)) x5_1 t160 x7_1 (([Go.bits .xor .i64 (rd t133 (rd y146 1)) x6_1, rd t133 (rd y146 2), rd t133 (rd y146 3), rd t133 (rd y146 0)] : List Int)))) else (none)) else (none)) else (none)) else (none)) else (none)) else (none)) else (none)) else (none)) else (none)) else (none)) else (none)) else (none)) else (if (wrap64 ((l0.length : Int) / 4)) = 8 then (if (Int.tmod x7_1 8) = 4 then (if 0 < (y146.length : Int) then (if 0 ≤ (rd y146 0) then (if (rd y146 0) < (t133.length : Int) then (if 1 < (y146.length : Int) then (if 0 ≤ (rd y146 1) then (if (rd y146 1) < (t133.length : Int) then (if 2 < (y146.length : Int) then (if 0 ≤ (rd y146 2) then (if (rd y146 2) < (t133.length : Int) then (if 3 < (y146.length : Int) then (if 0 ≤ (rd y146 3) then (if (rd y146 3) < (t133.length : Int) then (redoubtref08_Keys.j1 k1 t133 (wrap64 ((l0.length : Int) / 4)) x5_1 x6_1 x7_1 (([rd t133 (rd y146 0), rd t133 (rd y146 1), rd t133 (rd y146 2), rd t133 (rd y146 3)] : List Int))) else (none)) else (none)) else (none)) else (none)) else (none)) else (none)) else (none)) else (none)) else (none)) else (none)) else (none)) else (none)) else (redoubtref08_Keys.j1 k1 t133 (wrap64 ((l0.length : Int) / 4)) x5_1 x6_1 x7_1 y146)) else (redoubtref08_Keys.j1 k1 t133 (wrap64 ((l0.length : Int) / 4)) x5_1 x6_1 x7_1 y146))))) else (none)) else (none)) = some r := by first | (rw [hji19] at H; exact H) | (simp only [hji19] at H ⊢; exact H)
                    have hji19w : (IntKind.i64.wrap ((wrap64 (4 * x7_1)) - 1)) = ji19 := (i64_w _).trans hji19
                    by_cases c20 : 0 ≤ (ji19)
                    · rw [if_pos c20] at H
                      have c20b0 : decide (0 ≤ (ji19)) = true := decide_eq_true c20
                      clear c20
                      by_cases c21 : (ji19) < (x5_1.length : Int)
                      · rw [if_pos c21] at H
                        have c21b0 : decide ((ji19) < (x5_1.length : Int)) = true := decide_eq_true c21
                        clear c21
                        obtain ⟨y146, hy146⟩ : ∃ y_ : List Int, y_ = (([wrap64 (rd x5_1 (ji10)), wrap64 (rd x5_1 (ji13)), wrap64 (rd x5_1 (ji16)), wrap64 (rd x5_1 (ji19))] : List Int)) := ⟨_, rfl⟩
                        replace H : (if (wrap64 ((l0.length : Int) / 4)) = 0 then (none) else (if (Int.tmod x7_1 (wrap64 ((l0.length : Int) / 4))) = 0 then (if 1 < (y146.length : Int) then (if 0 ≤ (rd y146 1) then (if (rd y146 1) < (t133.length : Int) then (if 2 < (y146.length : Int) then (if 0 ≤ (rd y146 2) then (if (rd y146 2) < (t133.length : Int) then (if 3 < (y146.length : Int) then (if 0 ≤ (rd y146 3) then (if (rd y146 3) < (t133.length : Int) then (if 0 < (y146.length : Int) then (if 0 ≤ (rd y146 0) then (if (rd y146 0) < (t133.length : Int) then ((redoubtref08_Times.f k1 x6_1 2).bind fun t160 => (redoubtref08_Keys.j1 k1 t133 (wrap64 ((l0.length : Int) / 4)) x5_1 t160 x7_1 (([Go.bits .xor .i64 (rd t133 (rd y146 1)) x6_1, rd t133 (rd y146 2), rd t133 (rd y146 3), rd t133 (rd y146 0)] : List Int)))) else (none)) else (none)) else (none)) else (none)) else (none)) else (none)) else (none)) else (none)) else (none)) else (none)) else (none)) else (none)) else (if (wrap64 ((l0.length : Int) / 4)) = 8 then (if (Int.tmod x7_1 8) = 4 then (if 0 < (y146.length : Int) then (if 0 ≤ (rd y146 0) then (if (rd y146 0) < (t133.length : Int) then (if 1 < (y146.length : Int) then (if 0 ≤ (rd y146 1) then (if (rd y146 1) < (t133.length : Int) then (if 2 < (y146.length : Int) then (if 0 ≤ (rd y146 2) then (if (rd y146 2) < (t133.length : Int) then (if 3 < (y146.length : Int) then (if 0 ≤ (rd y146 3) then (if (rd y146 3) < (t133.length : Int) then (redoubtref08_Keys.j1 k1 t133 (wrap64 ((l0.length : Int) / 4)) x5_1 x6_1 x7_1 (([rd t133 (rd y146 0), rd t133 (rd y146 1), rd t133 (rd y146 2), rd t133 (rd y146 3)] : List Int))) else (none)) else (none)) else (none)) else (none)) else (none)) else (none)) else (none)) else (none)) else (none)) else (none)) else (none)) else (none)) else (redoubtref08_Keys.j1 k1 t133 (wrap64 ((l0.length : Int) / 4)) x5_1 x6_1 x7_1 y146)) else (redoubtref08_Keys.j1 k1 t133 (wrap64 ((l0.length : Int) / 4)) x5_1 x6_1 x7_1 y146)))) = some r := by first | (rw [hy146]; with_reducible exact H) | (have H2_ := (Option.bind_some _ _).symm.trans H; rw [hy146]; with_reducible exact H2_) | (have H2_ := (Option.bind_some _ _).symm.trans H; with_reducible exact H2_) | with_reducible exact H | (rw [hy146]; exact H) | exact H
                        have Ny146 := Aside0.mk hy146
                        clear hy146
                        by_cases c22 : (wrap64 ((l0.length : Int) / 4)) = 0
                        · rw [if_pos c22] at H
                          exact absurd H (by simp)
                        · rw [if_neg c22] at H
                          have c22b0 : ((wrap64 ((l0.length : Int) / 4)) == 0) = false := beq_eq_false_iff_ne.mpr c22
                          have c22b1 : ((wrap64 ((l0.length : Int) / 4)) != 0) = true := bne_iff_ne.mpr c22
                          have HC23 := Aside0.mk H
                          clear H
                          try go_wp2
                          have n0_ := Aside0.mk (Kd.R_drew HO_3.out)
                          have n1_ := Aside0.mk (Kd.R_drew HO_5.out)
                          have n2_ := Aside0.mk (below_drew1 HB.out)
                          clear HO_3
                          clear HO_5
                          clear HB
                          have HO_3 := n0_
                          have HO_5 := n1_
                          have HB := n2_
                          clear n0_ n1_ n2_
                          obtain ⟨Ao25, co25, eo25⟩ := Kd.R_slice HO_5.out
                          (first | subst eo25 | (injection eo25 with f1_ f2_ f3_; have f4_ := f1_.symm; have f5_ := f3_.symm; clear f1_ f2_ f3_; subst f4_; subst f5_))
                          have p142 : 0 ≤ ((ji10) : Int) := of_decide_eq_true (by first | (with_reducible assumption) | assumption)
                          have q142 : (ji10) < (x5_1.length : Int) := of_decide_eq_true (by first | (with_reducible assumption) | assumption)
                          obtain ⟨ad142, e142, hx142_0⟩ := Kd.at_int (Kd.R_reads' HO_5.out).2.2 (ji10) p142 q142
                          cases e142
                          replace p142 := eq_true p142
                          replace q142 := eq_true q142
                          have p143 : 0 ≤ ((ji13) : Int) := of_decide_eq_true (by first | (with_reducible assumption) | assumption)
                          have q143 : (ji13) < (x5_1.length : Int) := of_decide_eq_true (by first | (with_reducible assumption) | assumption)
                          obtain ⟨ad143, e143, hx143_0⟩ := Kd.at_int (Kd.R_reads' HO_5.out).2.2 (ji13) p143 q143
                          obtain rfl : ad142 = ad143 := (by injection e143)
                          replace p143 := eq_true p143
                          replace q143 := eq_true q143
                          have p144 : 0 ≤ ((ji16) : Int) := of_decide_eq_true (by first | (with_reducible assumption) | assumption)
                          have q144 : (ji16) < (x5_1.length : Int) := of_decide_eq_true (by first | (with_reducible assumption) | assumption)
                          obtain ⟨ad144, e144, hx144_0⟩ := Kd.at_int (Kd.R_reads' HO_5.out).2.2 (ji16) p144 q144
                          obtain rfl : ad142 = ad144 := (by injection e144)
                          replace p144 := eq_true p144
                          replace q144 := eq_true q144
                          have p145 : 0 ≤ ((ji19) : Int) := of_decide_eq_true (by first | (with_reducible assumption) | assumption)
                          have q145 : (ji19) < (x5_1.length : Int) := of_decide_eq_true (by first | (with_reducible assumption) | assumption)
                          obtain ⟨ad145, e145, hx145_0⟩ := Kd.at_int (Kd.R_reads' HO_5.out).2.2 (ji19) p145 q145
                          obtain rfl : ad142 = ad145 := (by injection e145)
                          replace p145 := eq_true p145
                          replace q145 := eq_true q145
                          refine start_ (n := 30) (S := fun w' => w'.cell? (ad142.add ((ji10)).toNat) = some (.int .u8 (rd x5_1 (ji10))) ∧ w'.cell? (ad142.add ((ji13)).toNat) = some (.int .u8 (rd x5_1 (ji13))) ∧ w'.cell? (ad142.add ((ji16)).toNat) = some (.int .u8 (rd x5_1 (ji16))) ∧ w'.cell? (ad142.add ((ji19)).toNat) = some (.int .u8 (rd x5_1 (ji19)))) (ds := []) #[false, false, false, false, false, false, false, false, false, false, false, false, false, false, false, false, false, false, false, false, false, false, false, false, false, false, false, false, false, false] (by kernel_rfl) rfl rfl ⟨hx142_0, hx143_0, hx144_0, hx145_0⟩ (fun hHeld => ?_); refine with_tabW redoubtref08_Keys.tab8 redoubtref08_Keys.bits8 (fun HT_ HW_ => ?_)
                          generalize wr.drew = w24 at HO_3 HO_5 HB hx142_0 hx143_0 hx144_0 hx145_0 hHeld ⊢
                          refine pure_ (i := 0) (N := some 25) (v := ?_) (a' := ?_) #[true, false, false, false, false, false, false, false, false, false, false, false, false, false, false, false, false, false, false, false, false, false, false, false, false, false, false, false, false, false] rfl rfl (any_of HT_.out (by kernel_rfl)) (fun _ _ _ h => h) (Or.inl ⟨by rfl, ?_⟩) ?_ ?_
                          rotate_left
                          · intro w'
                            go_simp
                            with_reducible rfl
                          rotate_left
                          · simp only [Act.put, List.setIfInBounds_toArray, List.set_cons_zero, List.set_cons_succ, i64_w, i32_w]
                            rfl
                          refine pure_ (i := 1) (N := some 26) (v := ?_) (a' := ?_) #[true, true, false, false, false, false, false, false, false, false, false, false, false, false, false, false, false, false, false, false, false, false, false, false, false, false, false, false, false, false] rfl rfl (any_of HT_.out (by kernel_rfl)) (fun _ _ _ h => h) (Or.inl ⟨by rfl, ?_⟩) ?_ ?_
                          rotate_left
                          · intro w'
                            go_simp
                            with_reducible rfl
                          rotate_left
                          · simp only [Act.put, List.setIfInBounds_toArray, List.set_cons_zero, List.set_cons_succ, i64_w, i32_w]
                            rfl
                          refine pure_ (i := 2) (N := some 27) (v := ?_) (a' := ?_) #[true, true, true, false, false, false, false, false, false, false, false, false, false, false, false, false, false, false, false, false, false, false, false, false, false, false, false, false, false, false] rfl rfl (any_of HT_.out (by kernel_rfl)) (fun _ _ _ h => h) (Or.inl ⟨by rfl, ?_⟩) ?_ ?_
                          rotate_left
                          · intro w'
                            go_simp
                            with_reducible rfl
                          rotate_left
                          · simp only [Act.put, List.setIfInBounds_toArray, List.set_cons_zero, List.set_cons_succ, i64_w, i32_w]
                            rfl
                          refine pure_ (i := 3) (N := some 28) (v := ?_) (a' := ?_) #[true, true, true, true, false, false, false, false, false, false, false, false, false, false, false, false, false, false, false, false, false, false, false, false, false, false, false, false, false, false] rfl rfl (any_of HT_.out (by kernel_rfl)) (fun _ _ _ h => h) (Or.inl ⟨by rfl, ?_⟩) ?_ ?_
                          rotate_left
                          · intro w'
                            go_simp
                            with_reducible rfl
                          rotate_left
                          · simp only [Act.put, List.setIfInBounds_toArray, List.set_cons_zero, List.set_cons_succ, i64_w, i32_w]
                            rfl
                          refine pure_ (i := 4) (N := some 29) (v := ?_) (a' := ?_) #[true, true, true, true, true, false, false, false, false, false, false, false, false, false, false, false, false, false, false, false, false, false, false, false, false, false, false, false, false, false] rfl rfl (any_of HT_.out (by kernel_rfl)) (fun _ _ _ h => h) (Or.inl ⟨by rfl, ?_⟩) ?_ ?_
                          rotate_left
                          · intro w'
                            go_simp
                            with_reducible rfl
                          rotate_left
                          · simp only [Act.put, List.setIfInBounds_toArray, List.set_cons_zero, List.set_cons_succ, i64_w, i32_w]
                            rfl
                          refine pure_ (i := 7) (N := some 32) (v := ?_) (a' := ?_) #[true, true, true, true, true, false, false, true, false, false, false, false, false, false, false, false, false, false, false, false, false, false, false, false, false, false, false, false, false, false] rfl rfl (any_of HT_.out (by kernel_rfl)) (fun _ _ _ h => h) (Or.inl ⟨by rfl, ?_⟩) ?_ ?_
                          rotate_left
                          · intro w'
                            go_simp
                            with_reducible rfl
                          rotate_left
                          · simp only [Act.put, List.setIfInBounds_toArray, List.set_cons_zero, List.set_cons_succ, i64_w, i32_w]
                            rfl
                          refine pure_ (i := 8) (N := some 33) (v := ?_) (a' := ?_) #[true, true, true, true, true, false, false, true, true, false, false, false, false, false, false, false, false, false, false, false, false, false, false, false, false, false, false, false, false, false] rfl rfl (any_of HT_.out (by kernel_rfl)) (fun _ _ _ h => h) (Or.inl ⟨by rfl, ?_⟩) ?_ ?_
                          rotate_left
                          · intro w'
                            go_simp
                            with_reducible rfl
                          rotate_left
                          · simp only [Act.put, List.setIfInBounds_toArray, List.set_cons_zero, List.set_cons_succ, i64_w, i32_w]
                            rfl
                          refine pure_ (i := 9) (N := some 34) (v := ?_) (a' := ?_) #[true, true, true, true, true, false, false, true, true, true, false, false, false, false, false, false, false, false, false, false, false, false, false, false, false, false, false, false, false, false] rfl rfl (any_of HT_.out (by kernel_rfl)) (fun _ _ _ h => h) (Or.inl ⟨by rfl, ?_⟩) ?_ ?_
                          rotate_left
                          · intro w'
                            go_simp
                            with_reducible rfl
                          rotate_left
                          · simp only [Act.put, List.setIfInBounds_toArray, List.set_cons_zero, List.set_cons_succ, i64_w, i32_w]
                            rfl
                          refine pure_ (i := 10) (N := some 35) (v := ?_) (a' := ?_) #[true, true, true, true, true, false, false, true, true, true, true, false, false, false, false, false, false, false, false, false, false, false, false, false, false, false, false, false, false, false] rfl rfl (any_of HT_.out (by kernel_rfl)) (fun _ _ _ h => h) (Or.inl ⟨by rfl, ?_⟩) ?_ ?_
                          rotate_left
                          · intro w'
                            go_simp
                            with_reducible rfl
                          rotate_left
                          · simp only [Act.put, List.setIfInBounds_toArray, List.set_cons_zero, List.set_cons_succ, i64_w, i32_w]
                            rfl
                          refine pure_ (i := 11) (N := some 36) (v := ?_) (a' := ?_) #[true, true, true, true, true, false, false, true, true, true, true, true, false, false, false, false, false, false, false, false, false, false, false, false, false, false, false, false, false, false] rfl rfl (any_of HT_.out (by kernel_rfl)) (fun _ _ _ h => h) (Or.inl ⟨by rfl, ?_⟩) ?_ ?_
                          rotate_left
                          · intro w'
                            go_simp
                            with_reducible rfl
                          rotate_left
                          · simp only [Act.put, List.setIfInBounds_toArray, List.set_cons_zero, List.set_cons_succ, i64_w, i32_w]
                            rfl
                          refine pure_ (i := 14) (N := some 39) (v := ?_) (a' := ?_) #[true, true, true, true, true, false, false, true, true, true, true, true, false, false, true, false, false, false, false, false, false, false, false, false, false, false, false, false, false, false] rfl rfl (any_of HT_.out (by kernel_rfl)) (fun _ _ _ h => h) (Or.inl ⟨by rfl, ?_⟩) ?_ ?_
                          rotate_left
                          · intro w'
                            go_simp
                            with_reducible rfl
                          rotate_left
                          · simp only [Act.put, List.setIfInBounds_toArray, List.set_cons_zero, List.set_cons_succ, i64_w, i32_w]
                            rfl
                          refine pure_ (i := 15) (N := some 40) (v := ?_) (a' := ?_) #[true, true, true, true, true, false, false, true, true, true, true, true, false, false, true, true, false, false, false, false, false, false, false, false, false, false, false, false, false, false] rfl rfl (any_of HT_.out (by kernel_rfl)) (fun _ _ _ h => h) (Or.inl ⟨by rfl, ?_⟩) ?_ ?_
                          rotate_left
                          · intro w'
                            go_simp
                            with_reducible rfl
                          rotate_left
                          · simp only [Act.put, List.setIfInBounds_toArray, List.set_cons_zero, List.set_cons_succ, i64_w, i32_w]
                            rfl
                          refine pure_ (i := 16) (N := some 41) (v := ?_) (a' := ?_) #[true, true, true, true, true, false, false, true, true, true, true, true, false, false, true, true, true, false, false, false, false, false, false, false, false, false, false, false, false, false] rfl rfl (any_of HT_.out (by kernel_rfl)) (fun _ _ _ h => h) (Or.inl ⟨by rfl, ?_⟩) ?_ ?_
                          rotate_left
                          · intro w'
                            go_simp
                            with_reducible rfl
                          rotate_left
                          · simp only [Act.put, List.setIfInBounds_toArray, List.set_cons_zero, List.set_cons_succ, i64_w, i32_w]
                            rfl
                          refine pure_ (i := 17) (N := some 42) (v := ?_) (a' := ?_) #[true, true, true, true, true, false, false, true, true, true, true, true, false, false, true, true, true, true, false, false, false, false, false, false, false, false, false, false, false, false] rfl rfl (any_of HT_.out (by kernel_rfl)) (fun _ _ _ h => h) (Or.inl ⟨by rfl, ?_⟩) ?_ ?_
                          rotate_left
                          · intro w'
                            go_simp
                            with_reducible rfl
                          rotate_left
                          · simp only [Act.put, List.setIfInBounds_toArray, List.set_cons_zero, List.set_cons_succ, i64_w, i32_w]
                            rfl
                          refine pure_ (i := 18) (N := some 43) (v := ?_) (a' := ?_) #[true, true, true, true, true, false, false, true, true, true, true, true, false, false, true, true, true, true, true, false, false, false, false, false, false, false, false, false, false, false] rfl rfl (any_of HT_.out (by kernel_rfl)) (fun _ _ _ h => h) (Or.inl ⟨by rfl, ?_⟩) ?_ ?_
                          rotate_left
                          · intro w'
                            go_simp
                            with_reducible rfl
                          rotate_left
                          · simp only [Act.put, List.setIfInBounds_toArray, List.set_cons_zero, List.set_cons_succ, i64_w, i32_w]
                            rfl
                          refine pure_ (i := 21) (N := some 46) (v := ?_) (a' := ?_) #[true, true, true, true, true, false, false, true, true, true, true, true, false, false, true, true, true, true, true, false, false, true, false, false, false, false, false, false, false, false] rfl rfl (any_of HT_.out (by kernel_rfl)) (fun _ _ _ h => h) (Or.inl ⟨by rfl, ?_⟩) ?_ ?_
                          rotate_left
                          · intro w'
                            go_simp
                            with_reducible rfl
                          rotate_left
                          · simp only [Act.put, List.setIfInBounds_toArray, List.set_cons_zero, List.set_cons_succ, i64_w, i32_w]
                            rfl
                          refine pure_ (i := 22) (N := some 47) (v := ?_) (a' := ?_) #[true, true, true, true, true, false, false, true, true, true, true, true, false, false, true, true, true, true, true, false, false, true, true, false, false, false, false, false, false, false] rfl rfl (any_of HT_.out (by kernel_rfl)) (fun _ _ _ h => h) (Or.inl ⟨by rfl, ?_⟩) ?_ ?_
                          rotate_left
                          · intro w'
                            go_simp
                            with_reducible rfl
                          rotate_left
                          · simp only [Act.put, List.setIfInBounds_toArray, List.set_cons_zero, List.set_cons_succ, i64_w, i32_w]
                            rfl
                          refine pure_ (i := 23) (N := some 48) (v := ?_) (a' := ?_) #[true, true, true, true, true, false, false, true, true, true, true, true, false, false, true, true, true, true, true, false, false, true, true, true, false, false, false, false, false, false] rfl rfl (any_of HT_.out (by kernel_rfl)) (fun _ _ _ h => h) (Or.inl ⟨by rfl, ?_⟩) ?_ ?_
                          rotate_left
                          · intro w'
                            go_simp
                            with_reducible rfl
                          rotate_left
                          · simp only [Act.put, List.setIfInBounds_toArray, List.set_cons_zero, List.set_cons_succ, i64_w, i32_w]
                            rfl
                          refine pure_ (i := 24) (N := some 49) (v := ?_) (a' := ?_) #[true, true, true, true, true, false, false, true, true, true, true, true, false, false, true, true, true, true, true, false, false, true, true, true, true, false, false, false, false, false] rfl rfl (any_of HT_.out (by kernel_rfl)) (fun _ _ _ h => h) (Or.inl ⟨by rfl, ?_⟩) ?_ ?_
                          rotate_left
                          · intro w'
                            go_simp
                            with_reducible rfl
                          rotate_left
                          · simp only [Act.put, List.setIfInBounds_toArray, List.set_cons_zero, List.set_cons_succ, i64_w, i32_w]
                            rfl
                          refine pure_ (i := 25) (N := some 50) (v := ?_) (a' := ?_) #[true, true, true, true, true, false, false, true, true, true, true, true, false, false, true, true, true, true, true, false, false, true, true, true, true, true, false, false, false, false] rfl rfl (any_of HT_.out (by kernel_rfl)) (fun _ _ _ h => h) (Or.inl ⟨by rfl, ?_⟩) ?_ ?_
                          rotate_left
                          · intro w'
                            go_simp
                            with_reducible rfl
                          rotate_left
                          · simp only [Act.put, List.setIfInBounds_toArray, List.set_cons_zero, List.set_cons_succ, i64_w, i32_w]
                            rfl
                          refine take_ (i := 5) (N := some 30) (v := ?_) (a' := ?_) #[true, true, true, true, true, true, false, true, true, true, true, true, false, false, true, true, true, true, true, false, false, true, true, true, true, true, false, false, false, false] rfl rfl (take_ofW HT_.out HW_.out (by kernel_rfl)) (fun _ _ _ h => h) (Or.inl ⟨by rfl, ?_⟩) hHeld ?_ ?_
                          rotate_left
                          · rintro w' ⟨s0, s1, s2, s3⟩
                            go_simp
                            with_reducible rfl
                          rotate_left
                          · simp only [Act.put, List.setIfInBounds_toArray, List.set_cons_zero, List.set_cons_succ, i64_w, i32_w]
                            rfl
                          refine pure_ (i := 6) (N := some 31) (v := ?_) (a' := ?_) #[true, true, true, true, true, true, true, true, true, true, true, true, false, false, true, true, true, true, true, false, false, true, true, true, true, true, false, false, false, false] rfl rfl (any_of HT_.out (by kernel_rfl)) (fun _ _ _ h => h) (Or.inl ⟨by rfl, ?_⟩) ?_ ?_
                          rotate_left
                          · intro w'
                            go_simp
                            with_reducible rfl
                          rotate_left
                          · simp only [Act.put, List.setIfInBounds_toArray, List.set_cons_zero, List.set_cons_succ, i64_w, i32_w]
                            rfl
                          refine take_ (i := 12) (N := some 37) (v := ?_) (a' := ?_) #[true, true, true, true, true, true, true, true, true, true, true, true, true, false, true, true, true, true, true, false, false, true, true, true, true, true, false, false, false, false] rfl rfl (take_ofW HT_.out HW_.out (by kernel_rfl)) (fun _ _ _ h => h) (Or.inl ⟨by rfl, ?_⟩) hHeld ?_ ?_
                          rotate_left
                          · rintro w' ⟨s0, s1, s2, s3⟩
                            go_simp
                            with_reducible rfl
                          rotate_left
                          · simp only [Act.put, List.setIfInBounds_toArray, List.set_cons_zero, List.set_cons_succ, i64_w, i32_w]
                            rfl
                          refine pure_ (i := 13) (N := some 38) (v := ?_) (a' := ?_) #[true, true, true, true, true, true, true, true, true, true, true, true, true, true, true, true, true, true, true, false, false, true, true, true, true, true, false, false, false, false] rfl rfl (any_of HT_.out (by kernel_rfl)) (fun _ _ _ h => h) (Or.inl ⟨by rfl, ?_⟩) ?_ ?_
                          rotate_left
                          · intro w'
                            go_simp
                            with_reducible rfl
                          rotate_left
                          · simp only [Act.put, List.setIfInBounds_toArray, List.set_cons_zero, List.set_cons_succ, i64_w, i32_w]
                            rfl
                          refine take_ (i := 19) (N := some 44) (v := ?_) (a' := ?_) #[true, true, true, true, true, true, true, true, true, true, true, true, true, true, true, true, true, true, true, true, false, true, true, true, true, true, false, false, false, false] rfl rfl (take_ofW HT_.out HW_.out (by kernel_rfl)) (fun _ _ _ h => h) (Or.inl ⟨by rfl, ?_⟩) hHeld ?_ ?_
                          rotate_left
                          · rintro w' ⟨s0, s1, s2, s3⟩
                            go_simp
                            with_reducible rfl
                          rotate_left
                          · simp only [Act.put, List.setIfInBounds_toArray, List.set_cons_zero, List.set_cons_succ, i64_w, i32_w]
                            rfl
                          refine pure_ (i := 20) (N := some 45) (v := ?_) (a' := ?_) #[true, true, true, true, true, true, true, true, true, true, true, true, true, true, true, true, true, true, true, true, true, true, true, true, true, true, false, false, false, false] rfl rfl (any_of HT_.out (by kernel_rfl)) (fun _ _ _ h => h) (Or.inl ⟨by rfl, ?_⟩) ?_ ?_
                          rotate_left
                          · intro w'
                            go_simp
                            with_reducible rfl
                          rotate_left
                          · simp only [Act.put, List.setIfInBounds_toArray, List.set_cons_zero, List.set_cons_succ, i64_w, i32_w]
                            rfl
                          refine take_ (i := 26) (N := some 51) (v := ?_) (a' := ?_) #[true, true, true, true, true, true, true, true, true, true, true, true, true, true, true, true, true, true, true, true, true, true, true, true, true, true, true, false, false, false] rfl rfl (take_ofW HT_.out HW_.out (by kernel_rfl)) (fun _ _ _ h => h) (Or.inl ⟨by rfl, ?_⟩) hHeld ?_ ?_
                          rotate_left
                          · rintro w' ⟨s0, s1, s2, s3⟩
                            go_simp
                            with_reducible rfl
                          rotate_left
                          · simp only [Act.put, List.setIfInBounds_toArray, List.set_cons_zero, List.set_cons_succ, i64_w, i32_w]
                            rfl
                          refine pure_ (i := 27) (N := some 52) (v := ?_) (a' := ?_) #[true, true, true, true, true, true, true, true, true, true, true, true, true, true, true, true, true, true, true, true, true, true, true, true, true, true, true, true, false, false] rfl rfl (any_of HT_.out (by kernel_rfl)) (fun _ _ _ h => h) (Or.inl ⟨by rfl, ?_⟩) ?_ ?_
                          rotate_left
                          · intro w'
                            go_simp
                            with_reducible rfl
                          rotate_left
                          · simp only [Act.put, List.setIfInBounds_toArray, List.set_cons_zero, List.set_cons_succ, i64_w, i32_w]
                            rfl
                          refine one_ (i := 28) (N := some 53) #[true, true, true, true, true, true, true, true, true, true, true, true, true, true, true, true, true, true, true, true, true, true, true, true, true, true, true, true, true, false] rfl rfl (one_of HT_.out (by kernel_rfl)) (by decide) (fun K hK => ?_)
                          refine Kd.R_lit_step (Kd.int .i64) _ 3 ?hg (N := 53) ?hd (xs := ([wrap64 (rd x5_1 (ji10)), wrap64 (rd x5_1 (ji13)), wrap64 (rd x5_1 (ji16)), wrap64 (rd x5_1 (ji19))] : List Int)) (inner := [.int .i64 (wrap64 (rd x5_1 (ji10))), .int .i64 (wrap64 (rd x5_1 (ji13))), .int .i64 (wrap64 (rd x5_1 (ji16))), .int .i64 (wrap64 (rd x5_1 (ji19)))]) (ok := fun _ => True) (okp := fun _ => True) ?hr ?hp (fun _ hk => hk) trivial (Below.refl _ _) (Nat.le_refl _) (by simp) ?_; (case hd => rfl); (case hg => rfl); (case hr => first | (go_simp; done) | (go_simp; rfl)); (case hp => exact (Reps.one (show Kd.M (Kd.int .i64) _ _ _ (wrap64 (rd x5_1 (ji10))) [.int .i64 (wrap64 (rd x5_1 (ji10)))] from rfl) (Reps.one (show Kd.M (Kd.int .i64) _ _ _ (wrap64 (rd x5_1 (ji13))) [.int .i64 (wrap64 (rd x5_1 (ji13)))] from rfl) (Reps.one (show Kd.M (Kd.int .i64) _ _ _ (wrap64 (rd x5_1 (ji16))) [.int .i64 (wrap64 (rd x5_1 (ji16)))] from rfl) (Reps.one (show Kd.M (Kd.int .i64) _ _ _ (wrap64 (rd x5_1 (ji19))) [.int .i64 (wrap64 (rd x5_1 (ji19)))] from rfl) (Reps.none _ _))))))
                          intro v147 w26 ho27 hb hg_ hnew_
                          have HS0_ := (hb.cell (World.block_lt_of_cell? _ _ (hHeld.1))).trans (hHeld.1)
                          have HS1_ := (hb.cell (World.block_lt_of_cell? _ _ (hHeld.2.1))).trans (hHeld.2.1)
                          have HS2_ := (hb.cell (World.block_lt_of_cell? _ _ (hHeld.2.2.1))).trans (hHeld.2.2.1)
                          have HS3_ := (hb.cell (World.block_lt_of_cell? _ _ (hHeld.2.2.2))).trans (hHeld.2.2.2)
                          clear hg_ hnew_
                          (first | rw [← Ny146.out] at ho27 | (simp only [Int.reduceToNat] at ho27; rw [← Ny146.out] at ho27))
                          have n0_ := Aside0.mk (Kd.R_elder' (by (with_reducible repeat (first | apply Kd.R_alloc | apply Kd.R_drewN | apply Kd.R_drew)); exact HO_3.out) (Kd.R_base ho27) hb)
                          have n1_ := Aside0.mk (Kd.R_below (by (with_reducible repeat (first | apply Kd.R_alloc | apply Kd.R_drewN | apply Kd.R_drew)); exact HO_5.out) hb)
                          have n2_ := Aside0.mk (Kd.R_lower (Kd.R_new' (Kd.R_newM (M := fun k_ => (w.heap.size ≤ k_)) ho27 (below_size (by repeat (first | (with_reducible first | exact HB.out | apply below_alloc | apply pw_below_drewN | apply below_drew1) | exact HB.out))) (fun k_ h_ => h_)) (Kd.R_lt (by (with_reducible repeat (first | apply Kd.R_alloc | apply Kd.R_drewN | apply Kd.R_drew)); exact HO_3.out))) (below_size (by repeat (first | (with_reducible first | exact HB.out | apply below_alloc | apply pw_below_drewN | apply below_drew1) | exact HB.out))))
                          have n3_ := Aside0.mk (below_step (by repeat (first | (with_reducible first | exact HB.out | apply below_alloc | apply pw_below_drewN | apply below_drew1) | exact HB.out)) hb)
                          clear HO_3
                          clear HO_5
                          clear HB
                          have HO_3 := n0_
                          have HO_5 := n1_
                          have HO148 := n2_
                          have HB := n3_
                          clear n0_ n1_ n2_ n3_
                          clear hb ho27
                          refine hK.out _ _ ⟨HS0_, HS1_, HS2_, HS3_⟩ (fun hHeld => ?_)
                          clear hK K
                          refine norm_ (a' := ?_) ?_ ?_
                          rotate_left
                          · show Act.put _ (some 53) _ = _
                            simp only [Act.put, List.setIfInBounds_toArray, List.set_cons_zero, List.set_cons_succ, i64_w, i32_w]
                            rfl
                          refine pure_ (i := 29) (N := some 8) (v := ?_) (a' := ?_) #[true, true, true, true, true, true, true, true, true, true, true, true, true, true, true, true, true, true, true, true, true, true, true, true, true, true, true, true, true, true] rfl rfl (any_of HT_.out (by kernel_rfl)) (fun _ _ _ h => h) (Or.inl ⟨by rfl, ?_⟩) ?_ ?_
                          rotate_left
                          · intro w'
                            go_simp
                            with_reducible rfl
                          rotate_left
                          · simp only [Act.put, List.setIfInBounds_toArray, List.set_cons_zero, List.set_cons_succ, i64_w, i32_w]
                            rfl
                          refine done_ (done_of HT_.out (by kernel_rfl)) ?_
                          go_upto_if 57 with (fail)
                          go_cut [6, 8] (fun v6 v8 wc => ∃ (kq : Nat) (x6_22 : Int) (x8_22 : List Int), v6 = .int .i64 x6_22 ∧ Aside0 (redoubtref08_Keys.j1 kq t133 (wrap64 ((l0.length : Int) / 4)) x5_1 x6_22 x7_1 x8_22 = some r) ∧ Aside0 (kq ≤ k1) ∧ Aside0 (Kd.R (Kd.int .i64) 3 wc w.heap.size (fun k_ => (w.heap.size ≤ k_) ∧ some k_ ≠ (v8 : Value).ownBlock) v134 t133) ∧ Aside0 (Kd.R (Kd.int .u8) 5 wc w.heap.size (fun k_ => (w.heap.size ≤ k_)) (.slice (some ad142) x5_1.length co25) x5_1) ∧ Aside0 (Kd.R (Kd.int .i64) 3 wc w.heap.size (fun k_ => (w.heap.size ≤ k_) ∧ some k_ ≠ (v134 : Value).ownBlock) v8 x8_22) ∧ Aside0 (Below w.heap.size w wc))
                          case first =>
                            have H := HC23.out
                            clear HC23
                            by_cases c28 : (Int.tmod x7_1 (wrap64 ((l0.length : Int) / 4))) = 0
                            · rw [if_pos c28] at H
                              have c28b0 : ((Int.tmod x7_1 (wrap64 ((l0.length : Int) / 4))) == 0) = true := beq_iff_eq.mpr c28
                              have c28b1 : ((Int.tmod x7_1 (wrap64 ((l0.length : Int) / 4))) != 0) = false := bne_eq_false_iff_eq.mpr c28
                              clear c28
                              (first | rw [c28b0] | (simp only [i64_w, i32_w]; rw [c28b0]) | skip)
                              by_cases c29 : 1 < (y146.length : Int)
                              · rw [if_pos c29] at H
                                have c29b0 : decide (1 < (y146.length : Int)) = true := decide_eq_true c29
                                have c29b1 : decide (1 < y146.length) = true := decide_eq_true (by omega)
                                clear c29
                                by_cases c30 : 0 ≤ (rd y146 1)
                                · rw [if_pos c30] at H
                                  have c30b0 : decide (0 ≤ (rd y146 1)) = true := decide_eq_true c30
                                  clear c30
                                  by_cases c31 : (rd y146 1) < (t133.length : Int)
                                  · rw [if_pos c31] at H
                                    have c31b0 : decide ((rd y146 1) < (t133.length : Int)) = true := decide_eq_true c31
                                    clear c31
                                    by_cases c32 : 2 < (y146.length : Int)
                                    · rw [if_pos c32] at H
                                      have c32b0 : decide (2 < (y146.length : Int)) = true := decide_eq_true c32
                                      have c32b1 : decide (2 < y146.length) = true := decide_eq_true (by omega)
                                      clear c32
                                      by_cases c33 : 0 ≤ (rd y146 2)
                                      · rw [if_pos c33] at H
                                        have c33b0 : decide (0 ≤ (rd y146 2)) = true := decide_eq_true c33
                                        clear c33
                                        by_cases c34 : (rd y146 2) < (t133.length : Int)
                                        · rw [if_pos c34] at H
                                          have c34b0 : decide ((rd y146 2) < (t133.length : Int)) = true := decide_eq_true c34
                                          clear c34
                                          by_cases c35 : 3 < (y146.length : Int)
                                          · rw [if_pos c35] at H
                                            have c35b0 : decide (3 < (y146.length : Int)) = true := decide_eq_true c35
                                            have c35b1 : decide (3 < y146.length) = true := decide_eq_true (by omega)
                                            clear c35
                                            by_cases c36 : 0 ≤ (rd y146 3)
                                            · rw [if_pos c36] at H
                                              have c36b0 : decide (0 ≤ (rd y146 3)) = true := decide_eq_true c36
                                              clear c36
                                              by_cases c37 : (rd y146 3) < (t133.length : Int)
                                              · rw [if_pos c37] at H
                                                have c37b0 : decide ((rd y146 3) < (t133.length : Int)) = true := decide_eq_true c37
                                                clear c37
                                                by_cases c38 : 0 < (y146.length : Int)
                                                · rw [if_pos c38] at H
                                                  have c38b0 : decide (0 < (y146.length : Int)) = true := decide_eq_true c38
                                                  have c38b1 : decide (0 < y146.length) = true := decide_eq_true (by omega)
                                                  clear c38
                                                  by_cases c39 : 0 ≤ (rd y146 0)
                                                  · rw [if_pos c39] at H
                                                    have c39b0 : decide (0 ≤ (rd y146 0)) = true := decide_eq_true c39
                                                    clear c39
                                                    by_cases c40 : (rd y146 0) < (t133.length : Int)
                                                    · rw [if_pos c40] at H
                                                      have c40b0 : decide ((rd y146 0) < (t133.length : Int)) = true := decide_eq_true c40
                                                      clear c40
                                                      obtain ⟨y157, hy157⟩ : ∃ y_ : List Int, y_ = (([Go.bits .xor .i64 (rd t133 (rd y146 1)) x6_1, rd t133 (rd y146 2), rd t133 (rd y146 3), rd t133 (rd y146 0)] : List Int)) := ⟨_, rfl⟩
                                                      replace H : ((redoubtref08_Times.f k1 x6_1 2).bind fun t160 => (redoubtref08_Keys.j1 k1 t133 (wrap64 ((l0.length : Int) / 4)) x5_1 t160 x7_1 y157)) = some r := by first | (rw [hy157]; with_reducible exact H) | (have H2_ := (Option.bind_some _ _).symm.trans H; rw [hy157]; with_reducible exact H2_) | (have H2_ := (Option.bind_some _ _).symm.trans H; with_reducible exact H2_) | with_reducible exact H | (rw [hy157]; exact H) | exact H
                                                      have Ny157 := Aside0.mk hy157
                                                      clear hy157
                                                      replace H := Option.bind_eq_some_iff.mp H
                                                      obtain ⟨t160, A410, H⟩ := H
                                                      replace H : (redoubtref08_Keys.j1 k1 t133 (wrap64 ((l0.length : Int) / 4)) x5_1 t160 x7_1 y157) = some r := H
                                                      have A41 := Aside0.mk A410
                                                      clear A410
                                                      have H' := Aside0.mk H
                                                      clear H
                                                      try go_wp2
                                                      have n0_ := Aside0.mk (Kd.R_drew HO_3.out)
                                                      have n1_ := Aside0.mk (Kd.R_drew HO_5.out)
                                                      have n2_ := Aside0.mk (Kd.R_drew HO148.out)
                                                      have n3_ := Aside0.mk (below_drew1 HB.out)
                                                      clear HO_3
                                                      clear HO_5
                                                      clear HO148
                                                      clear HB
                                                      have HO_3 := n0_
                                                      have HO_5 := n1_
                                                      have HO148 := n2_
                                                      have HB := n3_
                                                      clear n0_ n1_ n2_ n3_
                                                      obtain ⟨Ao43, co43, eo43⟩ := Kd.R_slice HO148.out
                                                      (first | subst eo43 | (injection eo43 with f1_ f2_ f3_; have f4_ := f1_.symm; have f5_ := f3_.symm; clear f1_ f2_ f3_; subst f4_; subst f5_))
                                                      have p149 : 0 ≤ (1 : Int) := (by omega)
                                                      have q149 : 1 < (y146.length : Int) := of_decide_eq_true (by first | (with_reducible assumption) | assumption)
                                                      obtain ⟨ad149, e149, hx149_0⟩ := Kd.at_int (Kd.R_reads' HO148.out).2.2 1 p149 q149
                                                      cases e149
                                                      (try simp only [show (1 : Int).toNat = 1 from rfl, Nat.reduceMul, Nat.reduceEqDiff, Go.Addr.add, ↓reduceIte] at hx149_0)
                                                      have qi149 : (1 < y146.length) = True := eq_true (by omega)
                                                      (try rw [show ((1 : Int)).toNat = 1 from rfl] at hx149_0)
                                                      replace p149 := eq_true p149
                                                      replace q149 := eq_true q149
                                                      obtain ⟨Ao44, co44, eo44⟩ := Kd.R_slice HO_3.out
                                                      (first | subst eo44 | (injection eo44 with f1_ f2_ f3_; have f4_ := f1_.symm; have f5_ := f3_.symm; clear f1_ f2_ f3_; subst f4_; subst f5_))
                                                      have p150 : 0 ≤ ((rd y146 1) : Int) := of_decide_eq_true (by first | (with_reducible assumption) | assumption)
                                                      have q150 : (rd y146 1) < (t133.length : Int) := of_decide_eq_true (by first | (with_reducible assumption) | assumption)
                                                      obtain ⟨ad150, e150, hx150_0⟩ := Kd.at_int (Kd.R_reads' HO_3.out).2.2 (rd y146 1) p150 q150
                                                      cases e150
                                                      replace p150 := eq_true p150
                                                      replace q150 := eq_true q150
                                                      have p151 : 0 ≤ (2 : Int) := (by omega)
                                                      have q151 : 2 < (y146.length : Int) := of_decide_eq_true (by first | (with_reducible assumption) | assumption)
                                                      obtain ⟨ad151, e151, hx151_0⟩ := Kd.at_int (Kd.R_reads' HO148.out).2.2 2 p151 q151
                                                      obtain rfl : ad149 = ad151 := (by injection e151)
                                                      (try simp only [show (2 : Int).toNat = 2 from rfl, Nat.reduceMul, Nat.reduceEqDiff, Go.Addr.add, ↓reduceIte] at hx151_0)
                                                      have qi151 : (2 < y146.length) = True := eq_true (by omega)
                                                      (try rw [show ((2 : Int)).toNat = 2 from rfl] at hx151_0)
                                                      replace p151 := eq_true p151
                                                      replace q151 := eq_true q151
                                                      have p152 : 0 ≤ ((rd y146 2) : Int) := of_decide_eq_true (by first | (with_reducible assumption) | assumption)
                                                      have q152 : (rd y146 2) < (t133.length : Int) := of_decide_eq_true (by first | (with_reducible assumption) | assumption)
                                                      obtain ⟨ad152, e152, hx152_0⟩ := Kd.at_int (Kd.R_reads' HO_3.out).2.2 (rd y146 2) p152 q152
                                                      obtain rfl : ad150 = ad152 := (by injection e152)
                                                      replace p152 := eq_true p152
                                                      replace q152 := eq_true q152
                                                      have p153 : 0 ≤ (3 : Int) := (by omega)
                                                      have q153 : 3 < (y146.length : Int) := of_decide_eq_true (by first | (with_reducible assumption) | assumption)
                                                      obtain ⟨ad153, e153, hx153_0⟩ := Kd.at_int (Kd.R_reads' HO148.out).2.2 3 p153 q153
                                                      obtain rfl : ad149 = ad153 := (by injection e153)
                                                      (try simp only [show (3 : Int).toNat = 3 from rfl, Nat.reduceMul, Nat.reduceEqDiff, Go.Addr.add, ↓reduceIte] at hx153_0)
                                                      have qi153 : (3 < y146.length) = True := eq_true (by omega)
                                                      (try rw [show ((3 : Int)).toNat = 3 from rfl] at hx153_0)
                                                      replace p153 := eq_true p153
                                                      replace q153 := eq_true q153
                                                      have p154 : 0 ≤ ((rd y146 3) : Int) := of_decide_eq_true (by first | (with_reducible assumption) | assumption)
                                                      have q154 : (rd y146 3) < (t133.length : Int) := of_decide_eq_true (by first | (with_reducible assumption) | assumption)
                                                      obtain ⟨ad154, e154, hx154_0⟩ := Kd.at_int (Kd.R_reads' HO_3.out).2.2 (rd y146 3) p154 q154
                                                      obtain rfl : ad150 = ad154 := (by injection e154)
                                                      replace p154 := eq_true p154
                                                      replace q154 := eq_true q154
                                                      have p155 : 0 ≤ (0 : Int) := (by omega)
                                                      have q155 : 0 < (y146.length : Int) := of_decide_eq_true (by first | (with_reducible assumption) | assumption)
                                                      obtain ⟨ad155, e155, hx155_0⟩ := Kd.at_int (Kd.R_reads' HO148.out).2.2 0 p155 q155
                                                      obtain rfl : ad149 = ad155 := (by injection e155)
                                                      have qi155 : (0 < y146.length) = True := eq_true (by omega)
                                                      (try rw [show ((0 : Int)).toNat = 0 from rfl] at hx155_0)
                                                      (try rw [Addr.add_zero'] at hx155_0)
                                                      replace p155 := eq_true p155
                                                      replace q155 := eq_true q155
                                                      have p156 : 0 ≤ ((rd y146 0) : Int) := of_decide_eq_true (by first | (with_reducible assumption) | assumption)
                                                      have q156 : (rd y146 0) < (t133.length : Int) := of_decide_eq_true (by first | (with_reducible assumption) | assumption)
                                                      obtain ⟨ad156, e156, hx156_0⟩ := Kd.at_int (Kd.R_reads' HO_3.out).2.2 (rd y146 0) p156 q156
                                                      obtain rfl : ad150 = ad156 := (by injection e156)
                                                      replace p156 := eq_true p156
                                                      replace q156 := eq_true q156
                                                      refine start_ (n := 28) (S := fun w' => w'.cell? ⟨ad149.block, ad149.off + 1, none⟩ = some (.int .i64 (rd y146 1)) ∧ w'.cell? (ad150.add ((rd y146 1)).toNat) = some (.int .i64 (rd t133 (rd y146 1))) ∧ w'.cell? ⟨ad149.block, ad149.off + 2, none⟩ = some (.int .i64 (rd y146 2)) ∧ w'.cell? (ad150.add ((rd y146 2)).toNat) = some (.int .i64 (rd t133 (rd y146 2))) ∧ w'.cell? ⟨ad149.block, ad149.off + 3, none⟩ = some (.int .i64 (rd y146 3)) ∧ w'.cell? (ad150.add ((rd y146 3)).toNat) = some (.int .i64 (rd t133 (rd y146 3))) ∧ w'.cell? ad149 = some (.int .i64 (rd y146 0)) ∧ w'.cell? (ad150.add ((rd y146 0)).toNat) = some (.int .i64 (rd t133 (rd y146 0)))) (ds := []) #[false, false, false, false, false, false, false, false, false, false, false, false, false, false, false, false, false, false, false, false, false, false, false, false, false, false, false, false] (by kernel_rfl) rfl rfl ⟨hx149_0, hx150_0, hx151_0, hx152_0, hx153_0, hx154_0, hx155_0, hx156_0⟩ (fun hHeld => ?_); refine with_tabW redoubtref08_Keys.tab10 redoubtref08_Keys.bits10 (fun HT_ HW_ => ?_)
                                                      generalize w26.drew = w42 at HO_3 HO_5 HO148 HB hx149_0 hx150_0 hx151_0 hx152_0 hx153_0 hx154_0 hx155_0 hx156_0 hHeld ⊢
                                                      refine pure_ (i := 0) (N := some 58) (v := ?_) (a' := ?_) #[true, false, false, false, false, false, false, false, false, false, false, false, false, false, false, false, false, false, false, false, false, false, false, false, false, false, false, false] rfl rfl (any_of HT_.out (by kernel_rfl)) (fun _ _ _ h => h) (Or.inl ⟨by rfl, ?_⟩) ?_ ?_
                                                      rotate_left
                                                      · intro w'
                                                        go_simp
                                                        with_reducible rfl
                                                      rotate_left
                                                      · simp only [Act.put, List.setIfInBounds_toArray, List.set_cons_zero, List.set_cons_succ, i64_w, i32_w]
                                                        rfl
                                                      refine pure_ (i := 1) (N := some 59) (v := ?_) (a' := ?_) #[true, true, false, false, false, false, false, false, false, false, false, false, false, false, false, false, false, false, false, false, false, false, false, false, false, false, false, false] rfl rfl (any_of HT_.out (by kernel_rfl)) (fun _ _ _ h => h) (Or.inl ⟨by rfl, ?_⟩) ?_ ?_
                                                      rotate_left
                                                      · intro w'
                                                        go_simp
                                                        with_reducible rfl
                                                      rotate_left
                                                      · simp only [Act.put, List.setIfInBounds_toArray, List.set_cons_zero, List.set_cons_succ, i64_w, i32_w]
                                                        rfl
                                                      refine pure_ (i := 2) (N := some 60) (v := ?_) (a' := ?_) #[true, true, true, false, false, false, false, false, false, false, false, false, false, false, false, false, false, false, false, false, false, false, false, false, false, false, false, false] rfl rfl (any_of HT_.out (by kernel_rfl)) (fun _ _ _ h => h) (Or.inl ⟨by rfl, ?_⟩) ?_ ?_
                                                      rotate_left
                                                      · intro w'
                                                        go_simp
                                                        with_reducible rfl
                                                      rotate_left
                                                      · simp only [Act.put, List.setIfInBounds_toArray, List.set_cons_zero, List.set_cons_succ, i64_w, i32_w]
                                                        rfl
                                                      refine pure_ (i := 6) (N := some 64) (v := ?_) (a' := ?_) #[true, true, true, false, false, false, true, false, false, false, false, false, false, false, false, false, false, false, false, false, false, false, false, false, false, false, false, false] rfl rfl (any_of HT_.out (by kernel_rfl)) (fun _ _ _ h => h) (Or.inl ⟨by rfl, ?_⟩) ?_ ?_
                                                      rotate_left
                                                      · intro w'
                                                        go_simp
                                                        with_reducible rfl
                                                      rotate_left
                                                      · simp only [Act.put, List.setIfInBounds_toArray, List.set_cons_zero, List.set_cons_succ, i64_w, i32_w]
                                                        rfl
                                                      refine pure_ (i := 8) (N := some 66) (v := ?_) (a' := ?_) #[true, true, true, false, false, false, true, false, true, false, false, false, false, false, false, false, false, false, false, false, false, false, false, false, false, false, false, false] rfl rfl (any_of HT_.out (by kernel_rfl)) (fun _ _ _ h => h) (Or.inl ⟨by rfl, ?_⟩) ?_ ?_
                                                      rotate_left
                                                      · intro w'
                                                        go_simp
                                                        with_reducible rfl
                                                      rotate_left
                                                      · simp only [Act.put, List.setIfInBounds_toArray, List.set_cons_zero, List.set_cons_succ, i64_w, i32_w]
                                                        rfl
                                                      refine pure_ (i := 9) (N := some 67) (v := ?_) (a' := ?_) #[true, true, true, false, false, false, true, false, true, true, false, false, false, false, false, false, false, false, false, false, false, false, false, false, false, false, false, false] rfl rfl (any_of HT_.out (by kernel_rfl)) (fun _ _ _ h => h) (Or.inl ⟨by rfl, ?_⟩) ?_ ?_
                                                      rotate_left
                                                      · intro w'
                                                        go_simp
                                                        with_reducible rfl
                                                      rotate_left
                                                      · simp only [Act.put, List.setIfInBounds_toArray, List.set_cons_zero, List.set_cons_succ, i64_w, i32_w]
                                                        rfl
                                                      refine pure_ (i := 10) (N := some 68) (v := ?_) (a' := ?_) #[true, true, true, false, false, false, true, false, true, true, true, false, false, false, false, false, false, false, false, false, false, false, false, false, false, false, false, false] rfl rfl (any_of HT_.out (by kernel_rfl)) (fun _ _ _ h => h) (Or.inl ⟨by rfl, ?_⟩) ?_ ?_
                                                      rotate_left
                                                      · intro w'
                                                        go_simp
                                                        with_reducible rfl
                                                      rotate_left
                                                      · simp only [Act.put, List.setIfInBounds_toArray, List.set_cons_zero, List.set_cons_succ, i64_w, i32_w]
                                                        rfl
                                                      refine pure_ (i := 14) (N := some 72) (v := ?_) (a' := ?_) #[true, true, true, false, false, false, true, false, true, true, true, false, false, false, true, false, false, false, false, false, false, false, false, false, false, false, false, false] rfl rfl (any_of HT_.out (by kernel_rfl)) (fun _ _ _ h => h) (Or.inl ⟨by rfl, ?_⟩) ?_ ?_
                                                      rotate_left
                                                      · intro w'
                                                        go_simp
                                                        with_reducible rfl
                                                      rotate_left
                                                      · simp only [Act.put, List.setIfInBounds_toArray, List.set_cons_zero, List.set_cons_succ, i64_w, i32_w]
                                                        rfl
                                                      refine pure_ (i := 15) (N := some 73) (v := ?_) (a' := ?_) #[true, true, true, false, false, false, true, false, true, true, true, false, false, false, true, true, false, false, false, false, false, false, false, false, false, false, false, false] rfl rfl (any_of HT_.out (by kernel_rfl)) (fun _ _ _ h => h) (Or.inl ⟨by rfl, ?_⟩) ?_ ?_
                                                      rotate_left
                                                      · intro w'
                                                        go_simp
                                                        with_reducible rfl
                                                      rotate_left
                                                      · simp only [Act.put, List.setIfInBounds_toArray, List.set_cons_zero, List.set_cons_succ, i64_w, i32_w]
                                                        rfl
                                                      refine pure_ (i := 16) (N := some 74) (v := ?_) (a' := ?_) #[true, true, true, false, false, false, true, false, true, true, true, false, false, false, true, true, true, false, false, false, false, false, false, false, false, false, false, false] rfl rfl (any_of HT_.out (by kernel_rfl)) (fun _ _ _ h => h) (Or.inl ⟨by rfl, ?_⟩) ?_ ?_
                                                      rotate_left
                                                      · intro w'
                                                        go_simp
                                                        with_reducible rfl
                                                      rotate_left
                                                      · simp only [Act.put, List.setIfInBounds_toArray, List.set_cons_zero, List.set_cons_succ, i64_w, i32_w]
                                                        rfl
                                                      refine pure_ (i := 20) (N := some 78) (v := ?_) (a' := ?_) #[true, true, true, false, false, false, true, false, true, true, true, false, false, false, true, true, true, false, false, false, true, false, false, false, false, false, false, false] rfl rfl (any_of HT_.out (by kernel_rfl)) (fun _ _ _ h => h) (Or.inl ⟨by rfl, ?_⟩) ?_ ?_
                                                      rotate_left
                                                      · intro w'
                                                        go_simp
                                                        with_reducible rfl
                                                      rotate_left
                                                      · simp only [Act.put, List.setIfInBounds_toArray, List.set_cons_zero, List.set_cons_succ, i64_w, i32_w]
                                                        rfl
                                                      refine pure_ (i := 21) (N := some 79) (v := ?_) (a' := ?_) #[true, true, true, false, false, false, true, false, true, true, true, false, false, false, true, true, true, false, false, false, true, true, false, false, false, false, false, false] rfl rfl (any_of HT_.out (by kernel_rfl)) (fun _ _ _ h => h) (Or.inl ⟨by rfl, ?_⟩) ?_ ?_
                                                      rotate_left
                                                      · intro w'
                                                        go_simp
                                                        with_reducible rfl
                                                      rotate_left
                                                      · simp only [Act.put, List.setIfInBounds_toArray, List.set_cons_zero, List.set_cons_succ, i64_w, i32_w]
                                                        rfl
                                                      refine pure_ (i := 22) (N := some 80) (v := ?_) (a' := ?_) #[true, true, true, false, false, false, true, false, true, true, true, false, false, false, true, true, true, false, false, false, true, true, true, false, false, false, false, false] rfl rfl (any_of HT_.out (by kernel_rfl)) (fun _ _ _ h => h) (Or.inl ⟨by rfl, ?_⟩) ?_ ?_
                                                      rotate_left
                                                      · intro w'
                                                        go_simp
                                                        with_reducible rfl
                                                      rotate_left
                                                      · simp only [Act.put, List.setIfInBounds_toArray, List.set_cons_zero, List.set_cons_succ, i64_w, i32_w]
                                                        rfl
                                                      refine take_ (i := 3) (N := some 61) (v := ?_) (a' := ?_) #[true, true, true, true, false, false, true, false, true, true, true, false, false, false, true, true, true, false, false, false, true, true, true, false, false, false, false, false] rfl rfl (take_ofW HT_.out HW_.out (by kernel_rfl)) (fun _ _ _ h => h) (Or.inl ⟨by rfl, ?_⟩) hHeld ?_ ?_
                                                      rotate_left
                                                      · rintro w' ⟨s0, s1, s2, s3, s4, s5, s6, s7⟩
                                                        go_simp
                                                        with_reducible rfl
                                                      rotate_left
                                                      · simp only [Act.put, List.setIfInBounds_toArray, List.set_cons_zero, List.set_cons_succ, i64_w, i32_w]
                                                        rfl
                                                      refine pure_ (i := 4) (N := some 62) (v := ?_) (a' := ?_) #[true, true, true, true, true, false, true, false, true, true, true, false, false, false, true, true, true, false, false, false, true, true, true, false, false, false, false, false] rfl rfl (any_of HT_.out (by kernel_rfl)) (fun _ _ _ h => h) (Or.inl ⟨by rfl, ?_⟩) ?_ ?_
                                                      rotate_left
                                                      · intro w'
                                                        go_simp
                                                        with_reducible rfl
                                                      rotate_left
                                                      · simp only [Act.put, List.setIfInBounds_toArray, List.set_cons_zero, List.set_cons_succ, i64_w, i32_w]
                                                        rfl
                                                      refine take_ (i := 5) (N := some 63) (v := ?_) (a' := ?_) #[true, true, true, true, true, true, true, false, true, true, true, false, false, false, true, true, true, false, false, false, true, true, true, false, false, false, false, false] rfl rfl (take_ofW HT_.out HW_.out (by kernel_rfl)) (fun _ _ _ h => h) (Or.inl ⟨by rfl, ?_⟩) hHeld ?_ ?_
                                                      rotate_left
                                                      · rintro w' ⟨s0, s1, s2, s3, s4, s5, s6, s7⟩
                                                        go_simp
                                                        with_reducible rfl
                                                      rotate_left
                                                      · simp only [Act.put, List.setIfInBounds_toArray, List.set_cons_zero, List.set_cons_succ, i64_w, i32_w]
                                                        rfl
                                                      refine pure_ (i := 7) (N := some 65) (v := ?_) (a' := ?_) #[true, true, true, true, true, true, true, true, true, true, true, false, false, false, true, true, true, false, false, false, true, true, true, false, false, false, false, false] rfl rfl (any_of HT_.out (by kernel_rfl)) (fun _ _ _ h => h) (Or.inl ⟨by rfl, ?_⟩) ?_ ?_
                                                      rotate_left
                                                      · intro w'
                                                        go_simp
                                                        with_reducible rfl
                                                      rotate_left
                                                      · simp only [Act.put, List.setIfInBounds_toArray, List.set_cons_zero, List.set_cons_succ, i64_w, i32_w]
                                                        rfl
                                                      refine take_ (i := 11) (N := some 69) (v := ?_) (a' := ?_) #[true, true, true, true, true, true, true, true, true, true, true, true, false, false, true, true, true, false, false, false, true, true, true, false, false, false, false, false] rfl rfl (take_ofW HT_.out HW_.out (by kernel_rfl)) (fun _ _ _ h => h) (Or.inl ⟨by rfl, ?_⟩) hHeld ?_ ?_
                                                      rotate_left
                                                      · rintro w' ⟨s0, s1, s2, s3, s4, s5, s6, s7⟩
                                                        go_simp
                                                        with_reducible rfl
                                                      rotate_left
                                                      · simp only [Act.put, List.setIfInBounds_toArray, List.set_cons_zero, List.set_cons_succ, i64_w, i32_w]
                                                        rfl
                                                      refine pure_ (i := 12) (N := some 70) (v := ?_) (a' := ?_) #[true, true, true, true, true, true, true, true, true, true, true, true, true, false, true, true, true, false, false, false, true, true, true, false, false, false, false, false] rfl rfl (any_of HT_.out (by kernel_rfl)) (fun _ _ _ h => h) (Or.inl ⟨by rfl, ?_⟩) ?_ ?_
                                                      rotate_left
                                                      · intro w'
                                                        go_simp
                                                        with_reducible rfl
                                                      rotate_left
                                                      · simp only [Act.put, List.setIfInBounds_toArray, List.set_cons_zero, List.set_cons_succ, i64_w, i32_w]
                                                        rfl
                                                      refine take_ (i := 13) (N := some 71) (v := ?_) (a' := ?_) #[true, true, true, true, true, true, true, true, true, true, true, true, true, true, true, true, true, false, false, false, true, true, true, false, false, false, false, false] rfl rfl (take_ofW HT_.out HW_.out (by kernel_rfl)) (fun _ _ _ h => h) (Or.inl ⟨by rfl, ?_⟩) hHeld ?_ ?_
                                                      rotate_left
                                                      · rintro w' ⟨s0, s1, s2, s3, s4, s5, s6, s7⟩
                                                        go_simp
                                                        with_reducible rfl
                                                      rotate_left
                                                      · simp only [Act.put, List.setIfInBounds_toArray, List.set_cons_zero, List.set_cons_succ, i64_w, i32_w]
                                                        rfl
                                                      refine take_ (i := 17) (N := some 75) (v := ?_) (a' := ?_) #[true, true, true, true, true, true, true, true, true, true, true, true, true, true, true, true, true, true, false, false, true, true, true, false, false, false, false, false] rfl rfl (take_ofW HT_.out HW_.out (by kernel_rfl)) (fun _ _ _ h => h) (Or.inl ⟨by rfl, ?_⟩) hHeld ?_ ?_
                                                      rotate_left
                                                      · rintro w' ⟨s0, s1, s2, s3, s4, s5, s6, s7⟩
                                                        go_simp
                                                        with_reducible rfl
                                                      rotate_left
                                                      · simp only [Act.put, List.setIfInBounds_toArray, List.set_cons_zero, List.set_cons_succ, i64_w, i32_w]
                                                        rfl
                                                      refine pure_ (i := 18) (N := some 76) (v := ?_) (a' := ?_) #[true, true, true, true, true, true, true, true, true, true, true, true, true, true, true, true, true, true, true, false, true, true, true, false, false, false, false, false] rfl rfl (any_of HT_.out (by kernel_rfl)) (fun _ _ _ h => h) (Or.inl ⟨by rfl, ?_⟩) ?_ ?_
                                                      rotate_left
                                                      · intro w'
                                                        go_simp
                                                        with_reducible rfl
                                                      rotate_left
                                                      · simp only [Act.put, List.setIfInBounds_toArray, List.set_cons_zero, List.set_cons_succ, i64_w, i32_w]
                                                        rfl
                                                      refine take_ (i := 19) (N := some 77) (v := ?_) (a' := ?_) #[true, true, true, true, true, true, true, true, true, true, true, true, true, true, true, true, true, true, true, true, true, true, true, false, false, false, false, false] rfl rfl (take_ofW HT_.out HW_.out (by kernel_rfl)) (fun _ _ _ h => h) (Or.inl ⟨by rfl, ?_⟩) hHeld ?_ ?_
                                                      rotate_left
                                                      · rintro w' ⟨s0, s1, s2, s3, s4, s5, s6, s7⟩
                                                        go_simp
                                                        with_reducible rfl
                                                      rotate_left
                                                      · simp only [Act.put, List.setIfInBounds_toArray, List.set_cons_zero, List.set_cons_succ, i64_w, i32_w]
                                                        rfl
                                                      refine take_ (i := 23) (N := some 81) (v := ?_) (a' := ?_) #[true, true, true, true, true, true, true, true, true, true, true, true, true, true, true, true, true, true, true, true, true, true, true, true, false, false, false, false] rfl rfl (take_ofW HT_.out HW_.out (by kernel_rfl)) (fun _ _ _ h => h) (Or.inl ⟨by rfl, ?_⟩) hHeld ?_ ?_
                                                      rotate_left
                                                      · rintro w' ⟨s0, s1, s2, s3, s4, s5, s6, s7⟩
                                                        go_simp
                                                        with_reducible rfl
                                                      rotate_left
                                                      · simp only [Act.put, List.setIfInBounds_toArray, List.set_cons_zero, List.set_cons_succ, i64_w, i32_w]
                                                        rfl
                                                      refine pure_ (i := 24) (N := some 82) (v := ?_) (a' := ?_) #[true, true, true, true, true, true, true, true, true, true, true, true, true, true, true, true, true, true, true, true, true, true, true, true, true, false, false, false] rfl rfl (any_of HT_.out (by kernel_rfl)) (fun _ _ _ h => h) (Or.inl ⟨by rfl, ?_⟩) ?_ ?_
                                                      rotate_left
                                                      · intro w'
                                                        go_simp
                                                        with_reducible rfl
                                                      rotate_left
                                                      · simp only [Act.put, List.setIfInBounds_toArray, List.set_cons_zero, List.set_cons_succ, i64_w, i32_w]
                                                        rfl
                                                      refine take_ (i := 25) (N := some 83) (v := ?_) (a' := ?_) #[true, true, true, true, true, true, true, true, true, true, true, true, true, true, true, true, true, true, true, true, true, true, true, true, true, true, false, false] rfl rfl (take_ofW HT_.out HW_.out (by kernel_rfl)) (fun _ _ _ h => h) (Or.inl ⟨by rfl, ?_⟩) hHeld ?_ ?_
                                                      rotate_left
                                                      · rintro w' ⟨s0, s1, s2, s3, s4, s5, s6, s7⟩
                                                        go_simp
                                                        with_reducible rfl
                                                      rotate_left
                                                      · simp only [Act.put, List.setIfInBounds_toArray, List.set_cons_zero, List.set_cons_succ, i64_w, i32_w]
                                                        rfl
                                                      refine one_ (i := 26) (N := some 84) #[true, true, true, true, true, true, true, true, true, true, true, true, true, true, true, true, true, true, true, true, true, true, true, true, true, true, true, false] rfl rfl (one_of HT_.out (by kernel_rfl)) (by decide) (fun K hK => ?_)
                                                      refine Kd.R_lit_step (Kd.int .i64) _ 3 ?hg (N := 84) ?hd (xs := ([Go.bits .xor .i64 (rd t133 (rd y146 1)) x6_1, rd t133 (rd y146 2), rd t133 (rd y146 3), rd t133 (rd y146 0)] : List Int)) (inner := [.int .i64 (Go.bits .xor .i64 (rd t133 (rd y146 1)) x6_1), .int .i64 (rd t133 (rd y146 2)), .int .i64 (rd t133 (rd y146 3)), .int .i64 (rd t133 (rd y146 0))]) (ok := fun _ => True) (okp := fun _ => True) ?hr ?hp (fun _ hk => hk) trivial (Below.refl _ _) (Nat.le_refl _) (by simp) ?_; (case hd => rfl); (case hg => rfl); (case hr => first | (go_simp; done) | (go_simp; rfl)); (case hp => exact (Reps.one (show Kd.M (Kd.int .i64) _ _ _ (Go.bits .xor .i64 (rd t133 (rd y146 1)) x6_1) [.int .i64 (Go.bits .xor .i64 (rd t133 (rd y146 1)) x6_1)] from rfl) (Reps.one (show Kd.M (Kd.int .i64) _ _ _ (rd t133 (rd y146 2)) [.int .i64 (rd t133 (rd y146 2))] from rfl) (Reps.one (show Kd.M (Kd.int .i64) _ _ _ (rd t133 (rd y146 3)) [.int .i64 (rd t133 (rd y146 3))] from rfl) (Reps.one (show Kd.M (Kd.int .i64) _ _ _ (rd t133 (rd y146 0)) [.int .i64 (rd t133 (rd y146 0))] from rfl) (Reps.none _ _))))))
                                                      intro v158 w45 ho46 hb hg_ hnew_
                                                      have HS0_ := (hb.cell (World.block_lt_of_cell? _ _ (hHeld.1))).trans (hHeld.1)
                                                      have HS1_ := (hb.cell (World.block_lt_of_cell? _ _ (hHeld.2.1))).trans (hHeld.2.1)
                                                      have HS2_ := (hb.cell (World.block_lt_of_cell? _ _ (hHeld.2.2.1))).trans (hHeld.2.2.1)
                                                      have HS3_ := (hb.cell (World.block_lt_of_cell? _ _ (hHeld.2.2.2.1))).trans (hHeld.2.2.2.1)
                                                      have HS4_ := (hb.cell (World.block_lt_of_cell? _ _ (hHeld.2.2.2.2.1))).trans (hHeld.2.2.2.2.1)
                                                      have HS5_ := (hb.cell (World.block_lt_of_cell? _ _ (hHeld.2.2.2.2.2.1))).trans (hHeld.2.2.2.2.2.1)
                                                      have HS6_ := (hb.cell (World.block_lt_of_cell? _ _ (hHeld.2.2.2.2.2.2.1))).trans (hHeld.2.2.2.2.2.2.1)
                                                      have HS7_ := (hb.cell (World.block_lt_of_cell? _ _ (hHeld.2.2.2.2.2.2.2))).trans (hHeld.2.2.2.2.2.2.2)
                                                      clear hg_ hnew_
                                                      (first | rw [← Ny157.out] at ho46 | (simp only [Int.reduceToNat] at ho46; rw [← Ny157.out] at ho46))
                                                      have n0_ := Aside0.mk (Kd.R_elder' (by (with_reducible repeat (first | apply Kd.R_alloc | apply Kd.R_drewN | apply Kd.R_drew)); exact HO_3.out) (Kd.R_base ho46) hb)
                                                      have n1_ := Aside0.mk (Kd.R_below (by (with_reducible repeat (first | apply Kd.R_alloc | apply Kd.R_drewN | apply Kd.R_drew)); exact HO_5.out) hb)
                                                      have n2_ := Aside0.mk (Kd.R_elder' (by (with_reducible repeat (first | apply Kd.R_alloc | apply Kd.R_drewN | apply Kd.R_drew)); exact HO148.out) (Kd.R_base ho46) hb)
                                                      have n3_ := Aside0.mk (Kd.R_lower (Kd.R_new' (Kd.R_new' (Kd.R_newM (M := fun k_ => (w.heap.size ≤ k_)) ho46 (below_size (by repeat (first | (with_reducible first | exact HB.out | apply below_alloc | apply pw_below_drewN | apply below_drew1) | exact HB.out))) (fun k_ h_ => h_)) (Kd.R_lt (by (with_reducible repeat (first | apply Kd.R_alloc | apply Kd.R_drewN | apply Kd.R_drew)); exact HO_3.out))) (Kd.R_lt (by (with_reducible repeat (first | apply Kd.R_alloc | apply Kd.R_drewN | apply Kd.R_drew)); exact HO148.out))) (below_size (by repeat (first | (with_reducible first | exact HB.out | apply below_alloc | apply pw_below_drewN | apply below_drew1) | exact HB.out))))
                                                      have n4_ := Aside0.mk (below_step (by repeat (first | (with_reducible first | exact HB.out | apply below_alloc | apply pw_below_drewN | apply below_drew1) | exact HB.out)) hb)
                                                      clear HO_3
                                                      clear HO_5
                                                      clear HO148
                                                      clear HB
                                                      have HO_3 := n0_
                                                      have HO_5 := n1_
                                                      have HO148 := n2_
                                                      have HO159 := n3_
                                                      have HB := n4_
                                                      clear n0_ n1_ n2_ n3_ n4_
                                                      clear hb ho46
                                                      refine hK.out _ _ ⟨HS0_, HS1_, HS2_, HS3_, HS4_, HS5_, HS6_, HS7_⟩ (fun hHeld => ?_)
                                                      clear hK K
                                                      refine norm_ (a' := ?_) ?_ ?_
                                                      rotate_left
                                                      · show Act.put _ (some 84) _ = _
                                                        simp only [Act.put, List.setIfInBounds_toArray, List.set_cons_zero, List.set_cons_succ, i64_w, i32_w]
                                                        rfl
                                                      refine pure_ (i := 27) (N := some 8) (v := ?_) (a' := ?_) #[true, true, true, true, true, true, true, true, true, true, true, true, true, true, true, true, true, true, true, true, true, true, true, true, true, true, true, true] rfl rfl (any_of HT_.out (by kernel_rfl)) (fun _ _ _ h => h) (Or.inl ⟨by rfl, ?_⟩) ?_ ?_
                                                      rotate_left
                                                      · intro w'
                                                        go_simp
                                                        with_reducible rfl
                                                      rotate_left
                                                      · simp only [Act.put, List.setIfInBounds_toArray, List.set_cons_zero, List.set_cons_succ, i64_w, i32_w]
                                                        rfl
                                                      refine done_ (done_of HT_.out (by kernel_rfl)) ?_
                                                      try go_wp2_with (first | ((with_reducible refine gate_callee (f := 31) rfl ?_); refine goesL_ (some 86) rfl rfl Try.func31 (by kernel_rfl) rfl #[.int .i64 x6_1, .int .i64 2] rfl (by (try simp only [List.map_toArray, List.map_cons, List.map_nil]); first | done | rfl | (simp only [List.length_drop, List.length_take]; rfl)) ?_; (with_reducible refine (redoubtref08_Times.calls k1 x6_1 2 t160 _ A41.out).mono ?_); rintro e w' ⟨rfl, ⟨nd, rfl⟩⟩; refine ⟨_, rfl, ?_⟩))
                                                      go_meet
                                                      case rel => exact ⟨_, (t160), (y157), (by first | rfl | (simp; done) | (simp [*]; done)), H', ⟨by have := HK1.out; first | omega | exact Nat.le_refl _⟩, ⟨by (with_reducible repeat (first | apply Kd.R_alloc | apply Kd.R_drewN | apply Kd.R_drew)); exact Kd.R_mono HO_3.out (fun _ hk => ⟨hk.1.1, hk.2⟩)⟩, ⟨by (with_reducible repeat (first | apply Kd.R_alloc | apply Kd.R_drewN | apply Kd.R_drew)); exact HO_5.out⟩, ⟨by (with_reducible repeat (first | apply Kd.R_alloc | apply Kd.R_drewN | apply Kd.R_drew)); exact Kd.R_mono HO159.out (fun _ hk => ⟨hk.1.1.1, hk.1.2⟩)⟩, ⟨by repeat (first | (with_reducible first | exact HB.out | apply below_alloc | apply pw_below_drewN | apply below_drew1) | exact HB.out)⟩⟩
                                                    · rw [if_neg c40] at H
                                                      exact absurd H (by simp)
                                                  · rw [if_neg c39] at H
                                                    exact absurd H (by simp)
                                                · rw [if_neg c38] at H
                                                  exact absurd H (by simp)
                                              · rw [if_neg c37] at H
                                                exact absurd H (by simp)
                                            · rw [if_neg c36] at H
                                              exact absurd H (by simp)
                                          · rw [if_neg c35] at H
                                            exact absurd H (by simp)
                                        · rw [if_neg c34] at H
                                          exact absurd H (by simp)
                                      · rw [if_neg c33] at H
                                        exact absurd H (by simp)
                                    · rw [if_neg c32] at H
                                      exact absurd H (by simp)
                                  · rw [if_neg c31] at H
                                    exact absurd H (by simp)
                                · rw [if_neg c30] at H
                                  exact absurd H (by simp)
                              · rw [if_neg c29] at H
                                exact absurd H (by simp)
                            · rw [if_neg c28] at H
                              have c28b0 : ((Int.tmod x7_1 (wrap64 ((l0.length : Int) / 4))) == 0) = false := beq_eq_false_iff_ne.mpr c28
                              have c28b1 : ((Int.tmod x7_1 (wrap64 ((l0.length : Int) / 4))) != 0) = true := bne_iff_ne.mpr c28
                              (first | rw [c28b0] | (simp only [i64_w, i32_w]; rw [c28b0]) | skip)
                              by_cases c47 : (wrap64 ((l0.length : Int) / 4)) = 8
                              · rw [if_pos c47] at H
                                have c47b0 : ((wrap64 ((l0.length : Int) / 4)) == 8) = true := beq_iff_eq.mpr c47
                                have c47b1 : ((wrap64 ((l0.length : Int) / 4)) != 8) = false := bne_eq_false_iff_eq.mpr c47
                                clear c47
                                by_cases c48 : (Int.tmod x7_1 8) = 4
                                · rw [if_pos c48] at H
                                  have c48b0 : ((Int.tmod x7_1 8) == 4) = true := beq_iff_eq.mpr c48
                                  have c48b1 : ((Int.tmod x7_1 8) != 4) = false := bne_eq_false_iff_eq.mpr c48
                                  clear c48
                                  by_cases c49 : 0 < (y146.length : Int)
                                  · rw [if_pos c49] at H
                                    have c49b0 : decide (0 < (y146.length : Int)) = true := decide_eq_true c49
                                    have c49b1 : decide (0 < y146.length) = true := decide_eq_true (by omega)
                                    clear c49
                                    by_cases c50 : 0 ≤ (rd y146 0)
                                    · rw [if_pos c50] at H
                                      have c50b0 : decide (0 ≤ (rd y146 0)) = true := decide_eq_true c50
                                      clear c50
                                      by_cases c51 : (rd y146 0) < (t133.length : Int)
                                      · rw [if_pos c51] at H
                                        have c51b0 : decide ((rd y146 0) < (t133.length : Int)) = true := decide_eq_true c51
                                        clear c51
                                        by_cases c52 : 1 < (y146.length : Int)
                                        · rw [if_pos c52] at H
                                          have c52b0 : decide (1 < (y146.length : Int)) = true := decide_eq_true c52
                                          have c52b1 : decide (1 < y146.length) = true := decide_eq_true (by omega)
                                          clear c52
                                          by_cases c53 : 0 ≤ (rd y146 1)
                                          · rw [if_pos c53] at H
                                            have c53b0 : decide (0 ≤ (rd y146 1)) = true := decide_eq_true c53
                                            clear c53
                                            by_cases c54 : (rd y146 1) < (t133.length : Int)
                                            · rw [if_pos c54] at H
                                              have c54b0 : decide ((rd y146 1) < (t133.length : Int)) = true := decide_eq_true c54
                                              clear c54
                                              by_cases c55 : 2 < (y146.length : Int)
                                              · rw [if_pos c55] at H
                                                have c55b0 : decide (2 < (y146.length : Int)) = true := decide_eq_true c55
                                                have c55b1 : decide (2 < y146.length) = true := decide_eq_true (by omega)
                                                clear c55
                                                by_cases c56 : 0 ≤ (rd y146 2)
                                                · rw [if_pos c56] at H
                                                  have c56b0 : decide (0 ≤ (rd y146 2)) = true := decide_eq_true c56
                                                  clear c56
                                                  by_cases c57 : (rd y146 2) < (t133.length : Int)
                                                  · rw [if_pos c57] at H
                                                    have c57b0 : decide ((rd y146 2) < (t133.length : Int)) = true := decide_eq_true c57
                                                    clear c57
                                                    by_cases c58 : 3 < (y146.length : Int)
                                                    · rw [if_pos c58] at H
                                                      have c58b0 : decide (3 < (y146.length : Int)) = true := decide_eq_true c58
                                                      have c58b1 : decide (3 < y146.length) = true := decide_eq_true (by omega)
                                                      clear c58
                                                      by_cases c59 : 0 ≤ (rd y146 3)
                                                      · rw [if_pos c59] at H
                                                        have c59b0 : decide (0 ≤ (rd y146 3)) = true := decide_eq_true c59
                                                        clear c59
                                                        by_cases c60 : (rd y146 3) < (t133.length : Int)
                                                        · rw [if_pos c60] at H
                                                          have c60b0 : decide ((rd y146 3) < (t133.length : Int)) = true := decide_eq_true c60
                                                          clear c60
                                                          obtain ⟨y169, hy169⟩ : ∃ y_ : List Int, y_ = (([rd t133 (rd y146 0), rd t133 (rd y146 1), rd t133 (rd y146 2), rd t133 (rd y146 3)] : List Int)) := ⟨_, rfl⟩
                                                          replace H : (redoubtref08_Keys.j1 k1 t133 (wrap64 ((l0.length : Int) / 4)) x5_1 x6_1 x7_1 y169) = some r := by first | (rw [hy169]; with_reducible exact H) | (have H2_ := (Option.bind_some _ _).symm.trans H; rw [hy169]; with_reducible exact H2_) | (have H2_ := (Option.bind_some _ _).symm.trans H; with_reducible exact H2_) | with_reducible exact H | (rw [hy169]; exact H) | exact H
                                                          have Ny169 := Aside0.mk hy169
                                                          clear hy169
                                                          have H' := Aside0.mk H
                                                          clear H
                                                          try go_wp2
                                                          have n0_ := Aside0.mk (Kd.R_drew HO_3.out)
                                                          have n1_ := Aside0.mk (Kd.R_drew HO_5.out)
                                                          have n2_ := Aside0.mk (Kd.R_drew HO148.out)
                                                          have n3_ := Aside0.mk (below_drew1 HB.out)
                                                          clear HO_3
                                                          clear HO_5
                                                          clear HO148
                                                          clear HB
                                                          have HO_3 := n0_
                                                          have HO_5 := n1_
                                                          have HO148 := n2_
                                                          have HB := n3_
                                                          clear n0_ n1_ n2_ n3_
                                                          obtain ⟨Ao62, co62, eo62⟩ := Kd.R_slice HO148.out
                                                          (first | subst eo62 | (injection eo62 with f1_ f2_ f3_; have f4_ := f1_.symm; have f5_ := f3_.symm; clear f1_ f2_ f3_; subst f4_; subst f5_))
                                                          have p161 : 0 ≤ (0 : Int) := (by omega)
                                                          have q161 : 0 < (y146.length : Int) := of_decide_eq_true (by first | (with_reducible assumption) | assumption)
                                                          obtain ⟨ad161, e161, hx161_0⟩ := Kd.at_int (Kd.R_reads' HO148.out).2.2 0 p161 q161
                                                          cases e161
                                                          have qi161 : (0 < y146.length) = True := eq_true (by omega)
                                                          (try rw [show ((0 : Int)).toNat = 0 from rfl] at hx161_0)
                                                          (try rw [Addr.add_zero'] at hx161_0)
                                                          replace p161 := eq_true p161
                                                          replace q161 := eq_true q161
                                                          obtain ⟨Ao63, co63, eo63⟩ := Kd.R_slice HO_3.out
                                                          (first | subst eo63 | (injection eo63 with f1_ f2_ f3_; have f4_ := f1_.symm; have f5_ := f3_.symm; clear f1_ f2_ f3_; subst f4_; subst f5_))
                                                          have p162 : 0 ≤ ((rd y146 0) : Int) := of_decide_eq_true (by first | (with_reducible assumption) | assumption)
                                                          have q162 : (rd y146 0) < (t133.length : Int) := of_decide_eq_true (by first | (with_reducible assumption) | assumption)
                                                          obtain ⟨ad162, e162, hx162_0⟩ := Kd.at_int (Kd.R_reads' HO_3.out).2.2 (rd y146 0) p162 q162
                                                          cases e162
                                                          replace p162 := eq_true p162
                                                          replace q162 := eq_true q162
                                                          have p163 : 0 ≤ (1 : Int) := (by omega)
                                                          have q163 : 1 < (y146.length : Int) := of_decide_eq_true (by first | (with_reducible assumption) | assumption)
                                                          obtain ⟨ad163, e163, hx163_0⟩ := Kd.at_int (Kd.R_reads' HO148.out).2.2 1 p163 q163
                                                          obtain rfl : ad161 = ad163 := (by injection e163)
                                                          (try simp only [show (1 : Int).toNat = 1 from rfl, Nat.reduceMul, Nat.reduceEqDiff, Go.Addr.add, ↓reduceIte] at hx163_0)
                                                          have qi163 : (1 < y146.length) = True := eq_true (by omega)
                                                          (try rw [show ((1 : Int)).toNat = 1 from rfl] at hx163_0)
                                                          replace p163 := eq_true p163
                                                          replace q163 := eq_true q163
                                                          have p164 : 0 ≤ ((rd y146 1) : Int) := of_decide_eq_true (by first | (with_reducible assumption) | assumption)
                                                          have q164 : (rd y146 1) < (t133.length : Int) := of_decide_eq_true (by first | (with_reducible assumption) | assumption)
                                                          obtain ⟨ad164, e164, hx164_0⟩ := Kd.at_int (Kd.R_reads' HO_3.out).2.2 (rd y146 1) p164 q164
                                                          obtain rfl : ad162 = ad164 := (by injection e164)
                                                          replace p164 := eq_true p164
                                                          replace q164 := eq_true q164
                                                          have p165 : 0 ≤ (2 : Int) := (by omega)
                                                          have q165 : 2 < (y146.length : Int) := of_decide_eq_true (by first | (with_reducible assumption) | assumption)
                                                          obtain ⟨ad165, e165, hx165_0⟩ := Kd.at_int (Kd.R_reads' HO148.out).2.2 2 p165 q165
                                                          obtain rfl : ad161 = ad165 := (by injection e165)
                                                          (try simp only [show (2 : Int).toNat = 2 from rfl, Nat.reduceMul, Nat.reduceEqDiff, Go.Addr.add, ↓reduceIte] at hx165_0)
                                                          have qi165 : (2 < y146.length) = True := eq_true (by omega)
                                                          (try rw [show ((2 : Int)).toNat = 2 from rfl] at hx165_0)
                                                          replace p165 := eq_true p165
                                                          replace q165 := eq_true q165
                                                          have p166 : 0 ≤ ((rd y146 2) : Int) := of_decide_eq_true (by first | (with_reducible assumption) | assumption)
                                                          have q166 : (rd y146 2) < (t133.length : Int) := of_decide_eq_true (by first | (with_reducible assumption) | assumption)
                                                          obtain ⟨ad166, e166, hx166_0⟩ := Kd.at_int (Kd.R_reads' HO_3.out).2.2 (rd y146 2) p166 q166
                                                          obtain rfl : ad162 = ad166 := (by injection e166)
                                                          replace p166 := eq_true p166
                                                          replace q166 := eq_true q166
                                                          have p167 : 0 ≤ (3 : Int) := (by omega)
                                                          have q167 : 3 < (y146.length : Int) := of_decide_eq_true (by first | (with_reducible assumption) | assumption)
                                                          obtain ⟨ad167, e167, hx167_0⟩ := Kd.at_int (Kd.R_reads' HO148.out).2.2 3 p167 q167
                                                          obtain rfl : ad161 = ad167 := (by injection e167)
                                                          (try simp only [show (3 : Int).toNat = 3 from rfl, Nat.reduceMul, Nat.reduceEqDiff, Go.Addr.add, ↓reduceIte] at hx167_0)
                                                          have qi167 : (3 < y146.length) = True := eq_true (by omega)
                                                          (try rw [show ((3 : Int)).toNat = 3 from rfl] at hx167_0)
                                                          replace p167 := eq_true p167
                                                          replace q167 := eq_true q167
                                                          have p168 : 0 ≤ ((rd y146 3) : Int) := of_decide_eq_true (by first | (with_reducible assumption) | assumption)
                                                          have q168 : (rd y146 3) < (t133.length : Int) := of_decide_eq_true (by first | (with_reducible assumption) | assumption)
                                                          obtain ⟨ad168, e168, hx168_0⟩ := Kd.at_int (Kd.R_reads' HO_3.out).2.2 (rd y146 3) p168 q168
                                                          obtain rfl : ad162 = ad168 := (by injection e168)
                                                          replace p168 := eq_true p168
                                                          replace q168 := eq_true q168
                                                          refine start_ (n := 26) (S := fun w' => w'.cell? ad161 = some (.int .i64 (rd y146 0)) ∧ w'.cell? (ad162.add ((rd y146 0)).toNat) = some (.int .i64 (rd t133 (rd y146 0))) ∧ w'.cell? ⟨ad161.block, ad161.off + 1, none⟩ = some (.int .i64 (rd y146 1)) ∧ w'.cell? (ad162.add ((rd y146 1)).toNat) = some (.int .i64 (rd t133 (rd y146 1))) ∧ w'.cell? ⟨ad161.block, ad161.off + 2, none⟩ = some (.int .i64 (rd y146 2)) ∧ w'.cell? (ad162.add ((rd y146 2)).toNat) = some (.int .i64 (rd t133 (rd y146 2))) ∧ w'.cell? ⟨ad161.block, ad161.off + 3, none⟩ = some (.int .i64 (rd y146 3)) ∧ w'.cell? (ad162.add ((rd y146 3)).toNat) = some (.int .i64 (rd t133 (rd y146 3)))) (ds := []) #[false, false, false, false, false, false, false, false, false, false, false, false, false, false, false, false, false, false, false, false, false, false, false, false, false, false] (by kernel_rfl) rfl rfl ⟨hx161_0, hx162_0, hx163_0, hx164_0, hx165_0, hx166_0, hx167_0, hx168_0⟩ (fun hHeld => ?_); refine with_tabW redoubtref08_Keys.tab13 redoubtref08_Keys.bits13 (fun HT_ HW_ => ?_)
                                                          generalize w26.drew = w61 at HO_3 HO_5 HO148 HB hx161_0 hx162_0 hx163_0 hx164_0 hx165_0 hx166_0 hx167_0 hx168_0 hHeld ⊢
                                                          refine pure_ (i := 0) (N := some 94) (v := ?_) (a' := ?_) #[true, false, false, false, false, false, false, false, false, false, false, false, false, false, false, false, false, false, false, false, false, false, false, false, false, false] rfl rfl (any_of HT_.out (by kernel_rfl)) (fun _ _ _ h => h) (Or.inl ⟨by rfl, ?_⟩) ?_ ?_
                                                          rotate_left
                                                          · intro w'
                                                            go_simp
                                                            with_reducible rfl
                                                          rotate_left
                                                          · simp only [Act.put, List.setIfInBounds_toArray, List.set_cons_zero, List.set_cons_succ, i64_w, i32_w]
                                                            rfl
                                                          refine pure_ (i := 1) (N := some 95) (v := ?_) (a' := ?_) #[true, true, false, false, false, false, false, false, false, false, false, false, false, false, false, false, false, false, false, false, false, false, false, false, false, false] rfl rfl (any_of HT_.out (by kernel_rfl)) (fun _ _ _ h => h) (Or.inl ⟨by rfl, ?_⟩) ?_ ?_
                                                          rotate_left
                                                          · intro w'
                                                            go_simp
                                                            with_reducible rfl
                                                          rotate_left
                                                          · simp only [Act.put, List.setIfInBounds_toArray, List.set_cons_zero, List.set_cons_succ, i64_w, i32_w]
                                                            rfl
                                                          refine pure_ (i := 2) (N := some 96) (v := ?_) (a' := ?_) #[true, true, true, false, false, false, false, false, false, false, false, false, false, false, false, false, false, false, false, false, false, false, false, false, false, false] rfl rfl (any_of HT_.out (by kernel_rfl)) (fun _ _ _ h => h) (Or.inl ⟨by rfl, ?_⟩) ?_ ?_
                                                          rotate_left
                                                          · intro w'
                                                            go_simp
                                                            with_reducible rfl
                                                          rotate_left
                                                          · simp only [Act.put, List.setIfInBounds_toArray, List.set_cons_zero, List.set_cons_succ, i64_w, i32_w]
                                                            rfl
                                                          refine pure_ (i := 6) (N := some 100) (v := ?_) (a' := ?_) #[true, true, true, false, false, false, true, false, false, false, false, false, false, false, false, false, false, false, false, false, false, false, false, false, false, false] rfl rfl (any_of HT_.out (by kernel_rfl)) (fun _ _ _ h => h) (Or.inl ⟨by rfl, ?_⟩) ?_ ?_
                                                          rotate_left
                                                          · intro w'
                                                            go_simp
                                                            with_reducible rfl
                                                          rotate_left
                                                          · simp only [Act.put, List.setIfInBounds_toArray, List.set_cons_zero, List.set_cons_succ, i64_w, i32_w]
                                                            rfl
                                                          refine pure_ (i := 7) (N := some 101) (v := ?_) (a' := ?_) #[true, true, true, false, false, false, true, true, false, false, false, false, false, false, false, false, false, false, false, false, false, false, false, false, false, false] rfl rfl (any_of HT_.out (by kernel_rfl)) (fun _ _ _ h => h) (Or.inl ⟨by rfl, ?_⟩) ?_ ?_
                                                          rotate_left
                                                          · intro w'
                                                            go_simp
                                                            with_reducible rfl
                                                          rotate_left
                                                          · simp only [Act.put, List.setIfInBounds_toArray, List.set_cons_zero, List.set_cons_succ, i64_w, i32_w]
                                                            rfl
                                                          refine pure_ (i := 8) (N := some 102) (v := ?_) (a' := ?_) #[true, true, true, false, false, false, true, true, true, false, false, false, false, false, false, false, false, false, false, false, false, false, false, false, false, false] rfl rfl (any_of HT_.out (by kernel_rfl)) (fun _ _ _ h => h) (Or.inl ⟨by rfl, ?_⟩) ?_ ?_
                                                          rotate_left
                                                          · intro w'
                                                            go_simp
                                                            with_reducible rfl
                                                          rotate_left
                                                          · simp only [Act.put, List.setIfInBounds_toArray, List.set_cons_zero, List.set_cons_succ, i64_w, i32_w]
                                                            rfl
                                                          refine pure_ (i := 12) (N := some 106) (v := ?_) (a' := ?_) #[true, true, true, false, false, false, true, true, true, false, false, false, true, false, false, false, false, false, false, false, false, false, false, false, false, false] rfl rfl (any_of HT_.out (by kernel_rfl)) (fun _ _ _ h => h) (Or.inl ⟨by rfl, ?_⟩) ?_ ?_
                                                          rotate_left
                                                          · intro w'
                                                            go_simp
                                                            with_reducible rfl
                                                          rotate_left
                                                          · simp only [Act.put, List.setIfInBounds_toArray, List.set_cons_zero, List.set_cons_succ, i64_w, i32_w]
                                                            rfl
                                                          refine pure_ (i := 13) (N := some 107) (v := ?_) (a' := ?_) #[true, true, true, false, false, false, true, true, true, false, false, false, true, true, false, false, false, false, false, false, false, false, false, false, false, false] rfl rfl (any_of HT_.out (by kernel_rfl)) (fun _ _ _ h => h) (Or.inl ⟨by rfl, ?_⟩) ?_ ?_
                                                          rotate_left
                                                          · intro w'
                                                            go_simp
                                                            with_reducible rfl
                                                          rotate_left
                                                          · simp only [Act.put, List.setIfInBounds_toArray, List.set_cons_zero, List.set_cons_succ, i64_w, i32_w]
                                                            rfl
                                                          refine pure_ (i := 14) (N := some 108) (v := ?_) (a' := ?_) #[true, true, true, false, false, false, true, true, true, false, false, false, true, true, true, false, false, false, false, false, false, false, false, false, false, false] rfl rfl (any_of HT_.out (by kernel_rfl)) (fun _ _ _ h => h) (Or.inl ⟨by rfl, ?_⟩) ?_ ?_
                                                          rotate_left
                                                          · intro w'
                                                            go_simp
                                                            with_reducible rfl
                                                          rotate_left
                                                          · simp only [Act.put, List.setIfInBounds_toArray, List.set_cons_zero, List.set_cons_succ, i64_w, i32_w]
                                                            rfl
                                                          refine pure_ (i := 18) (N := some 112) (v := ?_) (a' := ?_) #[true, true, true, false, false, false, true, true, true, false, false, false, true, true, true, false, false, false, true, false, false, false, false, false, false, false] rfl rfl (any_of HT_.out (by kernel_rfl)) (fun _ _ _ h => h) (Or.inl ⟨by rfl, ?_⟩) ?_ ?_
                                                          rotate_left
                                                          · intro w'
                                                            go_simp
                                                            with_reducible rfl
                                                          rotate_left
                                                          · simp only [Act.put, List.setIfInBounds_toArray, List.set_cons_zero, List.set_cons_succ, i64_w, i32_w]
                                                            rfl
                                                          refine pure_ (i := 19) (N := some 113) (v := ?_) (a' := ?_) #[true, true, true, false, false, false, true, true, true, false, false, false, true, true, true, false, false, false, true, true, false, false, false, false, false, false] rfl rfl (any_of HT_.out (by kernel_rfl)) (fun _ _ _ h => h) (Or.inl ⟨by rfl, ?_⟩) ?_ ?_
                                                          rotate_left
                                                          · intro w'
                                                            go_simp
                                                            with_reducible rfl
                                                          rotate_left
                                                          · simp only [Act.put, List.setIfInBounds_toArray, List.set_cons_zero, List.set_cons_succ, i64_w, i32_w]
                                                            rfl
                                                          refine pure_ (i := 20) (N := some 114) (v := ?_) (a' := ?_) #[true, true, true, false, false, false, true, true, true, false, false, false, true, true, true, false, false, false, true, true, true, false, false, false, false, false] rfl rfl (any_of HT_.out (by kernel_rfl)) (fun _ _ _ h => h) (Or.inl ⟨by rfl, ?_⟩) ?_ ?_
                                                          rotate_left
                                                          · intro w'
                                                            go_simp
                                                            with_reducible rfl
                                                          rotate_left
                                                          · simp only [Act.put, List.setIfInBounds_toArray, List.set_cons_zero, List.set_cons_succ, i64_w, i32_w]
                                                            rfl
                                                          refine take_ (i := 3) (N := some 97) (v := ?_) (a' := ?_) #[true, true, true, true, false, false, true, true, true, false, false, false, true, true, true, false, false, false, true, true, true, false, false, false, false, false] rfl rfl (take_ofW HT_.out HW_.out (by kernel_rfl)) (fun _ _ _ h => h) (Or.inl ⟨by rfl, ?_⟩) hHeld ?_ ?_
                                                          rotate_left
                                                          · rintro w' ⟨s0, s1, s2, s3, s4, s5, s6, s7⟩
                                                            go_simp
                                                            with_reducible rfl
                                                          rotate_left
                                                          · simp only [Act.put, List.setIfInBounds_toArray, List.set_cons_zero, List.set_cons_succ, i64_w, i32_w]
                                                            rfl
                                                          refine pure_ (i := 4) (N := some 98) (v := ?_) (a' := ?_) #[true, true, true, true, true, false, true, true, true, false, false, false, true, true, true, false, false, false, true, true, true, false, false, false, false, false] rfl rfl (any_of HT_.out (by kernel_rfl)) (fun _ _ _ h => h) (Or.inl ⟨by rfl, ?_⟩) ?_ ?_
                                                          rotate_left
                                                          · intro w'
                                                            go_simp
                                                            with_reducible rfl
                                                          rotate_left
                                                          · simp only [Act.put, List.setIfInBounds_toArray, List.set_cons_zero, List.set_cons_succ, i64_w, i32_w]
                                                            rfl
                                                          refine take_ (i := 5) (N := some 99) (v := ?_) (a' := ?_) #[true, true, true, true, true, true, true, true, true, false, false, false, true, true, true, false, false, false, true, true, true, false, false, false, false, false] rfl rfl (take_ofW HT_.out HW_.out (by kernel_rfl)) (fun _ _ _ h => h) (Or.inl ⟨by rfl, ?_⟩) hHeld ?_ ?_
                                                          rotate_left
                                                          · rintro w' ⟨s0, s1, s2, s3, s4, s5, s6, s7⟩
                                                            go_simp
                                                            with_reducible rfl
                                                          rotate_left
                                                          · simp only [Act.put, List.setIfInBounds_toArray, List.set_cons_zero, List.set_cons_succ, i64_w, i32_w]
                                                            rfl
                                                          refine take_ (i := 9) (N := some 103) (v := ?_) (a' := ?_) #[true, true, true, true, true, true, true, true, true, true, false, false, true, true, true, false, false, false, true, true, true, false, false, false, false, false] rfl rfl (take_ofW HT_.out HW_.out (by kernel_rfl)) (fun _ _ _ h => h) (Or.inl ⟨by rfl, ?_⟩) hHeld ?_ ?_
                                                          rotate_left
                                                          · rintro w' ⟨s0, s1, s2, s3, s4, s5, s6, s7⟩
                                                            go_simp
                                                            with_reducible rfl
                                                          rotate_left
                                                          · simp only [Act.put, List.setIfInBounds_toArray, List.set_cons_zero, List.set_cons_succ, i64_w, i32_w]
                                                            rfl
                                                          refine pure_ (i := 10) (N := some 104) (v := ?_) (a' := ?_) #[true, true, true, true, true, true, true, true, true, true, true, false, true, true, true, false, false, false, true, true, true, false, false, false, false, false] rfl rfl (any_of HT_.out (by kernel_rfl)) (fun _ _ _ h => h) (Or.inl ⟨by rfl, ?_⟩) ?_ ?_
                                                          rotate_left
                                                          · intro w'
                                                            go_simp
                                                            with_reducible rfl
                                                          rotate_left
                                                          · simp only [Act.put, List.setIfInBounds_toArray, List.set_cons_zero, List.set_cons_succ, i64_w, i32_w]
                                                            rfl
                                                          refine take_ (i := 11) (N := some 105) (v := ?_) (a' := ?_) #[true, true, true, true, true, true, true, true, true, true, true, true, true, true, true, false, false, false, true, true, true, false, false, false, false, false] rfl rfl (take_ofW HT_.out HW_.out (by kernel_rfl)) (fun _ _ _ h => h) (Or.inl ⟨by rfl, ?_⟩) hHeld ?_ ?_
                                                          rotate_left
                                                          · rintro w' ⟨s0, s1, s2, s3, s4, s5, s6, s7⟩
                                                            go_simp
                                                            with_reducible rfl
                                                          rotate_left
                                                          · simp only [Act.put, List.setIfInBounds_toArray, List.set_cons_zero, List.set_cons_succ, i64_w, i32_w]
                                                            rfl
                                                          refine take_ (i := 15) (N := some 109) (v := ?_) (a' := ?_) #[true, true, true, true, true, true, true, true, true, true, true, true, true, true, true, true, false, false, true, true, true, false, false, false, false, false] rfl rfl (take_ofW HT_.out HW_.out (by kernel_rfl)) (fun _ _ _ h => h) (Or.inl ⟨by rfl, ?_⟩) hHeld ?_ ?_
                                                          rotate_left
                                                          · rintro w' ⟨s0, s1, s2, s3, s4, s5, s6, s7⟩
                                                            go_simp
                                                            with_reducible rfl
                                                          rotate_left
                                                          · simp only [Act.put, List.setIfInBounds_toArray, List.set_cons_zero, List.set_cons_succ, i64_w, i32_w]
                                                            rfl
                                                          refine pure_ (i := 16) (N := some 110) (v := ?_) (a' := ?_) #[true, true, true, true, true, true, true, true, true, true, true, true, true, true, true, true, true, false, true, true, true, false, false, false, false, false] rfl rfl (any_of HT_.out (by kernel_rfl)) (fun _ _ _ h => h) (Or.inl ⟨by rfl, ?_⟩) ?_ ?_
                                                          rotate_left
                                                          · intro w'
                                                            go_simp
                                                            with_reducible rfl
                                                          rotate_left
                                                          · simp only [Act.put, List.setIfInBounds_toArray, List.set_cons_zero, List.set_cons_succ, i64_w, i32_w]
                                                            rfl
                                                          refine take_ (i := 17) (N := some 111) (v := ?_) (a' := ?_) #[true, true, true, true, true, true, true, true, true, true, true, true, true, true, true, true, true, true, true, true, true, false, false, false, false, false] rfl rfl (take_ofW HT_.out HW_.out (by kernel_rfl)) (fun _ _ _ h => h) (Or.inl ⟨by rfl, ?_⟩) hHeld ?_ ?_
                                                          rotate_left
                                                          · rintro w' ⟨s0, s1, s2, s3, s4, s5, s6, s7⟩
                                                            go_simp
                                                            with_reducible rfl
                                                          rotate_left
                                                          · simp only [Act.put, List.setIfInBounds_toArray, List.set_cons_zero, List.set_cons_succ, i64_w, i32_w]
                                                            rfl
                                                          refine take_ (i := 21) (N := some 115) (v := ?_) (a' := ?_) #[true, true, true, true, true, true, true, true, true, true, true, true, true, true, true, true, true, true, true, true, true, true, false, false, false, false] rfl rfl (take_ofW HT_.out HW_.out (by kernel_rfl)) (fun _ _ _ h => h) (Or.inl ⟨by rfl, ?_⟩) hHeld ?_ ?_
                                                          rotate_left
                                                          · rintro w' ⟨s0, s1, s2, s3, s4, s5, s6, s7⟩
                                                            go_simp
                                                            with_reducible rfl
                                                          rotate_left
                                                          · simp only [Act.put, List.setIfInBounds_toArray, List.set_cons_zero, List.set_cons_succ, i64_w, i32_w]
                                                            rfl
                                                          refine pure_ (i := 22) (N := some 116) (v := ?_) (a' := ?_) #[true, true, true, true, true, true, true, true, true, true, true, true, true, true, true, true, true, true, true, true, true, true, true, false, false, false] rfl rfl (any_of HT_.out (by kernel_rfl)) (fun _ _ _ h => h) (Or.inl ⟨by rfl, ?_⟩) ?_ ?_
                                                          rotate_left
                                                          · intro w'
                                                            go_simp
                                                            with_reducible rfl
                                                          rotate_left
                                                          · simp only [Act.put, List.setIfInBounds_toArray, List.set_cons_zero, List.set_cons_succ, i64_w, i32_w]
                                                            rfl
                                                          refine take_ (i := 23) (N := some 117) (v := ?_) (a' := ?_) #[true, true, true, true, true, true, true, true, true, true, true, true, true, true, true, true, true, true, true, true, true, true, true, true, false, false] rfl rfl (take_ofW HT_.out HW_.out (by kernel_rfl)) (fun _ _ _ h => h) (Or.inl ⟨by rfl, ?_⟩) hHeld ?_ ?_
                                                          rotate_left
                                                          · rintro w' ⟨s0, s1, s2, s3, s4, s5, s6, s7⟩
                                                            go_simp
                                                            with_reducible rfl
                                                          rotate_left
                                                          · simp only [Act.put, List.setIfInBounds_toArray, List.set_cons_zero, List.set_cons_succ, i64_w, i32_w]
                                                            rfl
                                                          refine one_ (i := 24) (N := some 118) #[true, true, true, true, true, true, true, true, true, true, true, true, true, true, true, true, true, true, true, true, true, true, true, true, true, false] rfl rfl (one_of HT_.out (by kernel_rfl)) (by decide) (fun K hK => ?_)
                                                          refine Kd.R_lit_step (Kd.int .i64) _ 3 ?hg (N := 118) ?hd (xs := ([rd t133 (rd y146 0), rd t133 (rd y146 1), rd t133 (rd y146 2), rd t133 (rd y146 3)] : List Int)) (inner := [.int .i64 (rd t133 (rd y146 0)), .int .i64 (rd t133 (rd y146 1)), .int .i64 (rd t133 (rd y146 2)), .int .i64 (rd t133 (rd y146 3))]) (ok := fun _ => True) (okp := fun _ => True) ?hr ?hp (fun _ hk => hk) trivial (Below.refl _ _) (Nat.le_refl _) (by simp) ?_; (case hd => rfl); (case hg => rfl); (case hr => first | (go_simp; done) | (go_simp; rfl)); (case hp => exact (Reps.one (show Kd.M (Kd.int .i64) _ _ _ (rd t133 (rd y146 0)) [.int .i64 (rd t133 (rd y146 0))] from rfl) (Reps.one (show Kd.M (Kd.int .i64) _ _ _ (rd t133 (rd y146 1)) [.int .i64 (rd t133 (rd y146 1))] from rfl) (Reps.one (show Kd.M (Kd.int .i64) _ _ _ (rd t133 (rd y146 2)) [.int .i64 (rd t133 (rd y146 2))] from rfl) (Reps.one (show Kd.M (Kd.int .i64) _ _ _ (rd t133 (rd y146 3)) [.int .i64 (rd t133 (rd y146 3))] from rfl) (Reps.none _ _))))))
                                                          intro v170 w64 ho65 hb hg_ hnew_
                                                          have HS0_ := (hb.cell (World.block_lt_of_cell? _ _ (hHeld.1))).trans (hHeld.1)
                                                          have HS1_ := (hb.cell (World.block_lt_of_cell? _ _ (hHeld.2.1))).trans (hHeld.2.1)
                                                          have HS2_ := (hb.cell (World.block_lt_of_cell? _ _ (hHeld.2.2.1))).trans (hHeld.2.2.1)
                                                          have HS3_ := (hb.cell (World.block_lt_of_cell? _ _ (hHeld.2.2.2.1))).trans (hHeld.2.2.2.1)
                                                          have HS4_ := (hb.cell (World.block_lt_of_cell? _ _ (hHeld.2.2.2.2.1))).trans (hHeld.2.2.2.2.1)
                                                          have HS5_ := (hb.cell (World.block_lt_of_cell? _ _ (hHeld.2.2.2.2.2.1))).trans (hHeld.2.2.2.2.2.1)
                                                          have HS6_ := (hb.cell (World.block_lt_of_cell? _ _ (hHeld.2.2.2.2.2.2.1))).trans (hHeld.2.2.2.2.2.2.1)
                                                          have HS7_ := (hb.cell (World.block_lt_of_cell? _ _ (hHeld.2.2.2.2.2.2.2))).trans (hHeld.2.2.2.2.2.2.2)
                                                          clear hg_ hnew_
                                                          (first | rw [← Ny169.out] at ho65 | (simp only [Int.reduceToNat] at ho65; rw [← Ny169.out] at ho65))
                                                          have n0_ := Aside0.mk (Kd.R_elder' (by (with_reducible repeat (first | apply Kd.R_alloc | apply Kd.R_drewN | apply Kd.R_drew)); exact HO_3.out) (Kd.R_base ho65) hb)
                                                          have n1_ := Aside0.mk (Kd.R_below (by (with_reducible repeat (first | apply Kd.R_alloc | apply Kd.R_drewN | apply Kd.R_drew)); exact HO_5.out) hb)
                                                          have n2_ := Aside0.mk (Kd.R_elder' (by (with_reducible repeat (first | apply Kd.R_alloc | apply Kd.R_drewN | apply Kd.R_drew)); exact HO148.out) (Kd.R_base ho65) hb)
                                                          have n3_ := Aside0.mk (Kd.R_lower (Kd.R_new' (Kd.R_new' (Kd.R_newM (M := fun k_ => (w.heap.size ≤ k_)) ho65 (below_size (by repeat (first | (with_reducible first | exact HB.out | apply below_alloc | apply pw_below_drewN | apply below_drew1) | exact HB.out))) (fun k_ h_ => h_)) (Kd.R_lt (by (with_reducible repeat (first | apply Kd.R_alloc | apply Kd.R_drewN | apply Kd.R_drew)); exact HO_3.out))) (Kd.R_lt (by (with_reducible repeat (first | apply Kd.R_alloc | apply Kd.R_drewN | apply Kd.R_drew)); exact HO148.out))) (below_size (by repeat (first | (with_reducible first | exact HB.out | apply below_alloc | apply pw_below_drewN | apply below_drew1) | exact HB.out))))
                                                          have n4_ := Aside0.mk (below_step (by repeat (first | (with_reducible first | exact HB.out | apply below_alloc | apply pw_below_drewN | apply below_drew1) | exact HB.out)) hb)
                                                          clear HO_3
                                                          clear HO_5
                                                          clear HO148
                                                          clear HB
                                                          have HO_3 := n0_
                                                          have HO_5 := n1_
                                                          have HO148 := n2_
                                                          have HO171 := n3_
                                                          have HB := n4_
                                                          clear n0_ n1_ n2_ n3_ n4_
                                                          clear hb ho65
                                                          refine hK.out _ _ ⟨HS0_, HS1_, HS2_, HS3_, HS4_, HS5_, HS6_, HS7_⟩ (fun hHeld => ?_)
                                                          clear hK K
                                                          refine norm_ (a' := ?_) ?_ ?_
                                                          rotate_left
                                                          · show Act.put _ (some 118) _ = _
                                                            simp only [Act.put, List.setIfInBounds_toArray, List.set_cons_zero, List.set_cons_succ, i64_w, i32_w]
                                                            rfl
                                                          refine pure_ (i := 25) (N := some 8) (v := ?_) (a' := ?_) #[true, true, true, true, true, true, true, true, true, true, true, true, true, true, true, true, true, true, true, true, true, true, true, true, true, true] rfl rfl (any_of HT_.out (by kernel_rfl)) (fun _ _ _ h => h) (Or.inl ⟨by rfl, ?_⟩) ?_ ?_
                                                          rotate_left
                                                          · intro w'
                                                            go_simp
                                                            with_reducible rfl
                                                          rotate_left
                                                          · simp only [Act.put, List.setIfInBounds_toArray, List.set_cons_zero, List.set_cons_succ, i64_w, i32_w]
                                                            rfl
                                                          refine done_ (done_of HT_.out (by kernel_rfl)) ?_
                                                          try go_wp2
                                                          go_meet
                                                          case rel => exact ⟨_, (x6_1), (y169), (by first | rfl | (simp; done) | (simp [*]; done)), H', ⟨by have := HK1.out; first | omega | exact Nat.le_refl _⟩, ⟨by (with_reducible repeat (first | apply Kd.R_alloc | apply Kd.R_drewN | apply Kd.R_drew)); exact Kd.R_mono HO_3.out (fun _ hk => ⟨hk.1.1, hk.2⟩)⟩, ⟨by (with_reducible repeat (first | apply Kd.R_alloc | apply Kd.R_drewN | apply Kd.R_drew)); exact HO_5.out⟩, ⟨by (with_reducible repeat (first | apply Kd.R_alloc | apply Kd.R_drewN | apply Kd.R_drew)); exact Kd.R_mono HO171.out (fun _ hk => ⟨hk.1.1.1, hk.1.2⟩)⟩, ⟨by repeat (first | (with_reducible first | exact HB.out | apply below_alloc | apply pw_below_drewN | apply below_drew1) | exact HB.out)⟩⟩
                                                        · rw [if_neg c60] at H
                                                          exact absurd H (by simp)
                                                      · rw [if_neg c59] at H
                                                        exact absurd H (by simp)
                                                    · rw [if_neg c58] at H
                                                      exact absurd H (by simp)
                                                  · rw [if_neg c57] at H
                                                    exact absurd H (by simp)
                                                · rw [if_neg c56] at H
                                                  exact absurd H (by simp)
                                              · rw [if_neg c55] at H
                                                exact absurd H (by simp)
                                            · rw [if_neg c54] at H
                                              exact absurd H (by simp)
                                          · rw [if_neg c53] at H
                                            exact absurd H (by simp)
                                        · rw [if_neg c52] at H
                                          exact absurd H (by simp)
                                      · rw [if_neg c51] at H
                                        exact absurd H (by simp)
                                    · rw [if_neg c50] at H
                                      exact absurd H (by simp)
                                  · rw [if_neg c49] at H
                                    exact absurd H (by simp)
                                · rw [if_neg c48] at H
                                  have c48b0 : ((Int.tmod x7_1 8) == 4) = false := beq_eq_false_iff_ne.mpr c48
                                  have c48b1 : ((Int.tmod x7_1 8) != 4) = true := bne_iff_ne.mpr c48
                                  have H' := Aside0.mk H
                                  clear H
                                  go_wp2
                                  go_meet
                                  case rel => exact ⟨_, (x6_1), (y146), (by first | rfl | (simp; done) | (simp [*]; done)), H', ⟨by have := HK1.out; first | omega | exact Nat.le_refl _⟩, ⟨by (with_reducible repeat (first | apply Kd.R_alloc | apply Kd.R_drewN | apply Kd.R_drew)); exact HO_3.out⟩, ⟨by (with_reducible repeat (first | apply Kd.R_alloc | apply Kd.R_drewN | apply Kd.R_drew)); exact HO_5.out⟩, ⟨by (with_reducible repeat (first | apply Kd.R_alloc | apply Kd.R_drewN | apply Kd.R_drew)); exact Kd.R_mono HO148.out (fun _ hk => ⟨hk.1.1, hk.2⟩)⟩, ⟨by repeat (first | (with_reducible first | exact HB.out | apply below_alloc | apply pw_below_drewN | apply below_drew1) | exact HB.out)⟩⟩
                              · rw [if_neg c47] at H
                                have c47b0 : ((wrap64 ((l0.length : Int) / 4)) == 8) = false := beq_eq_false_iff_ne.mpr c47
                                have c47b1 : ((wrap64 ((l0.length : Int) / 4)) != 8) = true := bne_iff_ne.mpr c47
                                have H' := Aside0.mk H
                                clear H
                                go_wp2
                                go_meet
                                case rel => exact ⟨_, (x6_1), (y146), (by first | rfl | (simp; done) | (simp [*]; done)), H', ⟨by have := HK1.out; first | omega | exact Nat.le_refl _⟩, ⟨by (with_reducible repeat (first | apply Kd.R_alloc | apply Kd.R_drewN | apply Kd.R_drew)); exact HO_3.out⟩, ⟨by (with_reducible repeat (first | apply Kd.R_alloc | apply Kd.R_drewN | apply Kd.R_drew)); exact HO_5.out⟩, ⟨by (with_reducible repeat (first | apply Kd.R_alloc | apply Kd.R_drewN | apply Kd.R_drew)); exact Kd.R_mono HO148.out (fun _ hk => ⟨hk.1.1, hk.2⟩)⟩, ⟨by repeat (first | (with_reducible first | exact HB.out | apply below_alloc | apply pw_below_drewN | apply below_drew1) | exact HB.out)⟩⟩
                          case rest =>
                            clear HC23
                            try clear p1
                            try clear q1
                            try clear hx1
                            try clear qi1
                            try clear c2
                            try clear p2
                            try clear c3
                            try clear c4
                            try clear c5
                            try clear c6
                            try clear p6
                            try clear p16
                            try clear q16
                            try clear hx16
                            try clear qi16
                            try clear c28
                            try clear c28b0
                            try clear c28b1
                            try clear c29
                            try clear c30
                            try clear c31
                            try clear c32
                            try clear c33
                            try clear c34
                            try clear c35
                            try clear c36
                            try clear c37
                            try clear c38
                            try clear c39
                            try clear c40
                            try clear c47
                            try clear c47b0
                            try clear c47b1
                            try clear c48
                            try clear c48b0
                            try clear c48b1
                            try clear c49
                            try clear c49b0
                            try clear c49b1
                            try clear c50
                            try clear c50b0
                            try clear c51
                            try clear c51b0
                            try clear c52
                            try clear c52b0
                            try clear c52b1
                            try clear c53
                            try clear c53b0
                            try clear c54
                            try clear c54b0
                            try clear c55
                            try clear c55b0
                            try clear c55b1
                            try clear c56
                            try clear c56b0
                            try clear c57
                            try clear c57b0
                            try clear c58
                            try clear c58b0
                            try clear c58b1
                            try clear c59
                            try clear c59b0
                            try clear c60
                            try clear c60b0
                            try clear p64
                            try clear hx161_0
                            try clear hx162_0
                            try clear hx163_0
                            try clear hx164_0
                            try clear hx165_0
                            try clear hx166_0
                            try clear hx167_0
                            try clear hx168_0
                            try clear p161
                            try clear p162
                            try clear p163
                            try clear p164
                            try clear p165
                            try clear p166
                            try clear p167
                            try clear p168
                            try clear q161
                            try clear q162
                            try clear q163
                            try clear q164
                            try clear q165
                            try clear q166
                            try clear q167
                            try clear q168
                            obtain ⟨kq, x6_22, x8_22, rfl, HA, HJ22, HO_3, HO_5, HO_8, HB⟩ := hcut
                            cases kq with
                            | zero => exact absurd HA.out (by simp [redoubtref08_Keys.j1])
                            | succ kj22 =>
                              have H := HA.out
                              clear HA
                              simp only [redoubtref08_Keys.j1] at H
                              have H' := Aside0.mk H
                              clear H
                              go_wp2
                              go_loopg [5, 9] kj22 (fun kq v5 v9 w' => ∃ (x5_3 : List Int) (x9_3 : Int), v9 = .int .i64 x9_3 ∧ Aside0 (redoubtref08_Keys.l1 kq t133 (wrap64 ((l0.length : Int) / 4)) x5_3 x6_22 x7_1 x8_22 x9_3 = some r) ∧ Aside0 (kq ≤ kj22) ∧ Aside0 (Kd.R (Kd.int .i64) 3 w' w.heap.size (fun k_ => (w.heap.size ≤ k_) ∧ some k_ ≠ (u8 : Value).ownBlock) v134 t133) ∧ Aside0 (Kd.R (Kd.int .u8) 5 w' w.heap.size (fun k_ => (w.heap.size ≤ k_)) v5 x5_3) ∧ Aside0 (Kd.R (Kd.int .i64) 3 w' w.heap.size (fun k_ => (w.heap.size ≤ k_) ∧ some k_ ≠ (v134 : Value).ownBlock) u8 x8_22) ∧ Aside0 (Below w.heap.size w w'))
                              case atStart => exact ⟨(x5_1), (0), (by first | rfl | (simp; done) | (simp [*]; done)), H', ⟨Nat.le_refl _⟩, ⟨by (with_reducible repeat (first | apply Kd.R_alloc | apply Kd.R_drewN | apply Kd.R_drew)); exact HO_3.out⟩, ⟨by (with_reducible repeat (first | apply Kd.R_alloc | apply Kd.R_drewN | apply Kd.R_drew)); exact HO_5.out⟩, ⟨by (with_reducible repeat (first | apply Kd.R_alloc | apply Kd.R_drewN | apply Kd.R_drew)); exact HO_8.out⟩, ⟨by repeat (first | (with_reducible first | exact HB.out | apply below_alloc | apply pw_below_drewN | apply below_drew1) | exact HB.out)⟩⟩
                              case round =>
                                clear H'
                                try clear p1
                                try clear q1
                                try clear hx1
                                try clear qi1
                                try clear c2
                                try clear p2
                                try clear c3
                                try clear c4
                                try clear c5
                                try clear c6
                                try clear p6
                                try clear p16
                                try clear q16
                                try clear hx16
                                try clear qi16
                                try clear c28
                                try clear c28b0
                                try clear c28b1
                                try clear c29
                                try clear c30
                                try clear c31
                                try clear c32
                                try clear c33
                                try clear c34
                                try clear c35
                                try clear c36
                                try clear c37
                                try clear c38
                                try clear c39
                                try clear c40
                                try clear c47
                                try clear c47b0
                                try clear c47b1
                                try clear c48
                                try clear c48b0
                                try clear c48b1
                                try clear c49
                                try clear c49b0
                                try clear c49b1
                                try clear c50
                                try clear c50b0
                                try clear c51
                                try clear c51b0
                                try clear c52
                                try clear c52b0
                                try clear c52b1
                                try clear c53
                                try clear c53b0
                                try clear c54
                                try clear c54b0
                                try clear c55
                                try clear c55b0
                                try clear c55b1
                                try clear c56
                                try clear c56b0
                                try clear c57
                                try clear c57b0
                                try clear c58
                                try clear c58b0
                                try clear c58b1
                                try clear c59
                                try clear c59b0
                                try clear c60
                                try clear c60b0
                                try clear p64
                                try clear hx161_0
                                try clear hx162_0
                                try clear hx163_0
                                try clear hx164_0
                                try clear hx165_0
                                try clear hx166_0
                                try clear hx167_0
                                try clear hx168_0
                                try clear p1
                                try clear p16
                                try clear p161
                                try clear p162
                                try clear p163
                                try clear p164
                                try clear p165
                                try clear p166
                                try clear p167
                                try clear p168
                                try clear p2
                                try clear p6
                                try clear p64
                                try clear q1
                                try clear q16
                                try clear q161
                                try clear q162
                                try clear q163
                                try clear q164
                                try clear q165
                                try clear q166
                                try clear q167
                                try clear q168
                                obtain ⟨x5_3, x9_3, rfl, HA, HK3, HO_3, HO_5, HO_8, HB⟩ := hrel
                                cases gk with
                                | zero => exact absurd HA.out (by simp [redoubtref08_Keys.l1])
                                | succ k3 =>
                                  have H := HA.out
                                  clear HA
                                  simp only [redoubtref08_Keys.l1] at H
                                  by_cases c66 : x9_3 < 4
                                  · rw [if_pos c66] at H
                                    have c66b0 : decide (x9_3 < 4) = true := decide_eq_true c66
                                    clear c66
                                    by_cases c67 : 0 ≤ x9_3
                                    · rw [if_pos c67] at H
                                      have c67b0 : decide (0 ≤ x9_3) = true := decide_eq_true c67
                                      clear c67
                                      by_cases c68 : x9_3 < (x8_22.length : Int)
                                      · rw [if_pos c68] at H
                                        have c68b0 : decide (x9_3 < (x8_22.length : Int)) = true := decide_eq_true c68
                                        clear c68
                                        obtain ⟨ji69, hji69⟩ : ∃ j_ : Int, (wrap64 ((wrap64 (4 * (wrap64 (x7_1 - (wrap64 ((l0.length : Int) / 4)))))) + x9_3)) = j_ := ⟨_, rfl⟩
                                        replace H : (if 0 ≤ (ji69) then (if (ji69) < (x5_3.length : Int) then (if x5_3.length < 140737488355328 then (redoubtref08_Keys.l1 k3 t133 (wrap64 ((l0.length : Int) / 4)) (x5_3 ++ [(Go.bits .xor .i64 (rd x8_22 x9_3) (wrap64 (rd x5_3 (ji69)))) % 256]) x6_22 x7_1 x8_22 (wrap64 (x9_3 + 1))) else (none)) else (none)) else (none)) = some r := by first | (rw [hji69] at H; exact H) | (simp only [hji69] at H ⊢; exact H)
                                        have hji69w : (IntKind.i64.wrap ((wrap64 (4 * (wrap64 (x7_1 - (wrap64 ((l0.length : Int) / 4)))))) + x9_3)) = ji69 := (i64_w _).trans hji69
                                        by_cases c70 : 0 ≤ (ji69)
                                        · rw [if_pos c70] at H
                                          have c70b0 : decide (0 ≤ (ji69)) = true := decide_eq_true c70
                                          clear c70
                                          by_cases c71 : (ji69) < (x5_3.length : Int)
                                          · rw [if_pos c71] at H
                                            have c71b0 : decide ((ji69) < (x5_3.length : Int)) = true := decide_eq_true c71
                                            clear c71
                                            by_cases c72 : x5_3.length < 140737488355328
                                            · rw [if_pos c72] at H
                                              have LMc72 := Aside0.mk c72
                                              clear c72
                                              obtain ⟨y174, hy174⟩ : ∃ y_ : List Int, y_ = (x5_3 ++ [(Go.bits .xor .i64 (rd x8_22 x9_3) (wrap64 (rd x5_3 (ji69)))) % 256]) := ⟨_, rfl⟩
                                              replace H : (redoubtref08_Keys.l1 k3 t133 (wrap64 ((l0.length : Int) / 4)) y174 x6_22 x7_1 x8_22 (wrap64 (x9_3 + 1))) = some r := by first | (rw [hy174]; with_reducible exact H) | (have H2_ := (Option.bind_some _ _).symm.trans H; rw [hy174]; with_reducible exact H2_) | (have H2_ := (Option.bind_some _ _).symm.trans H; with_reducible exact H2_) | with_reducible exact H | (rw [hy174]; exact H) | exact H
                                              have Ny174 := Aside0.mk hy174
                                              clear hy174
                                              have H' := Aside0.mk H
                                              clear H
                                              try go_wp2
                                              have n0_ := Aside0.mk (Kd.R_drew HO_3.out)
                                              have n1_ := Aside0.mk (Kd.R_drew HO_5.out)
                                              have n2_ := Aside0.mk (Kd.R_drew HO_8.out)
                                              have n3_ := Aside0.mk (below_drew1 HB.out)
                                              clear HO_3
                                              clear HO_5
                                              clear HO_8
                                              clear HB
                                              have HO_3 := n0_
                                              have HO_5 := n1_
                                              have HO_8 := n2_
                                              have HB := n3_
                                              clear n0_ n1_ n2_ n3_
                                              obtain ⟨Ao74, co74, eo74⟩ := Kd.R_slice HO_8.out
                                              (first | subst eo74 | (injection eo74 with f1_ f2_ f3_; have f4_ := f1_.symm; have f5_ := f3_.symm; clear f1_ f2_ f3_; subst f4_; subst f5_))
                                              have p172 : 0 ≤ (x9_3 : Int) := of_decide_eq_true (by first | (with_reducible assumption) | assumption)
                                              have q172 : x9_3 < (x8_22.length : Int) := of_decide_eq_true (by first | (with_reducible assumption) | assumption)
                                              obtain ⟨ad172, e172, hx172_0⟩ := Kd.at_int (Kd.R_reads' HO_8.out).2.2 x9_3 p172 q172
                                              cases e172
                                              replace p172 := eq_true p172
                                              replace q172 := eq_true q172
                                              obtain ⟨Ao75, co75, eo75⟩ := Kd.R_slice HO_5.out
                                              (first | subst eo75 | (injection eo75 with f1_ f2_ f3_; have f4_ := f1_.symm; have f5_ := f3_.symm; clear f1_ f2_ f3_; subst f4_; subst f5_))
                                              have p173 : 0 ≤ ((ji69) : Int) := of_decide_eq_true (by first | (with_reducible assumption) | assumption)
                                              have q173 : (ji69) < (x5_3.length : Int) := of_decide_eq_true (by first | (with_reducible assumption) | assumption)
                                              obtain ⟨ad173, e173, hx173_0⟩ := Kd.at_int (Kd.R_reads' HO_5.out).2.2 (ji69) p173 q173
                                              cases e173
                                              replace p173 := eq_true p173
                                              replace q173 := eq_true q173
                                              refine start_ (n := 20) (S := fun w' => w'.cell? (ad172.add (x9_3).toNat) = some (.int .i64 (rd x8_22 x9_3)) ∧ w'.cell? (ad173.add ((ji69)).toNat) = some (.int .u8 (rd x5_3 (ji69)))) (ds := [17, 18]) #[false, false, false, false, false, false, false, false, false, false, false, false, false, false, false, false, false, false, false, false] (by kernel_rfl) rfl rfl ⟨hx172_0, hx173_0⟩ (fun hHeld => ?_); refine with_tabW redoubtref08_Keys.tab17 redoubtref08_Keys.bits17 (fun HT_ HW_ => ?_)
                                              generalize wr.drew = w73 at HO_3 HO_5 HO_8 HB hx172_0 hx173_0 hHeld ⊢
                                              refine pure_ (i := 0) (N := some 123) (v := ?_) (a' := ?_) #[true, false, false, false, false, false, false, false, false, false, false, false, false, false, false, false, false, false, false, false] rfl rfl (any_of HT_.out (by kernel_rfl)) (fun _ _ _ h => h) (Or.inl ⟨by rfl, ?_⟩) ?_ ?_
                                              rotate_left
                                              · intro w'
                                                go_simp
                                                with_reducible rfl
                                              rotate_left
                                              · simp only [Act.put, List.setIfInBounds_toArray, List.set_cons_zero, List.set_cons_succ, i64_w, i32_w]
                                                rfl
                                              refine pure_ (i := 1) (N := some 124) (v := ?_) (a' := ?_) #[true, true, false, false, false, false, false, false, false, false, false, false, false, false, false, false, false, false, false, false] rfl rfl (any_of HT_.out (by kernel_rfl)) (fun _ _ _ h => h) (Or.inl ⟨by rfl, ?_⟩) ?_ ?_
                                              rotate_left
                                              · intro w'
                                                go_simp
                                                with_reducible rfl
                                              rotate_left
                                              · simp only [Act.put, List.setIfInBounds_toArray, List.set_cons_zero, List.set_cons_succ, i64_w, i32_w]
                                                rfl
                                              refine pure_ (i := 2) (N := some 125) (v := ?_) (a' := ?_) #[true, true, true, false, false, false, false, false, false, false, false, false, false, false, false, false, false, false, false, false] rfl rfl (any_of HT_.out (by kernel_rfl)) (fun _ _ _ h => h) (Or.inl ⟨by rfl, ?_⟩) ?_ ?_
                                              rotate_left
                                              · intro w'
                                                go_simp
                                                with_reducible rfl
                                              rotate_left
                                              · simp only [Act.put, List.setIfInBounds_toArray, List.set_cons_zero, List.set_cons_succ, i64_w, i32_w]
                                                rfl
                                              refine pure_ (i := 3) (N := some 126) (v := ?_) (a' := ?_) #[true, true, true, true, false, false, false, false, false, false, false, false, false, false, false, false, false, false, false, false] rfl rfl (any_of HT_.out (by kernel_rfl)) (fun _ _ _ h => h) (Or.inl ⟨by rfl, ?_⟩) ?_ ?_
                                              rotate_left
                                              · intro w'
                                                go_simp
                                                with_reducible rfl
                                              rotate_left
                                              · simp only [Act.put, List.setIfInBounds_toArray, List.set_cons_zero, List.set_cons_succ, i64_w, i32_w]
                                                rfl
                                              refine pure_ (i := 5) (N := some 128) (v := ?_) (a' := ?_) #[true, true, true, true, false, true, false, false, false, false, false, false, false, false, false, false, false, false, false, false] rfl rfl (any_of HT_.out (by kernel_rfl)) (fun _ _ _ h => h) (Or.inl ⟨by rfl, ?_⟩) ?_ ?_
                                              rotate_left
                                              · intro w'
                                                go_simp
                                                with_reducible rfl
                                              rotate_left
                                              · simp only [Act.put, List.setIfInBounds_toArray, List.set_cons_zero, List.set_cons_succ, i64_w, i32_w]
                                                rfl
                                              refine pure_ (i := 6) (N := some 129) (v := ?_) (a' := ?_) #[true, true, true, true, false, true, true, false, false, false, false, false, false, false, false, false, false, false, false, false] rfl rfl (any_of HT_.out (by kernel_rfl)) (fun _ _ _ h => h) (Or.inl ⟨by rfl, ?_⟩) ?_ ?_
                                              rotate_left
                                              · intro w'
                                                go_simp
                                                with_reducible rfl
                                              rotate_left
                                              · simp only [Act.put, List.setIfInBounds_toArray, List.set_cons_zero, List.set_cons_succ, i64_w, i32_w]
                                                rfl
                                              refine pure_ (i := 7) (N := some 130) (v := ?_) (a' := ?_) #[true, true, true, true, false, true, true, true, false, false, false, false, false, false, false, false, false, false, false, false] rfl rfl (any_of HT_.out (by kernel_rfl)) (fun _ _ _ h => h) (Or.inl ⟨by rfl, ?_⟩) ?_ ?_
                                              rotate_left
                                              · intro w'
                                                go_simp
                                                with_reducible rfl
                                              rotate_left
                                              · simp only [Act.put, List.setIfInBounds_toArray, List.set_cons_zero, List.set_cons_succ, i64_w, i32_w]
                                                rfl
                                              refine pure_ (i := 8) (N := some 131) (v := ?_) (a' := ?_) #[true, true, true, true, false, true, true, true, true, false, false, false, false, false, false, false, false, false, false, false] rfl rfl (any_of HT_.out (by kernel_rfl)) (fun _ _ _ h => h) (Or.inl ⟨by rfl, ?_⟩) ?_ ?_
                                              rotate_left
                                              · intro w'
                                                go_simp
                                                with_reducible rfl
                                              rotate_left
                                              · simp only [Act.put, List.setIfInBounds_toArray, List.set_cons_zero, List.set_cons_succ, i64_w, i32_w]
                                                rfl
                                              refine pure_ (i := 9) (N := some 132) (v := ?_) (a' := ?_) #[true, true, true, true, false, true, true, true, true, true, false, false, false, false, false, false, false, false, false, false] rfl rfl (any_of HT_.out (by kernel_rfl)) (fun _ _ _ h => h) (Or.inl ⟨by rfl, ?_⟩) ?_ ?_
                                              rotate_left
                                              · intro w'
                                                go_simp
                                                with_reducible rfl
                                              rotate_left
                                              · simp only [Act.put, List.setIfInBounds_toArray, List.set_cons_zero, List.set_cons_succ, i64_w, i32_w]
                                                rfl
                                              refine pure_ (i := 10) (N := some 133) (v := ?_) (a' := ?_) #[true, true, true, true, false, true, true, true, true, true, true, false, false, false, false, false, false, false, false, false] rfl rfl (any_of HT_.out (by kernel_rfl)) (fun _ _ _ h => h) (Or.inl ⟨by rfl, ?_⟩) ?_ ?_
                                              rotate_left
                                              · intro w'
                                                go_simp
                                                with_reducible rfl
                                              rotate_left
                                              · simp only [Act.put, List.setIfInBounds_toArray, List.set_cons_zero, List.set_cons_succ, i64_w, i32_w]
                                                rfl
                                              refine pure_ (i := 11) (N := some 134) (v := ?_) (a' := ?_) #[true, true, true, true, false, true, true, true, true, true, true, true, false, false, false, false, false, false, false, false] rfl rfl (any_of HT_.out (by kernel_rfl)) (fun _ _ _ h => h) (Or.inl ⟨by rfl, ?_⟩) ?_ ?_
                                              rotate_left
                                              · intro w'
                                                go_simp
                                                with_reducible rfl
                                              rotate_left
                                              · simp only [Act.put, List.setIfInBounds_toArray, List.set_cons_zero, List.set_cons_succ, i64_w, i32_w]
                                                rfl
                                              refine pure_ (i := 12) (N := some 135) (v := ?_) (a' := ?_) #[true, true, true, true, false, true, true, true, true, true, true, true, true, false, false, false, false, false, false, false] rfl rfl (any_of HT_.out (by kernel_rfl)) (fun _ _ _ h => h) (Or.inl ⟨by rfl, ?_⟩) ?_ ?_
                                              rotate_left
                                              · intro w'
                                                go_simp
                                                with_reducible rfl
                                              rotate_left
                                              · simp only [Act.put, List.setIfInBounds_toArray, List.set_cons_zero, List.set_cons_succ, i64_w, i32_w]
                                                rfl
                                              refine take_ (i := 4) (N := some 127) (v := ?_) (a' := ?_) #[true, true, true, true, true, true, true, true, true, true, true, true, true, false, false, false, false, false, false, false] rfl rfl (take_ofW HT_.out HW_.out (by kernel_rfl)) (fun _ _ _ h => h) (Or.inl ⟨by rfl, ?_⟩) hHeld ?_ ?_
                                              rotate_left
                                              · rintro w' ⟨s0, s1⟩
                                                go_simp
                                                with_reducible rfl
                                              rotate_left
                                              · simp only [Act.put, List.setIfInBounds_toArray, List.set_cons_zero, List.set_cons_succ, i64_w, i32_w]
                                                rfl
                                              refine take_ (i := 13) (N := some 136) (v := ?_) (a' := ?_) #[true, true, true, true, true, true, true, true, true, true, true, true, true, true, false, false, false, false, false, false] rfl rfl (take_ofW HT_.out HW_.out (by kernel_rfl)) (fun _ _ _ h => h) (Or.inl ⟨by rfl, ?_⟩) hHeld ?_ ?_
                                              rotate_left
                                              · rintro w' ⟨s0, s1⟩
                                                go_simp
                                                with_reducible rfl
                                              rotate_left
                                              · simp only [Act.put, List.setIfInBounds_toArray, List.set_cons_zero, List.set_cons_succ, i64_w, i32_w]
                                                rfl
                                              refine pure_ (i := 14) (N := some 137) (v := ?_) (a' := ?_) #[true, true, true, true, true, true, true, true, true, true, true, true, true, true, true, false, false, false, false, false] rfl rfl (any_of HT_.out (by kernel_rfl)) (fun _ _ _ h => h) (Or.inl ⟨by rfl, ?_⟩) ?_ ?_
                                              rotate_left
                                              · intro w'
                                                go_simp
                                                with_reducible rfl
                                              rotate_left
                                              · simp only [Act.put, List.setIfInBounds_toArray, List.set_cons_zero, List.set_cons_succ, i64_w, i32_w]
                                                rfl
                                              refine pure_ (i := 15) (N := some 138) (v := ?_) (a' := ?_) #[true, true, true, true, true, true, true, true, true, true, true, true, true, true, true, true, false, false, false, false] rfl rfl (any_of HT_.out (by kernel_rfl)) (fun _ _ _ h => h) (Or.inl ⟨by rfl, ?_⟩) ?_ ?_
                                              rotate_left
                                              · intro w'
                                                go_simp
                                                with_reducible rfl
                                              rotate_left
                                              · simp only [Act.put, List.setIfInBounds_toArray, List.set_cons_zero, List.set_cons_succ, i64_w, i32_w]
                                                rfl
                                              refine pure_ (i := 16) (N := some 139) (v := ?_) (a' := ?_) #[true, true, true, true, true, true, true, true, true, true, true, true, true, true, true, true, true, false, false, false] rfl rfl (any_of HT_.out (by kernel_rfl)) (fun _ _ _ h => h) (Or.inl ⟨by rfl, ?_⟩) ?_ ?_
                                              rotate_left
                                              · intro w'
                                                go_simp
                                                with_reducible rfl
                                              rotate_left
                                              · simp only [Act.put, List.setIfInBounds_toArray, List.set_cons_zero, List.set_cons_succ, i64_w, i32_w]
                                                rfl
                                              refine last_ (i := 17) (N := some 140) #[true, true, true, true, true, true, true, true, true, true, true, true, true, true, true, true, true, true, false, false] rfl rfl (one_of HT_.out (by kernel_rfl)) (by decide) (fun K hK => ?_)
                                              refine value_ (w1 := ?_) (v := ?_) (by rfl) rfl ?_ ?_
                                              rotate_left 2
                                              · go_simp
                                                constructor
                                                · rfl
                                                · rfl
                                              refine hK.out _ _ ?_
                                              clear hK K
                                              refine norm_ (a' := ?_) ?_ ?_
                                              rotate_left
                                              · show Act.put _ (some 140) _ = _
                                                simp only [Act.put, List.setIfInBounds_toArray, List.set_cons_zero, List.set_cons_succ, i64_w, i32_w]
                                                rfl
                                              refine last_ (i := 18) (N := some 141) #[true, true, true, true, true, true, true, true, true, true, true, true, true, true, true, true, true, true, true, false] rfl rfl (one_of HT_.out (by kernel_rfl)) (by decide) (fun K hK => ?_)
                                              refine Kd.R_append_step (Kd.int .u8) (w0 := w) w.heap.size (by rfl) (.tmp 123) (.tmp 140) 22 5 (.int .u8 0) 1 rfl Try.underlying22 info5 rfl (by decide) (by omega) (.slice (some ad173) x5_3.length co75) x5_3 ((Go.bits .xor .i64 (rd x8_22 x9_3) (wrap64 (rd x5_3 (ji69)))) % 256) [.int .u8 ((Go.bits .xor .i64 (rd x8_22 x9_3) (wrap64 (rd x5_3 (ji69)))) % 256)] (fun k_ => (w.heap.size ≤ k_)) (fun _ => False) rfl rfl ?aP (fun _ hk => hk.elim) ?aF ?aO ?aB ?aS ?aL ?_
                                              (case aP => exact rfl)
                                              (case aB => exact (by repeat (first | (with_reducible first | exact HB.out | apply below_alloc | apply pw_below_drewN | apply below_drew1) | exact HB.out)))
                                              (case aF => exact (fun k_ hk => (Nat.le_trans (below_size (by repeat (first | (with_reducible first | exact HB.out | apply below_alloc | apply pw_below_drewN | apply below_drew1) | exact HB.out))) hk)))
                                              (case aO => exact (by (with_reducible repeat (first | apply Kd.R_alloc | apply Kd.R_drewN | apply Kd.R_drew)); exact HO_5.out))
                                              (case aS => exact (below_size (by repeat (first | (with_reducible first | exact HB.out | apply below_alloc | apply pw_below_drewN | apply below_drew1) | exact HB.out))))
                                              (case aL => have := LMc72.out; omega)
                                              intro v175 w76 ho hb hg hat
                                              rw [← Ny174.out] at ho
                                              have n0_ := Aside0.mk (Kd.R_over' (by (with_reducible repeat (first | apply Kd.R_alloc | apply Kd.R_drewN | apply Kd.R_drew)); exact HO_3.out) (Kd.R_typed (by (with_reducible repeat (first | apply Kd.R_alloc | apply Kd.R_drewN | apply Kd.R_drew)); exact HO_5.out)) (by decide) hg)
                                              have n1_ := Aside0.mk (Kd.R_over' (by (with_reducible repeat (first | apply Kd.R_alloc | apply Kd.R_drewN | apply Kd.R_drew)); exact HO_8.out) (Kd.R_typed (by (with_reducible repeat (first | apply Kd.R_alloc | apply Kd.R_drewN | apply Kd.R_drew)); exact HO_5.out)) (by decide) hg)
                                              have n2_ := Aside0.mk (hb)
                                              have n3_ := Aside0.mk (ho)
                                              clear HO_3
                                              clear HO_8
                                              clear HB
                                              clear HO_5
                                              have HO_3 := n0_
                                              have HO_8 := n1_
                                              have HB := n2_
                                              have HO176 := n3_
                                              clear n0_ n1_ n2_ n3_
                                              clear ho hb hg hat
                                              refine hK.out _ _ ?_
                                              clear hK K
                                              refine norm_ (a' := ?_) ?_ ?_
                                              rotate_left
                                              · show Act.put _ (some 141) _ = _
                                                simp only [Act.put, List.setIfInBounds_toArray, List.set_cons_zero, List.set_cons_succ, i64_w, i32_w]
                                                rfl
                                              refine pure_ (i := 19) (N := some 5) (v := ?_) (a' := ?_) #[true, true, true, true, true, true, true, true, true, true, true, true, true, true, true, true, true, true, true, true] rfl rfl (any_of HT_.out (by kernel_rfl)) (fun _ _ _ h => h) (Or.inl ⟨by rfl, ?_⟩) ?_ ?_
                                              rotate_left
                                              · intro w'
                                                go_simp
                                                with_reducible rfl
                                              rotate_left
                                              · simp only [Act.put, List.setIfInBounds_toArray, List.set_cons_zero, List.set_cons_succ, i64_w, i32_w]
                                                rfl
                                              refine done_ (done_of HT_.out (by kernel_rfl)) ?_
                                              try go_wp2
                                              go_roundg k3
                                              case measure => have := HK1.out; have := HJ22.out; have := HK3.out; omega
                                              case rel => exact ⟨(y174), (wrap64 (x9_3 + 1)), (by first | rfl | (simp; done) | (simp [*]; done)), H', ⟨by have := HK1.out; have := HJ22.out; have := HK3.out; omega⟩, ⟨by (with_reducible repeat (first | apply Kd.R_alloc | apply Kd.R_drewN | apply Kd.R_drew)); exact HO_3.out⟩, ⟨by (with_reducible repeat (first | apply Kd.R_alloc | apply Kd.R_drewN | apply Kd.R_drew)); exact HO176.out⟩, ⟨by (with_reducible repeat (first | apply Kd.R_alloc | apply Kd.R_drewN | apply Kd.R_drew)); exact HO_8.out⟩, ⟨by repeat (first | (with_reducible first | exact HB.out | apply below_alloc | apply pw_below_drewN | apply below_drew1) | exact HB.out)⟩⟩
                                            · rw [if_neg c72] at H
                                              exact absurd H (by simp)
                                          · rw [if_neg c71] at H
                                            exact absurd H (by simp)
                                        · rw [if_neg c70] at H
                                          exact absurd H (by simp)
                                      · rw [if_neg c68] at H
                                        exact absurd H (by simp)
                                    · rw [if_neg c67] at H
                                      exact absurd H (by simp)
                                  · rw [if_neg c66] at H
                                    have c66b0 : decide (x9_3 < 4) = false := decide_eq_false c66
                                    clear c66
                                    have H' := Aside0.mk H
                                    clear H
                                    go_wp2
                                    go_roundg k3
                                    case measure => have := HK1.out; have := HJ22.out; have := HK3.out; omega
                                    case rel => exact ⟨(x5_3), (x6_22), (wrap64 (x7_1 + 1)), (by first | rfl | (simp; done) | (simp [*]; done)), (by first | rfl | (simp; done) | (simp [*]; done)), H', ⟨by have := HK1.out; have := HJ22.out; have := HK3.out; omega⟩, ⟨by (with_reducible repeat (first | apply Kd.R_alloc | apply Kd.R_drewN | apply Kd.R_drew)); exact Kd.R_mono HO_3.out (fun _ hk => hk.1)⟩, ⟨by (with_reducible repeat (first | apply Kd.R_alloc | apply Kd.R_drewN | apply Kd.R_drew)); exact HO_5.out⟩, ⟨by repeat (first | (with_reducible first | exact HB.out | apply below_alloc | apply pw_below_drewN | apply below_drew1) | exact HB.out)⟩⟩
                      · rw [if_neg c21] at H
                        exact absurd H (by simp)
                    · rw [if_neg c20] at H
                      exact absurd H (by simp)
                  · rw [if_neg c18] at H
                    exact absurd H (by simp)
                · rw [if_neg c17] at H
                  exact absurd H (by simp)
              · rw [if_neg c15] at H
                exact absurd H (by simp)
            · rw [if_neg c14] at H
              exact absurd H (by simp)
          · rw [if_neg c12] at H
            exact absurd H (by simp)
        · rw [if_neg c11] at H
          exact absurd H (by simp)
      · rw [if_neg c9] at H
        have c9b0 : decide (x7_1 < (wrap64 (4 * (wrap64 ((wrap64 ((l0.length : Int) / 4)) + 7))))) = false := decide_eq_false c9
        clear c9
        obtain rfl := Option.some.inj H
        go_wp2
        go_ret
        exact ⟨_, by first | rfl | (simp [errW_none, errW_some] <;> rfl) | (simp [*, errW_none, errW_some] <;> rfl), by (with_reducible repeat (first | apply Kd.R_alloc | apply Kd.R_drewN | apply Kd.R_drew)); exact HO_5.out, by repeat (first | (with_reducible first | exact HB.out | apply below_alloc | apply pw_below_drewN | apply below_drew1) | exact HB.out)⟩

end Go.Proofs.Ytgkphopdmkfcgaa.PCtrTurns

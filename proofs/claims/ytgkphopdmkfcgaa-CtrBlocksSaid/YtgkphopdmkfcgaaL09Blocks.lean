/- CtrBlocks holds: a stream is the answers of its counters, one behind the other. Conditions: none beside the row's own reach. -/
import Derived.Test.YtgkphopdmkfcgaaCtrLaw
import Derived.Deep.RegionWith
namespace Go.Proofs.Ytgkphopdmkfcgaa
open Go.RowKit Go.Proofs.YtgkphopdmkfcgaaW.PrintWords


set_option maxHeartbeats 4000000 in
theorem CtrBlocks_any (A : Option Addr) (a c : Nat) (xs : List Int) (B : Option Addr) (b d : Nat) (ys : List Int) (C : Option Addr) (e f : Nat) (zs : List Int) (n : Int) (w : World)
    (h : Bts w A a c xs) (h2 : Bts w B b d ys) (h3 : Bts w C e f zs) (_hn : I64 n) :
    Calls Try.prog 6 #[.slice A a c, .slice B b d, .slice C e f, .int .i64 n] w fun q w' => q = .returned (.bool true) ∧ Below w.heap.size w w' := by
  have ha := h.max
  have hb := h2.max
  have he := h3.max
  go_enter Try.func6, Try.ntmps6
  go_wp2_with fail
  refine (law09_few A a c B b d C e f _ ha hb he).mono ?_
  rintro e w' ⟨rfl, rfl⟩
  by_cases q1 : fewB a b e = true
  case neg =>
    rw [show fewB a b e = false from Bool.eq_false_iff.2 q1]
    go_wp2_with fail
    refine (awake09 _).mono ?_
    rintro e w2 ⟨rfl, hB2⟩
    go_wp2
    go_ret
    exact ⟨rfl, hB2⟩
  rw [q1]
  by_cases q3 : n < 0
  · have d3 : decide (n < 0) = true := decide_eq_true q3
    go_wp2_with fail
    refine (awake09 _).mono ?_
    rintro e w2 ⟨rfl, hB2⟩
    go_wp2
    go_ret
    exact ⟨rfl, hB2⟩
  obtain ⟨i, rfl⟩ := Int.eq_ofNat_of_zero_le (by omega : 0 ≤ n)
  have d3 : decide ((i : Int) < 0) = false := decide_eq_false q3
  by_cases q4 : 20 < i
  · have d4 : decide ((20 : Int) < (i : Int)) = true := decide_eq_true (by omega)
    have d4' : decide (20 < i) = true := decide_eq_true q4
    go_wp2_with fail
    refine (awake09 _).mono ?_
    rintro e w2 ⟨rfl, hB2⟩
    go_wp2
    go_ret
    exact ⟨rfl, hB2⟩
  have d4 : decide ((20 : Int) < (i : Int)) = false := decide_eq_false (by omega)
  have d4' : decide (20 < i) = false := decide_eq_false q4
  have hB := Below.refl w.heap.size w
  go_wp2_with fail
  refine (ctr_Stream A a c xs B b d ys C e f zs (16 * (i : Int) + 16) w h h2 h3).mono ?_
  rintro q w2 ⟨A2, n2, c2, rfl, o2, hB2⟩
  have hS : strErr a b e (16 * (i : Int) + 16) = if (a = 16 ∨ a = 32) ∧ b = 4 ∧ e = 8 then 0 else 1 := by
    rw [← strErr_small (a := a) (b := b) (c := e) (n := 16 * i + 16) (by omega)]
    congr 1
  have hN : (16 * (i : Int) + 16).toNat = 16 * i + 16 := by omega
  rw [hS, hN] at o2
  rw [hS]
  clear hS hN
  replace hB := below_step2 hB hB2
  replace h := h.below hB
  have t2 := o2.sl
  clear o2 hB2
  by_cases hE : (a = 16 ∨ a = 32) ∧ b = 4 ∧ e = 8
  case neg =>
    rw [if_neg hE] at t2 ⊢
    have l2 := t2.len
    simp at l2
    subst l2
    clear t2
    go_wp2_with fail
    refine (ctr_Counter B b d ys C e f zs ((i : Int) + 1) w2 ⟨by omega, by omega⟩ (h2.below hB) (h3.below hB)).mono ?_
    rintro q w3 ⟨A3, n3, c3, rfl, o3, hB3⟩
    replace hB := below_step2 hB hB3
    replace h := h.below hB3
    have t3 := o3.sl
    clear o3 hB3
    by_cases hk : cntOk b e ((i : Int) + 1)
    · have hC : cntErr b e ((i : Int) + 1) = 0 := if_pos hk
      have hg : encErr a n3 = 1 := encErr_no (fun q => hE ⟨q.1, hk.1, hk.2.1⟩)
      rw [hC] at t3 ⊢
      clear hC hk hE h2 h3
      go_wp2_with fail
      refine (aes_Encrypt A a c xs A3 n3 c3 _ w3 h t3).mono ?_
      rintro q w4 ⟨A4, n4, c4, rfl, t4, hB4⟩
      replace hB := below_step2 hB hB4
      rw [hg]
      clear hg t3 t4 hB4 h
      go_wp2_with fail
      refine (awake09 _).mono ?_
      rintro e w5 ⟨rfl, hB5⟩
      replace hB := below_step2 hB hB5
      go_wp2
      go_ret
      exact ⟨rfl, hB⟩
    · have hC1 : cntErr b e ((i : Int) + 1) = 1 := if_neg hk
      rw [hC1] at t3 ⊢
      clear hC1 hk hE h2 h3
      go_wp2_with fail
      refine (aes_Encrypt A a c xs A3 n3 c3 _ w3 h t3).mono ?_
      rintro q w4 ⟨A4, n4, c4, rfl, t4, hB4⟩
      replace hB := below_step2 hB hB4
      clear t3 t4 hB4 h
      go_wp2_with fail
      refine (awake09 _).mono ?_
      rintro e w5 ⟨rfl, hB5⟩
      replace hB := below_step2 hB hB5
      go_wp2
      go_ret
      exact ⟨rfl, hB⟩
  case pos =>
  rw [if_pos hE] at t2 ⊢
  rw [if_pos rfl] at t2
  obtain ⟨hE1, rfl, rfl⟩ := hE
  replace hE1 := Lib.hid hE1
  go_wp2_with fail
  refine (ctr_Counter B 4 d ys C 8 f zs ((i : Int) + 1) w2 ⟨by omega, by omega⟩ (h2.below hB) (h3.below hB)).mono ?_
  rintro q w3 ⟨A3, n3, c3, rfl, o3, hB3⟩
  rw [cnt_ok i (by omega)] at o3 ⊢
  replace hB := below_step2 hB hB3
  replace h := h.below hB3
  replace t2 := t2.below hB3
  have t3 : Bts w3 A3 n3 c3 (cntS ys zs ((i : Int) + 1)) := o3.sl
  have l3 := t3.len
  rw [cntS_len _ h2.len h3.len] at l3
  subst l3
  clear o3 hB3 h2 h3
  go_wp2_with fail
  refine (aes_Encrypt A a c xs A3 16 c3 _ w3 h t3).mono ?_
  rintro q w4 ⟨A4, n4, c4, rfl, t4, hB4⟩
  rw [encErr_ok hE1.out rfl] at t4 ⊢
  replace hB := below_step2 hB hB4
  replace t2 := t2.below hB4
  replace t4 : Bts w4 A4 n4 c4 (ctrBlk (keysS xs) ys zs i) := t4
  clear t3 hB4 h
  have l2 := t2.len
  rw [strmS_len] at l2
  obtain ⟨ad, rfl, _⟩ := t2.some_ (by omega)
  have l5 := t2.le
  have t5 := t2.drop_some (16 * i) (by omega) (by omega)
  obtain ⟨q, hq⟩ : ∃ q, 16 * i = q := ⟨_, rfl⟩
  rw [strmS_block, hq, show n2 - q = 16 by omega] at t5
  generalize ctrBlk (keysS xs) ys zs i = X at t4 t5
  have cv := fun (W : World) (hW : Below w4.heap.size w4 W) => (⟨(t5.below hW).run_string (P := Try.prog) 22 9 Try.underlying22 Try.underlying5 Try.underlying9, (t4.below hW).run_string (P := Try.prog) 22 9 Try.underlying22 Try.underlying5 Try.underlying9⟩ :
    (convert 22 9 (.slice (some (ad.add q)) 16 (c2 - q))).run Try.prog W = .ok (.string (strOfNums X)) W ∧ (convert 22 9 (.slice A4 n4 c4)).run Try.prog W = .ok (.string (strOfNums X)) W)
  have RD := Lib.hid (cv _ (below_drew (Below.refl _ _)))
  replace cv := Lib.hid cv
  have BD := Lib.hid (below_drew hB)
  have w1 : IntKind.i64.wrap (16 * (i : Int)) = (q : Int) := by rw [IntWalk.i64_in _ (by omega)]; omega
  have j0 : (0 : Int) ≤ (q : Int) := by omega
  have j2 : (q : Int) ≤ (n2 : Int) := by omega
  have j2' : q ≤ n2 := by omega
  have j3 : n2 - q = 16 := by omega
  have j4 : ¬ (c2 = q) := by omega
  clear hE1 q1 q3 t2 t4 t5 hB hq l2 l5 d4 d4' q4
  go_wp2
  go_region_held3 (fun w' => (convert 22 9 (.slice (some (ad.add q)) 16 (c2 - q))).run Try.prog w' = .ok (.string (strOfNums X)) w' ∧ (convert 22 9 (.slice A4 n4 c4)).run Try.prog w' = .ok (.string (strOfNums X)) w')
    (first | exact R7.out | exact RD.out)
    (first
      | (go_at_call 15
         refine (awake09 _).mono ?_
         rintro e w7 ⟨rfl, hB7⟩
         have R7 := Lib.hid (cv.out w7 ((below_drew (Below.refl _ _)).trans (hB7.mono (Nat.le_refl _))))
         have B7 := Lib.hid (below_step2 BD.out hB7)
         clear hB7))
  all_goals
    go_wp2
    go_ret
    exact ⟨rfl, B7.out⟩
end Go.Proofs.Ytgkphopdmkfcgaa

/- Contracts of the retransmission timer's functions. Conditions: a timer that lies in memory, in its bounds. -/
import Derived.Test.YtmcidhdjbcjonaaBaseR
import Derived.Deep.QuietTactic
import Derived.BigQuiet
import Derived.BigRegion
namespace Go.Proofs.Ytmcidhdjbcjonaa
open Go.RowKit Go.Proofs.YtmcidhdjbcjonaaW.PrintWords

set_option maxHeartbeats 400000 in
theorem rto_New (w : World) : Calls Try.prog 8 #[] w fun e w' => e = .returned (.pointer (some ⟨w.heap.size, 0, none⟩)) ∧ Tm w' w.heap.size St.new ∧ Below w.heap.size w w' := by
  go_enter Try.func8, Try.ntmps8
  go_wp2
  go_ret
  exact ⟨rfl, ⟨blk_new _ _⟩, (Below.refl _ _).alloc (Nat.le_refl _) _⟩

set_option maxHeartbeats 400000 in
theorem rto_within (x : Int) (w : World) : Calls Try.prog 19 #[.int .i64 100, .int .i64 x, .int .i64 6000] w fun e w' => e = .returned (.int .i64 (clamp x)) ∧ w = w' := by
  go_enter Try.func19, Try.ntmps19
  go_wp2
  all_goals
    go_ret
    exact ⟨ret_int (by unfold clamp; (repeat split) <;> omega), rfl⟩

set_option maxHeartbeats 400000 in
theorem rto_Back (g : Nat) (t : St) (w : World) (h : Tm w g t) (hb : t.b ≤ 1000000) : Calls Try.prog (9) #[.pointer (some ⟨g, 0, none⟩)] w fun e w' => e = .returned (.int .i64 0) ∧ Tm w' g t.back ∧ w.grownBy w' (some g) := by
  have c3 := h.c3
  have f3 := h.f 3
  go_enter Try.func9, Try.ntmps9
  go_wp2
  go_ret
  refine ⟨rfl, ⟨?_⟩, grown_set w ⟨g, 3, none⟩ _⟩
  rw [blk_set h.blk]
  rfl

set_option maxHeartbeats 400000 in
theorem rto_Smooth (g : Nat) (t : St) (w : World) (h : Tm w g t) : Calls Try.prog (13) #[.pointer (some ⟨g, 0, none⟩)] w fun e w' => e = .returned (.tuple #[.int .i64 t.s, .int .i64 t.v]) ∧ ∃ n, w' = w.drewN n := by
  have c0 := h.c0
  have c1 := h.c1
  go_enter Try.func13, Try.ntmps13
  go_wp2
  go_quiet (fail)
  go_wp2
  go_ret2
  exact ⟨rfl, _, rfl⟩

set_option maxHeartbeats 1000000 in
theorem rto_once (g : Nat) (t : St) (w : World) (h : Tm w g t) (hok : t.ok) : Calls Try.prog (18) #[.pointer (some ⟨g, 0, none⟩)] w fun e w' => e = .returned (.int .i64 t.once) ∧ ∃ n, w' = w.drewN n := by
  have c0 := h.c0
  have c1 := h.c1
  have c2 := h.c2
  unfold St.ok at hok
  by_cases hk : t.k = true
  · rw [hk] at c2
    go_enter Try.func18, Try.ntmps18
    by_cases hv : t.v < 1
    · have hw1 : ¬ (1 < t.v) := by omega
      have e1 : IntKind.i64.wrap (t.s.tdiv 8) = t.s / 8 := by rw [tdiv_pos _ _ hok.1]; exact IntWalk.i64_in _ (by omega)
      have e2 : IntKind.i64.wrap (t.s / 8 + 1) = t.s / 8 + 1 := IntWalk.i64_in _ (by omega)
      go_wp2
      go_quiet ((go_at_call 19; exact quiet_same (rto_within _ _)))
      go_wp2
      go_ret
      exact ⟨ret_int (by unfold St.once; rw [if_pos hk, if_pos hv]), _, rfl⟩
    · have hw1 : decide (t.v < 1) = false := decide_eq_false hv
      have e1 : IntKind.i64.wrap (t.s.tdiv 8) = t.s / 8 := by rw [tdiv_pos _ _ hok.1]; exact IntWalk.i64_in _ (by omega)
      have e2 : IntKind.i64.wrap (t.s / 8 + t.v) = t.s / 8 + t.v := IntWalk.i64_in _ (by omega)
      go_wp2
      go_quiet ((go_at_call 19; exact quiet_same (rto_within _ _)))
      go_wp2
      go_ret
      exact ⟨ret_int (by unfold St.once; rw [if_pos hk, if_neg (by omega)]), _, rfl⟩
  · rw [show t.k = false by simpa using hk] at c2
    go_enter Try.func18, Try.ntmps18
    go_wp2
    go_ret
    exact ⟨ret_int (by unfold St.once; rw [if_neg hk]), 0, rfl⟩

set_option maxHeartbeats 2000000 in
theorem rto_Value (g : Nat) (t : St) (w : World) (h : Tm w g t) (hok : t.ok) (hb : t.b ≤ 1000000) : Calls Try.prog (15) #[.pointer (some ⟨g, 0, none⟩)] w fun e w' => e = .returned (.int .i64 t.value) ∧ ∃ n, w' = w.drewN n := by
  go_enter Try.func15, Try.ntmps15
  go_wp2_with fail
  refine (rto_once _ _ _ h hok).mono ?_
  rintro e w' ⟨rfl, nd, rfl⟩
  have c3 := h.c3
  have ob := t.once_bd
  go_wp2
  go_loop [4, 5] (fun vn vi => ∃ i : Nat, i ≤ t.b ∧ vi = .int .i64 i ∧ vn = .int .i64 (dbls i t.once)) (fun _ vi => t.b - (intOf vi).toNat)
  case atStart => exact ⟨0, by omega, rfl, rfl⟩
  case round =>
    obtain ⟨i, hi, rfl, rfl⟩ := hrel
    have hb2 := dbls_bd i t.once ob
    have hv : Hid (dbls (i + 1) t.once = dbl (dbls i t.once)) := rfl
    by_cases hlt : i < t.b
    · have l1 : decide ((i : Int) < (t.b : Int)) = true := decide_eq_true (by omega)
      have l1' : decide (i < t.b) = true := decide_eq_true hlt
      have htop : Hid (dbls i t.once = 6000 → t.value = 6000) := Lib.hid (fun e => dbls_top i _ e t.b (by omega))
      generalize dbls i t.once = y at hb2 hv htop ⊢
      by_cases hy : y < 6000
      · have l2 : decide (y < 6000) = true := decide_eq_true hy
        go_wp2_with fail
        refine (rto_within _ _).mono ?_
        rintro e w' ⟨rfl, rfl⟩
        go_wp2
        refine ⟨⟨i + 1, by omega, by go_num, val_int (by rw [hv.out]; unfold dbl clamp; split <;> (try split) <;> (try split) <;> omega)⟩, by simp [intOf]; omega⟩
      · have l2 : decide (y < 6000) = false := decide_eq_false hy
        go_wp2
        go_ret
        exact ⟨ret_int (by rw [htop.out (by omega)]; omega), _, rfl⟩
    · have hbi : Hid (i = t.b) := Lib.hid (by omega)
      have l1 : decide ((i : Int) < (t.b : Int)) = false := decide_eq_false (by omega)
      have l1' : decide (i < t.b) = false := decide_eq_false hlt
      go_wp2
      go_ret
      exact ⟨ret_int (by rw [hbi.out]; rfl), _, rfl⟩

set_option maxHeartbeats 1000000 in
theorem rto_Sample_bad (g : Nat) (n : Int) (w : World) (hn : n < 0 ∨ 1000000 < n) : Calls Try.prog (11) #[.pointer (some ⟨g, 0, none⟩), .int .i64 n] w fun e w' => e = .returned (.int .i64 1) ∧ w = w' := by
  by_cases h0 : n < 0
  · go_enter Try.func11, Try.ntmps11
    go_wp2
    go_ret
    exact ⟨rfl, rfl⟩
  · have h1 : 1000000 < n := by omega
    have d0 : decide (n < 0) = false := decide_eq_false h0
    go_enter Try.func11, Try.ntmps11
    go_wp2
    go_ret
    exact ⟨rfl, rfl⟩

set_option maxHeartbeats 2000000 in
theorem rto_Sample (g : Nat) (t : St) (n : Int) (w : World) (h : Tm w g t) (hok : t.ok) (h0 : 0 ≤ n) (h1 : n ≤ 1000000) : Calls Try.prog (11) #[.pointer (some ⟨g, 0, none⟩), .int .i64 n] w fun e w' => e = .returned (.int .i64 0) ∧ Tm w' g (t.sample n) ∧ w.grownBy w' (some g) := by
  have d0 : decide (n < 0) = false := decide_eq_false (by omega)
  have d1 : decide (1000000 < n) = false := decide_eq_false (by omega)
  have c0 := h.c0
  have c1 := h.c1
  have c2 := h.c2
  have c3 := h.c3
  have f0 := h.f 0
  have f1 := h.f 1
  have f2 := h.f 2
  have f3 := h.f 3
  unfold St.ok at hok
  by_cases hk : t.k = true
  · rw [hk] at c2
    go_enter Try.func11, Try.ntmps11
    go_wp2_with fail
    have hDb : -1000000 ≤ n - t.s / 8 ∧ n - t.s / 8 ≤ 1000000 := by omega
    have hs : Hid (t.sample n = ⟨t.s + (n - t.s / 8), t.v + ab (n - t.s / 8) - t.v / 4, true, 0⟩) := Lib.hid (by unfold St.sample; rw [if_pos hk])
    generalize n - t.s / 8 = D at hDb hs ⊢
    have e1 : IntKind.i64.wrap (-D) = -D := IntWalk.i64_in _ (by omega)
    have e2 : IntKind.i64.wrap (t.v.tdiv 4) = t.v / 4 := by rw [tdiv_pos _ _ hok.2.2.1]; exact IntWalk.i64_in _ (by omega)
    by_cases hD : D < 0
    · have m1 : D < -D := by omega
      have e3 : IntKind.i64.wrap (-D - t.v / 4) = -D - t.v / 4 := IntWalk.i64_in _ (by omega)
      have e4 : IntKind.i64.wrap (t.v + (-D - t.v / 4)) = t.v + (-D - t.v / 4) := IntWalk.i64_in _ (by omega)
      go_region
      go_wp2
      go_ret
      refine ⟨rfl, ⟨?_⟩, ?_⟩
      · have q := blk_set (blk_set (blk_set h.blk 0 (.int .i64 (t.s + D))) 1 (.int .i64 (t.v + (-D - t.v / 4)))) 3 (.int .i64 0)
        refine (blk_drew q).trans ?_
        rw [hs.out, show ab D = -D by unfold ab; split <;> omega]
        simp only [hk]
        simp
        omega
      · exact (((grown_set w ⟨g, 0, none⟩ _).trans (grown_set _ ⟨g, 1, none⟩ _)).trans (grown_set _ ⟨g, 3, none⟩ _)).trans (grown_drewN _ 1 _)
    · have m1 : decide (D < -D) = false := decide_eq_false (by omega)
      have e3 : IntKind.i64.wrap (D - t.v / 4) = D - t.v / 4 := IntWalk.i64_in _ (by omega)
      have e4 : IntKind.i64.wrap (t.v + (D - t.v / 4)) = t.v + (D - t.v / 4) := IntWalk.i64_in _ (by omega)
      go_region
      go_wp2
      go_ret
      refine ⟨rfl, ⟨?_⟩, ?_⟩
      · have q := blk_set (blk_set (blk_set h.blk 0 (.int .i64 (t.s + D))) 1 (.int .i64 (t.v + (D - t.v / 4)))) 3 (.int .i64 0)
        refine (blk_drew q).trans ?_
        rw [hs.out, show ab D = D by unfold ab; split <;> omega]
        simp only [hk]
        simp
        omega
      · exact (((grown_set w ⟨g, 0, none⟩ _).trans (grown_set _ ⟨g, 1, none⟩ _)).trans (grown_set _ ⟨g, 3, none⟩ _)).trans (grown_drewN _ 1 _)
  · rw [show t.k = false by simpa using hk] at c2
    go_enter Try.func11, Try.ntmps11
    go_wp2
    go_ret
    refine ⟨rfl, ⟨?_⟩, ?_⟩
    · have q := blk_set (blk_set (blk_set (blk_set h.blk 0 (.int .i64 (8 * n))) 1 (.int .i64 (2 * n))) 2 (.bool true)) 3 (.int .i64 0)
      rw [q]
      unfold St.sample
      rw [if_neg hk]
      rfl
    · exact (((grown_set w ⟨g, 0, none⟩ _).trans (grown_set _ ⟨g, 1, none⟩ _)).trans (grown_set _ ⟨g, 2, none⟩ _)).trans (grown_set _ ⟨g, 3, none⟩ _)

/-! ### nil -/
set_option maxHeartbeats 400000 in
theorem rto_Sample_nil (n : Int) (w : World) : Calls Try.prog (11) #[.pointer none, .int .i64 n] w fun e w' => e = .returned (.int .i64 3) ∧ w = w' := by
  go_enter Try.func11, Try.ntmps11
  go_wp2
  go_ret
  exact ⟨rfl, rfl⟩
set_option maxHeartbeats 400000 in
theorem rto_Back_nil (w : World) : Calls Try.prog (9) #[.pointer none] w fun e w' => e = .returned (.int .i64 3) ∧ w = w' := by
  go_enter Try.func9, Try.ntmps9
  go_wp2
  go_ret
  exact ⟨rfl, rfl⟩
set_option maxHeartbeats 400000 in
theorem rto_Value_nil (w : World) : Calls Try.prog (15) #[.pointer none] w fun e w' => e = .returned (.int .i64 0) ∧ w = w' := by
  go_enter Try.func15, Try.ntmps15
  go_wp2
  go_ret
  exact ⟨rfl, rfl⟩
set_option maxHeartbeats 400000 in
theorem rto_Smooth_nil (w : World) : Calls Try.prog (13) #[.pointer none] w fun e w' => e = .returned (.tuple #[.int .i64 0, .int .i64 0]) ∧ w = w' := by
  go_enter Try.func13, Try.ntmps13
  go_wp2
  go_ret2
  exact ⟨rfl, rfl⟩
end Go.Proofs.Ytmcidhdjbcjonaa

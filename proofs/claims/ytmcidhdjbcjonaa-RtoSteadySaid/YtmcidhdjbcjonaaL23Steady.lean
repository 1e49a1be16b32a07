/- RtoSteady holds: of samples that are all one number the smoothed time is that, and the variation falls; the value comes to it, or the least one. Conditions: none beside the row's own reach. -/
import Derived.Test.YtmcidhdjbcjonaaAwake23
namespace Go.Proofs.Ytmcidhdjbcjonaa
open Go.RowKit Go.Proofs.YtmcidhdjbcjonaaW.PrintWords

/-- The state behind k samples of n. -/
def steady (n : Int) : Nat → St
  | 0 => St.new
  | k + 1 => (steady n k).sample n
/-- The variation before, as the law keeps it. -/
def lastV (n : Int) : Nat → Int
  | 0 => 2 * n + 1
  | k + 1 => (steady n (k + 1)).v
theorem steady_is (n : Int) (h0 : 0 ≤ n) (h1 : n ≤ 1000000) (k : Nat) : (steady n (k + 1)).s = 8 * n ∧ (steady n (k + 1)).k = true ∧ (steady n (k + 1)).b = 0 ∧ 0 ≤ (steady n (k + 1)).v ∧ (steady n (k + 1)).v ≤ 2 * n := by
  induction k with
  | zero => refine ⟨by simp [steady, St.sample, St.new], by simp [steady, St.sample, St.new], by simp [steady, St.sample, St.new], by simp [steady, St.sample, St.new]; omega, by simp [steady, St.sample, St.new]⟩
  | succ k ih =>
    obtain ⟨a, b, c, d, e⟩ := ih
    rw [steady]
    unfold St.sample
    rw [if_pos b]
    simp only
    rw [a, show n - 8 * n / 8 = 0 by omega]
    refine ⟨by omega, trivial, trivial, ?_, ?_⟩ <;> simp [ab] <;> omega
theorem steady_v (n : Int) (h0 : 0 ≤ n) (h1 : n ≤ 1000000) (k : Nat) : (steady n (k + 1 + 1)).v = (steady n (k + 1)).v - (steady n (k + 1)).v / 4 := by
  obtain ⟨a, b, c, d, e⟩ := steady_is n h0 h1 k
  rw [steady]
  conv => lhs; unfold St.sample
  rw [if_pos b]
  simp only
  rw [a, show n - 8 * n / 8 = 0 by omega]
  simp [ab]
theorem steady_ok (n : Int) (h0 : 0 ≤ n) (h1 : n ≤ 1000000) (k : Nat) : (steady n k).ok := by
  cases k with
  | zero => exact St.ok_new
  | succ k =>
    obtain ⟨a, b, c, d, e⟩ := steady_is n h0 h1 k
    unfold St.ok
    omega
/-- What the law asks of a round. -/
theorem steady_round (n : Int) (h0 : 0 ≤ n) (h1 : n ≤ 1000000) (k : Nat) : 0 ≤ (steady n (k + 1)).v ∧ (steady n (k + 1)).v ≤ lastV n k ∧ (3 < lastV n k → 0 < k → (steady n (k + 1)).v < lastV n k) ∧ -1 ≤ lastV n k ∧ lastV n k ≤ 2 * n + 1 := by
  obtain ⟨a, b, c, d, e⟩ := steady_is n h0 h1 k
  cases k with
  | zero => simp only [lastV]; omega
  | succ k =>
    obtain ⟨a', b', c', d', e'⟩ := steady_is n h0 h1 k
    have := steady_v n h0 h1 k
    simp only [lastV]
    omega
theorem steady_value (n : Int) (h0 : 0 ≤ n) (h1 : n ≤ 1000000) (k : Nat) : (steady n (k + 1)).value = clamp (n + (if (steady n (k + 1)).v < 1 then 1 else (steady n (k + 1)).v)) := by
  obtain ⟨a, b, c, d, e⟩ := steady_is n h0 h1 k
  unfold St.value
  rw [c]
  unfold dbls St.once
  rw [if_pos b, a, show 8 * n / 8 = n by omega]

theorem steady_law (n v : Int) : mnn (mxx n 100) 6000 ≤ clamp (n + (if v < 1 then 1 else v)) ∧ clamp (n + (if v < 1 then 1 else v)) ≤ mnn (mxx (n + mxx v 1) 100) 6000 := by
  unfold mnn mxx clamp
  constructor <;> (repeat' split) <;> omega

attribute [local go_sem ↓] max_word min_word
set_option maxHeartbeats 4000000 in
theorem RtoSteady_any (n m : Int) (w : World) (_hn : I64 n) (_hm : I64 m) :
    Calls Try.prog 5 #[.int .i64 n, .int .i64 m] w fun e w' => e = .returned (.bool true) ∧ Below w.heap.size w w' := by
  by_cases q1 : n < 0
  · go_enter Try.func5, Try.ntmps5
    go_wp2
    go_ret
    exact ⟨rfl, Below.refl _ _⟩
  have d1 : decide (n < 0) = false := decide_eq_false q1
  by_cases q2 : 1000000 < n
  · go_enter Try.func5, Try.ntmps5
    go_wp2
    go_ret
    exact ⟨rfl, Below.refl _ _⟩
  have d2 : decide (1000000 < n) = false := decide_eq_false q2
  by_cases q3 : m < 1
  · go_enter Try.func5, Try.ntmps5
    go_wp2
    go_ret
    exact ⟨rfl, Below.refl _ _⟩
  have d3 : decide (m < 1) = false := decide_eq_false q3
  by_cases q4 : 200 < m
  · go_enter Try.func5, Try.ntmps5
    go_wp2
    go_ret
    exact ⟨rfl, Below.refl _ _⟩
  have d4 : decide (200 < m) = false := decide_eq_false q4
  go_enter Try.func5, Try.ntmps5
  go_wp2_with fail
  refine (rto_New _).mono ?_
  rintro e w1 ⟨rfl, t1, hB⟩
  have hbase : w.heap.size ≤ w1.heap.size := hB.size
  go_wp2
  go_loopw [6, 7] (fun vl vi wr => ∃ k : Nat, (k : Int) ≤ m ∧ vi = .int .i64 k ∧ vl = .int .i64 (lastV n k) ∧ Hid (Tm wr w.heap.size (steady n k)) ∧ Hid (Below w.heap.size w wr)) (fun _ vi _ => m.toNat - (intOf vi).toNat)
  case atStart => exact ⟨0, by omega, rfl, rfl, t1, hB⟩
  case round =>
    clear t1 hB
    obtain ⟨k, hk, rfl, rfl, ht, hB⟩ := hrel
    by_cases hlt : (k : Int) < m
    · have hr := steady_round n (by omega) (by omega) k
      have hs := steady_is n (by omega) (by omega) k
      have hok := steady_ok n (by omega) (by omega) k
      go_wp2_with fail
      refine (rto_Sample _ _ _ _ ht.out hok (by omega) (by omega)).mono ?_
      rintro e w2 ⟨rfl, t2, hg⟩
      replace hB := below_grown hB.out hB.out.size hg (Nat.le_refl _)
      clear hg ht
      rw [show (steady n k).sample n = steady n (k + 1) from rfl] at t2
      go_wp2_with fail
      refine (rto_Smooth _ _ _ t2).mono ?_
      rintro e w' ⟨rfl, nq, rfl⟩
      replace t2 := t2.drewN nq
      replace hB := pw_below_drewN hB nq
      generalize w2.drewN nq = w3 at t2 hB ⊢
      rw [hs.1]
      have T2 := Lib.hid t2
      have HB := Lib.hid hB
      have hl : Hid (lastV n (k + 1) = (steady n (k + 1)).v) := rfl
      clear t2 hB hs hok
      generalize (steady n (k + 1)).v = v1 at hr hl ⊢
      generalize lastV n k = l at hr ⊢
      have x1 : decide (l < v1) = false := decide_eq_false (by omega)
      have x2 : decide (v1 < 0) = false := decide_eq_false (by omega)
      by_cases y1 : 3 < l
      · by_cases y2 : 0 < k
        · have x3 : decide (l ≤ v1) = false := decide_eq_false (by omega)
          clear hr
          go_wp2
          exact ⟨⟨k + 1, by omega, by go_num, val_int hl.out.symm, T2, HB⟩, by simp [intOf]; omega⟩
        · have x3 : decide ((0 : Int) < (k : Int)) = false := decide_eq_false (by omega)
          have x4 : decide (0 < k) = false := decide_eq_false y2
          clear hr
          go_wp2
          exact ⟨⟨k + 1, by omega, by go_num, val_int hl.out.symm, T2, HB⟩, by simp [intOf]; omega⟩
      · have x3 : decide (3 < l) = false := decide_eq_false y1
        clear hr
        go_wp2
        exact ⟨⟨k + 1, by omega, by go_num, val_int hl.out.symm, T2, HB⟩, by simp [intOf]; omega⟩
    · obtain ⟨j, rfl⟩ : ∃ j, k = j + 1 := ⟨k - 1, by omega⟩
      have hsv := Lib.hid (steady_value n (by omega) (by omega) j)
      have hs := steady_is n (by omega) (by omega) j
      have hok := steady_ok n (by omega) (by omega) (j + 1)
      replace hB := hB.out
      replace ht := ht.out
      rw [show lastV n (j + 1) = (steady n (j + 1)).v from rfl]
      have hA := Lib.hid (steady_law n (steady n (j + 1)).v)
      go_wp2_with fail
      refine (awake23 _).mono ?_
      rintro e w2 ⟨rfl, hB2⟩
      replace hB2 := below_step2 (w := wr) (by repeat (first | exact Below.refl _ _ | apply below_alloc | apply below_drew | apply pw_below_drewN)) hB2
      replace ht := ht.below hB2
      replace hB := below_step2 hB hB2
      clear hB2
      go_wp2_with fail
      refine (rto_Value _ _ _ ht hok (by omega)).mono ?_
      rintro e w' ⟨rfl, nq, rfl⟩
      replace ht := ht.drewN nq
      replace hB := pw_below_drewN hB nq
      generalize w2.drewN nq = w3 at ht hB ⊢
      rw [hsv.out]
      have hm : 1 ≤ mxx (steady n (j + 1)).v 1 ∧ mxx (steady n (j + 1)).v 1 ≤ 3000000 := by unfold mxx; split <;> omega
      obtain ⟨a1, a2⟩ := hA.out
      have z1 := decide_eq_true a1
      have z2 := decide_eq_true a2
      clear a1 a2
      generalize (steady n (j + 1)).v = v at z1 z2 hm hsv ⊢
      generalize hV : clamp (n + (if v < 1 then 1 else v)) = V at z1 z2 hsv ⊢
      replace hV := Lib.hid hV
      go_wp2_with fail
      refine (rto_Value _ _ _ ht hok (by omega)).mono ?_
      rintro e w' ⟨rfl, n5, rfl⟩
      rw [hsv.out]
      go_wp2
      go_ret
      exact ⟨rfl, pw_below_drewN hB n5⟩
end Go.Proofs.Ytmcidhdjbcjonaa

/- Contract of a block under a key; the document's examples of layer 8 hold. Conditions: each argument is of its Go type. -/
import Derived.Test.YthjcdfnchjbijaaCAesE
import Derived.Test.YthjcdfnchjbijaaAesLaw
namespace Go.Proofs.Ythjcdfnchjbijaa
open Go.RowKit Go.Proofs.YthjcdfnchjbijaaW.PrintWords

theorem encErr_ok {n m : Nat} (h1 : n = 16 ∨ n = 32) (h2 : m = 16) : encErr n m = 0 := if_pos ⟨h1, h2⟩
theorem encErr_no {n m : Nat} (h : ¬ ((n = 16 ∨ n = 32) ∧ m = 16)) : encErr n m = 1 := if_neg h
theorem keyErr_zero {n : Nat} : keyErr n = 0 ↔ n = 16 ∨ n = 32 := by
  unfold keyErr
  by_cases h : n = 16 ∨ n = 32
  · rw [if_pos h]; exact ⟨fun _ => h, fun _ => rfl⟩
  · rw [if_neg h]; exact ⟨(fun e => by cases e), fun e => absurd e h⟩
theorem keys_blk {ks : List Int} {n m : Nat} (hl : ks.length = n) (h : n = 16 ∨ n = 32) : blkErr (keysS ks).length m = encErr n m := by
  subst hl
  rw [keysS_len h]
  unfold blkErr encErr
  rcases h with h | h <;> rw [h] <;> simp

set_option maxHeartbeats 1000000 in
theorem aes_Encrypt (A : Option Addr) (n c : Nat) (ks : List Int) (B : Option Addr) (m d : Nat) (ys : List Int) (w : World) (h : Bts w A n c ks) (h2 : Bts w B m d ys) :
    Calls Try.prog 15 #[.slice A n c, .slice B m d] w (ReadPost (encErr n m) (blockS (keysS ks) ys) w) := by
  have hl := h.len
  go_enter Try.func15, Try.ntmps15
  go_wp2_with fail
  refine (aes_Keys A n c ks w h).mono ?_
  rintro e w2 ⟨A2, n2, c2, rfl, o2, hB2⟩
  replace h2 := h2.below hB2
  by_cases hn : n = 16 ∨ n = 32
  · rw [keyErr_zero.2 hn] at o2 ⊢
    rw [if_pos rfl] at o2
    have hl2 := o2.sl.len
    have hE := keys_blk (m := m) hl hn
    rw [hl2] at hE
    replace hE := Lib.hid hE
    clear hn hl hl2
    go_wp2_with fail
    refine (aes_Block A2 n2 c2 _ B m d ys w2 o2.sl h2).mono ?_
    rintro e w3 ⟨A3, n3, c3, rfl, t3, hB3⟩
    rw [hE.out] at t3 ⊢
    go_wp2
    go_ret2
    exact ⟨_, _, _, rfl, t3, below_step2 hB2 hB3⟩
  · rw [show keyErr n = 1 from if_neg hn]
    have hE := Lib.hid (encErr_no (m := m) (fun q => hn q.1))
    clear hn hl o2
    go_wp2
    go_ret2
    show ReadPost _ _ _ _ _
    rw [hE.out]
    exact ⟨none, 0, 0, rfl, Bts.nil_ none 0 _ (by omega), hB2⟩

def upTo (m : Int) (k : Nat) : List Int := map16 fun i => if i < k then (m * i) % 256 else 0
theorem upTo_len (m : Int) (k : Nat) : (upTo m k).length = 16 := map16_len _
theorem upTo_succ (m : Int) (k : Nat) (_hk : k < 16) : (upTo m k).set k ((m * k) % 256) = upTo m (k + 1) := by
  refine eq_map16 _ _ (by rw [List.length_set, upTo_len]) fun i hi => ?_
  rw [get_set _ _ _ _ (by rw [upTo_len]; exact hi)]
  unfold upTo
  by_cases e : i = k
  · subst e; rw [if_pos rfl, if_pos (by omega)]
  · rw [if_neg e, map16_get _ _ hi]
    by_cases e2 : i < k
    · rw [if_pos e2, if_pos (by omega)]
    · rw [if_neg e2, if_neg (by omega)]
theorem upTo_key : upTo 1 16 = exKey := by decide +kernel
theorem upTo_in : upTo 17 16 = exIn := by decide +kernel
theorem upTo_zero (m : Int) : upTo m 0 = z16 := by
  refine (eq_map16 _ _ rfl fun i _ => ?_).symm
  rw [if_neg (by omega)]
  exact z16_get i
theorem make16 (W : World) : (Instr.makeSlice 28 (.int .i64 16) (.int .i64 16)).run Try.prog W = .ok (.slice (some ⟨W.heap.size, 0, none⟩) 16 16) (W.alloc (.cells (cellsB z16) 5)) := by
  obtain ⟨i0, hi0, hz0, hi2, hb0⟩ := info_parts Try.info5
  have h := run_make (P := Try.prog) W 28 5 i0 _ Try.underlying28 hi0 hz0 .i64 .i64 16 16 (by omega) (by omega) (by rw [hb0]; decide) (by omega)
  rw [hi2, show madeCells (Value.int .u8 0).cells (Int.toNat 16 * 1) = cellsB z16 by kernel_rfl] at h
  exact h
set_option maxHeartbeats 2000000 in
theorem awake08 (w : World) : Calls Try.prog 8 #[] w fun e w' => e = .returned (.bool true) ∧ Below w.heap.size w w' := by
  have mk := make16
  have K := Lib.hid ((Arr.at_ w w.heap.size 5 z16 rfl).alloc (.cells (cellsB z16) 5))
  have I := Lib.hid (Arr.at_ (w.alloc (.cells (cellsB z16) 5)) (w.heap.size + 1) 5 z16 (by simp))
  have HB := Lib.hid (below_alloc (below_alloc (Below.refl w.heap.size w) (.cells (cellsB z16) 5)) (.cells (cellsB z16) 5))
  go_enter Try.func8, Try.ntmps8
  go_wp2
  clear mk
  generalize hg : w.heap.size = g at K I
  go_loopw [3] (fun vi wr => ∃ (i : Nat), vi = .int .i64 (i : Int) ∧ i ≤ 16 ∧ Hid (Arr wr g 5 (upTo 1 i)) ∧ Hid (Arr wr (g + 1) 5 (upTo 17 i)) ∧ Hid (Below g w wr)) (fun vi _ => 16 - (intOf vi).toNat)
  case atStart => exact ⟨0, rfl, by omega, Lib.hid (by rw [upTo_zero]; exact K.out), Lib.hid (by rw [upTo_zero]; exact I.out), hg ▸ HB⟩
  case round =>
    clear K I HB
    obtain ⟨i, rfl, hi, K, I, HB⟩ := hrel
    by_cases h0 : i < 16
    · have i2 : (0 : Int) ≤ (i : Int) := by omega
      have i3 : (i : Int) < 16 := by omega
      have cK := K.out.cell i (by rw [upTo_len]; exact h0)
      have fK := K.out.free i
      have I1 := Lib.hid (I.out.far (p := ⟨g, i, none⟩) (by simp) (.int .u8 (i : Int)))
      have cI := I1.out.cell i (by rw [upTo_len]; exact h0)
      have fI := I1.out.free i
      have K2 := Lib.hid ((K.out.set i ((1 * (i : Int)) % 256)).far (p := ⟨g + 1, i, none⟩) (by simp) (.int .u8 ((17 * (i : Int)) % 256)))
      rw [show (1 * (i : Int)) % 256 = (i : Int) by omega] at K2
      have I2 := Lib.hid (I1.out.set i ((17 * (i : Int)) % 256))
      rw [show (17 * (i : Int)) % 256 = 17 * (i : Int) by omega] at K2 I2
      have B2 := Lib.hid (below_set (below_set HB.out (p := ⟨g, i, none⟩) (Nat.le_refl _) (.int .u8 (i : Int))) (p := ⟨g + 1, i, none⟩) (by simp) (.int .u8 (17 * (i : Int))))
      have e1 := upTo_succ 1 i h0
      rw [show (1 * (i : Int)) % 256 = (i : Int) by omega] at e1
      have e2 := upTo_succ 17 i h0
      rw [show (17 * (i : Int)) % 256 = 17 * (i : Int) by omega] at e2
      rw [e1] at K2
      rw [e2] at I2
      clear e1 e2 K I I1 HB
      go_wp2
      exact ⟨⟨i + 1, by go_num, by omega, K2, I2, B2⟩, by simp [intOf]; omega⟩
    · obtain rfl : i = 16 := by omega
      rw [upTo_key] at K
      rw [upTo_in] at I
      have tk := K.out.bts (by decide) (by decide)
      have ti := I.out.bts (by decide) (by decide)
      go_wp2_with fail
      refine (aes_Encrypt (some ⟨g, 0, none⟩) 16 16 exKey (some ⟨g + 1, 0, none⟩) 16 16 exIn wr tk ti).mono ?_
      rintro e w2 ⟨A2, n2, c2, rfl, t2, hB2⟩
      rw [encErr_ok (.inl rfl) rfl] at t2 ⊢
      rw [if_pos rfl, ex_block] at t2
      subst hg
      have hB := below_step2 HB.out hB2
      clear tk ti K I HB hB2
      go_wp2_with fail
      refine (aes_Box 83 _ (by omega)).mono ?_
      rintro e w3 ⟨rfl, hB2⟩
      replace hB2 := below_step2 (w := w2) (by repeat (first | exact Below.refl _ _ | apply below_alloc | apply below_drew | apply pw_below_drewN)) hB2
      replace t2 := t2.below hB2
      replace hB := below_step2 hB hB2
      clear hB2
      rw [ex_box]
      go_wp2_with fail
      refine (aes_Times 87 131 _ (by omega) (by omega)).mono ?_
      rintro e w' ⟨rfl, rfl⟩
      rw [ex_times]
      have k1 := t2.run_string (P := Try.prog) 28 9 Try.underlying28 Try.underlying5 Try.underlying9
      have ek : (strOfNums exOut).toList = [105, 196, 224, 216, 106, 123, 4, 48, 216, 205, 183, 128, 112, 180, 197, 90] := by decide +kernel
      go_wp2
      go_ret
      exact ⟨rfl, hB⟩
end Go.Proofs.Ythjcdfnchjbijaa

/- Contracts of the checksum's Add, word and Sum. Conditions: each argument is of its Go type. -/
import Derived.Test.YtljdkfgnoalgpaaBase
namespace Go.Proofs.Ytljdkfgnoalgpaa
open Go.RowKit Go.Proofs.YtljdkfgnoalgpaaW.PrintWords

set_option maxHeartbeats 400000 in
theorem inet_Add (a b : Int) (w : World) :
    Calls Try.prog 38 #[.int .i64 a, .int .i64 b] w fun e w' => e = .returned (.int .i64 (addm a b)) ∧ w = w' := by
  go_enter Try.func38, Try.ntmps38
  go_wp2
  go_ret
  exact ⟨ret_int (by simp only [k_and_65535, wrap64]; unfold addm; split <;> omega), rfl⟩

set_option maxHeartbeats 400000 in
theorem inet_word2 (A : Option Addr) (n c : Nat) (xs : List Int) (w : World) (h : Bts w A n c xs) (hn : 2 ≤ n) :
    Calls Try.prog 45 #[.slice A n c] w fun e w' => e = .returned (.int .i64 (256 * xs.getD 0 0 + xs.getD 1 0)) ∧ w = w' := by
  obtain ⟨ad, rfl, c0, hc⟩ := h.lit (by omega)
  have c1 := hc 1 (by omega) (by omega)
  have b0 := byt_get h.byt 0
  have b1 := byt_get h.byt 1
  have t1 : ((n : Int) == 1) = false := beq_eq_false_iff_ne.mpr (by omega)
  have t0 : ((n : Int) == 0) = false := beq_eq_false_iff_ne.mpr (by omega)
  clear hc
  generalize xs.getD 0 0 = x0 at *
  generalize xs.getD 1 0 = x1 at *
  go_enter Try.func45, Try.ntmps45
  go_wp2
  go_ret
  exact ⟨ret_int (by rw [k_or_join 8 (x0 * 256) x1 (by omega) (by omega) (by omega) (by omega) (by omega) (by omega)]; omega), rfl⟩
set_option maxHeartbeats 400000 in
theorem inet_word1 (A : Option Addr) (c : Nat) (xs : List Int) (w : World) (h : Bts w A 1 c xs) :
    Calls Try.prog 45 #[.slice A 1 c] w fun e w' => e = .returned (.int .i64 (256 * xs.getD 0 0)) ∧ w = w' := by
  obtain ⟨ad, rfl, c0, hc⟩ := h.lit (by omega)
  have b0 := byt_get h.byt 0
  clear hc
  generalize xs.getD 0 0 = x0 at *
  go_enter Try.func45, Try.ntmps45
  go_wp2
  go_ret
  exact ⟨ret_int (by rw [k_or_join 8 (x0 * 256) 0 (by omega) (by omega) (by omega) (by omega) (by omega) (by omega)]; omega), rfl⟩

theorem Try.info5 : (Try.prog.info? 5).map (fun i => (i.zero, i.size, i.bytes)) = some (some (.int .u8 0), 1, 1) := by kernel_rfl

set_option maxHeartbeats 1000000 in
theorem inet_Sum (A : Option Addr) (n c : Nat) (xs : List Int) (w : World) (h : Bts w A n c xs) :
    Calls Try.prog 39 #[.slice A n c] w fun e w' => e = .returned (.int .i64 (sumL xs)) ∧ w = w' := by
  obtain ⟨i0, hi0, -, hi2, -⟩ := info_parts Try.info5
  go_enter Try.func39, Try.ntmps39
  go_wp2
  go_loop [0, 3] (fun vb vn => ∃ (A' : Option Addr) (n' c' : Nat) (ys : List Int) (s : Int), vb = .slice A' n' c' ∧ vn = .int .i64 (canon s) ∧ Hid (0 ≤ s ∧ canon (s + tot ys) = sumL xs) ∧ Bts w A' n' c' ys) (fun vb _ => slen vb)
  case atStart => exact ⟨A, n, c, xs, 0, rfl, by simp [canon], Lib.hid ⟨by omega, by simp [sumL]⟩, h⟩
  case round =>
    clear h
    obtain ⟨A', n', c', ys, s, rfl, rfl, hs, h⟩ := hrel
    by_cases h0 : n' = 0
    · subst h0
      go_wp2
      go_ret
      have : ys = [] := List.eq_nil_of_length_eq_zero h.len
      subst this
      exact ⟨ret_int (by have := hs.out.2; simpa [tot] using this), rfl⟩
    · have hb := byt_get h.byt 0
      have hb1 := byt_get h.byt 1
      have htn := tot_nonneg ys h.byt
      have hcap := h.cap
      have e0 : ys.getD 0 0 = ys[0]?.getD 0 := List.getD_eq_getElem?_getD
      have e1 : ys.getD 1 0 = ys[1]?.getD 0 := List.getD_eq_getElem?_getD
      have H0 := Lib.hid e0
      have H1 := Lib.hid e1
      clear e0 e1
      by_cases h1 : n' = 1
      · subst h1
        have c1 := h.le
        have ht : Hid (tot ys = 256 * ys.getD 0 0) := Lib.hid (by
          match ys, h.len with
          | [y], _ => simp [tot])
        go_wp2_with fail
        refine (inet_word1 _ _ _ _ h).mono ?_
        rintro e w' ⟨rfl, rfl⟩
        go_wp2_with fail
        refine (inet_Add _ _ _).mono ?_
        rintro e w' ⟨rfl, rfl⟩
        go_wp2
        refine ⟨⟨_, _, _, [], s + 256 * ys.getD 0 0, rfl, val_int ?_, Lib.hid ?_, Bts.nil_ _ _ _ (by omega)⟩, by simp [slen]⟩
        · rw [← H0.out]; exact canon_word s _ hs.out.1 (by omega) (by omega)
        · have a := hs.out
          have b := ht.out
          exact ⟨by omega, by rw [← a.2, b]; simp [tot]⟩
      · have h2 : 2 ≤ n' := by omega
        have ht : Hid (tot ys = 256 * ys.getD 0 0 + ys.getD 1 0 + tot (ys.drop 2)) := Lib.hid (by
          have := tot_drop ys 0 (by rw [h.len]; omega)
          simpa using this)
        go_wp2_with fail
        refine (inet_word2 _ _ _ _ _ h h2).mono ?_
        rintro e w' ⟨rfl, rfl⟩
        go_wp2_with fail
        refine (inet_Add _ _ _).mono ?_
        rintro e w' ⟨rfl, rfl⟩
        go_wp2
        refine ⟨⟨_, _, _, ys.drop 2, s + (256 * ys.getD 0 0 + ys.getD 1 0), rfl, val_int ?_, Lib.hid ?_, h.drop_lit 2 (by omega) h2⟩, by simp only [slen]; omega⟩
        · rw [← H0.out, ← H1.out]; exact canon_word s _ hs.out.1 (by omega) (by omega)
        · have a := hs.out
          have b := ht.out
          exact ⟨by omega, by rw [← a.2, b]; congr 1; omega⟩

end Go.Proofs.Ytljdkfgnoalgpaa

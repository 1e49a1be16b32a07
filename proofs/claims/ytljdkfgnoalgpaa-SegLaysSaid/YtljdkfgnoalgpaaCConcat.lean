/- Contracts of slices.Grow at nil and of slices.Concat, at bytes. Conditions: each argument is of its Go type; the rows together hold at most 2^47 bytes. -/
import Derived.Test.YtljdkfgnoalgpaaCBoth
import Derived.Test.YtljdkfgnoalgpaaWZeros
import Derived.Lib.AppendZeros
namespace Go.Proofs.Ytljdkfgnoalgpaa
open Go.RowKit Go.Proofs.YtljdkfgnoalgpaaW.PrintWords

set_option maxHeartbeats 1000000 in
theorem slices_Grow_nil (m : Nat) (w : World) (hm : m ≤ 140737488355328) :
    Calls Try.prog 40 #[.slice none 0 0, .int .i64 (m : Int)] w fun e w' => ∃ v, e = .returned v ∧ OwnB w' w.heap.size v [] ∧ Below w.heap.size w w' := by
  by_cases h0 : m = 0
  · subst h0
    go_enter Try.func40, Try.ntmps40
    go_wp2
    go_ret
    exact ⟨_, rfl, OwnB.nil_ _ _, Below.refl _ _⟩
  · obtain ⟨i0, hi0, hz0, hi2, hb0⟩ := info_parts Try.info5'
    obtain ⟨v, w1, hr, ho, hg, _⟩ := run_append_zeros (P := Try.prog) w w.heap.size 22 3 22 5 i0 (.int .u8 0) 1 1 Try.underlying22 Try.underlying3 hi0 hz0 hi2 hb0 rfl (by decide) (by decide) (.slice none 0 0) 0 [] (own_nil _ _ _ _) .i64 m
      (by
        intro u hu
        simp only [Builtin.zeroCells, Array.toList_map, Array.toList_range, List.mem_map, List.mem_range] at hu
        obtain ⟨a, _, rfl⟩ := hu
        have e : a % (Value.int .u8 0).cells.size = 0 := Nat.mod_one a
        rw [e]
        rfl) (by omega) (Nat.le_refl _)
    have hB : Below w.heap.size w w1 := pw_below_grown (Below.refl _ _) _ (Nat.le_refl _) hg (fun k e => by cases e)
    rcases ho.2 with ⟨_, q⟩ | ⟨g, cap, cur, rfl, _⟩
    · omega
    have hcap : 0 + m ≤ cap := own_le ho
    have ht := own_take ho (Nat.zero_le _)
    rw [Nat.zero_mul, List.take_zero] at ht
    have hh := Lib.hid (⟨ht, by simp, byt_nil⟩ : OwnB w1 w.heap.size (.slice (some ⟨g, 0, none⟩) 0 cap) [])
    replace hB := Lib.hid hB
    replace hr := Lib.hid hr
    have d0 : decide ((m : Int) < 0) = false := decide_eq_false (by omega)
    have d1 : decide (0 < (m : Int)) = true := decide_eq_true (by omega)
    have w0 : IntKind.i64.wrap (m : Int) = (m : Int) := IntWalk.i64_in _ (by omega)
    clear ho ht hg hi0 hz0 hi2 hb0
    go_enter Try.func40, Try.ntmps40
    go_wp2_with (at_builtin; refine Lib.wpList_append_run _ rfl _ _ _ _ rfl _ _ rfl rfl _ _ hr.out ?_)
    go_ret
    exact ⟨_, rfl, hh.out, hB.out⟩

theorem flat_take (ls : List (List Int)) (k : Nat) (hk : k < ls.length) : (ls.take (k + 1)).flatten = (ls.take k).flatten ++ ls.getD k [] := by
  rw [List.take_succ_eq_append_getElem hk, List.flatten_append]
  simp [List.getD_eq_getElem?_getD, List.getElem?_eq_getElem hk]
theorem flat_le (ls : List (List Int)) (k : Nat) : (ls.take k).flatten.length ≤ ls.flatten.length := by
  have h1 : ls.flatten.length = (ls.take k).flatten.length + (ls.drop k).flatten.length := by
    rw [← List.length_append, ← List.flatten_append, List.take_append_drop]
  omega
set_option maxHeartbeats 1000000 in
theorem slices_Concat (A : Option Addr) (n c : Nat) (ls : List (List Int)) (w : World) (h : Rws w A n c ls) (hs : ls.flatten.length ≤ 140737488355328) :
    Calls Try.prog 26 #[.slice A n c] w fun e w' => ∃ v, e = .returned v ∧ OwnB w' w.heap.size v ls.flatten ∧ Below w.heap.size w w' := by
  have hl := h.len
  have hn := h.max
  go_enter Try.func26, Try.ntmps26
  go_wp2
  go_loop [3, 11] (fun vs vi => ∃ (k : Nat), k ≤ n ∧ vi = .int .i64 k ∧ vs = .int .i64 ((ls.take k).flatten.length : Int)) (fun _ vi => n - (intOf vi).toNat)
  case atStart => exact ⟨0, by omega, rfl, rfl⟩
  case round =>
    obtain ⟨k, hk, rfl, rfl⟩ := hrel
    by_cases hlt : k < n
    · obtain ⟨ad, Ai, ni, ci, rfl, hc, hr⟩ := h.at_ k hlt
      have hf1 : (ls.take (k + 1)).flatten.length = (ls.take k).flatten.length + ni := by rw [flat_take ls k (by omega), List.length_append, hr.len]
      have hf2 := flat_le ls (k + 1)
      generalize (ls.take k).flatten.length = S at hf1 ⊢
      have d0 : decide ((S : Int) + (ni : Int) < 0) = false := decide_eq_false (by omega)
      have w0 : IntKind.i64.wrap ((S : Int) + (ni : Int)) = (S : Int) + (ni : Int) := IntWalk.i64_in _ (by omega)
      clear hr
      replace hf1 := Lib.hid hf1
      go_wp2
      refine ⟨⟨k + 1, by omega, by go_num, val_int (by have := hf1.out; omega)⟩, by simp [intOf]; omega⟩
    · have hd : ls.take k = ls := List.take_of_length_le (by omega)
      obtain ⟨S, hS⟩ : ∃ S, ls.flatten.length = S := ⟨_, rfl⟩
      rw [hd, hS]
      rw [hS] at hs
      replace hS := Lib.hid hS
      clear hd
      go_wp2_with fail
      refine (slices_Grow_nil S w hs).mono ?_
      rintro e w2 ⟨v2, rfl, o2, hB2⟩
      replace o2 := Lib.hid (show OwnB w2 w.heap.size v2 (ls.take 0).flatten from o2)
      replace hB2 := Lib.hid hB2
      clear hlt hk
      go_wp2
      go_loopw [6, 27] (fun vo vi wr => ∃ (k : Nat), k ≤ n ∧ vi = .int .i64 k ∧ Hid (OwnB wr w.heap.size vo (ls.take k).flatten) ∧ Hid (Below w.heap.size w wr)) (fun _ vi _ => n - (intOf vi).toNat)
      case atStart => exact ⟨0, by omega, rfl, o2, hB2⟩
      case round =>
        clear o2 hB2
        obtain ⟨k, hk, rfl, ho, hB⟩ := hrel
        by_cases hlt : k < n
        · obtain ⟨ad, Ai, ni, ci, rfl, hc, hr⟩ := h.at_ k hlt
          replace hc := (hB.out.cell (World.block_lt_of_cell? w _ hc)).trans hc
          replace hr := hr.below hB.out
          have hfl : Hid ((ls.take (k + 1)).flatten = (ls.take k).flatten ++ ls.getD k []) := Lib.hid (flat_take ls k (by omega))
          have hle : Hid ((ls.take k).flatten.length + ni ≤ 140737488355328) := Lib.hid (by
            have h1 := flat_le ls (k + 1)
            rw [hS.out] at h1
            rw [hfl.out, List.length_append, hr.len] at h1
            omega)
          go_wp2_with (at_builtin; refine print_append_row (w0 := w) w.heap.size rfl (.tmp 31) (.tmp 32) 22 5 .u8 1 rfl Try.underlying22 Try.info5' (by decide) _ _ _ _ _ _ rfl rfl ho.out.own hr.rd hB.out hB.out.size ?_ ?_; (have := hle.out; omega); intro v1 w1 ho1 hB1 _ _)
          refine ⟨⟨k + 1, by omega, by go_num, Lib.hid ⟨by rw [hfl.out]; exact ho1, by rw [hfl.out, List.length_append, hr.len]; exact hle.out, by rw [hfl.out]; exact byt_append.2 ⟨ho.out.byt, hr.byt⟩⟩, Lib.hid hB1⟩, by simp [intOf]; omega⟩
        · go_wp2
          go_ret
          have hd : ls.take k = ls := List.take_of_length_le (by omega)
          exact ⟨_, rfl, hd ▸ ho.out, hB.out⟩
end Go.Proofs.Ytljdkfgnoalgpaa

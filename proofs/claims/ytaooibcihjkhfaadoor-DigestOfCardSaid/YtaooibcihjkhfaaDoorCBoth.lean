/- Contract of the reference's Both: rows, one behind the other. Conditions: each argument is of its Go type; the rows together hold at most 2^47 bytes. -/
import Derived.Test.YtaooibcihjkhfaaDoorBase
namespace Go.Proofs.YtaooibcihjkhfaaDoor
open Go.RowKit Go.Proofs.YtaooibcihjkhfaaDoorW.PrintWords

theorem Tryd.info5' : (Tryd.prog.info? 5).map (fun i => (i.zero, i.size, i.bytes)) = some (some (.int .u8 0), 1, 1) := by kernel_rfl

set_option maxHeartbeats 1000000 in
theorem ref01_Both (A : Option Addr) (n c : Nat) (ls : List (List Int)) (w : World) (h : Rws w A n c ls) (hs : ls.flatten.length ≤ 140737488355328) :
    Calls Tryd.prog 7 #[.slice A n c] w fun e w' => ∃ v, e = .returned v ∧ OwnB w' w.heap.size v ls.flatten ∧ Below w.heap.size w w' := by
  have hl := h.len
  have hn := h.max
  go_enter Tryd.func7, Tryd.ntmps7
  go_wp2
  go_loopw [3, 4] (fun vo vi wr => ∃ (k : Nat), k ≤ n ∧ vi = .int .i64 k ∧ Hid (OwnB wr w.heap.size vo (ls.take k).flatten) ∧ Hid (Below w.heap.size w wr)) (fun _ vi _ => n - (intOf vi).toNat)
  case atStart => exact ⟨0, by omega, rfl, Lib.hid (OwnB.nil_ _ _), Lib.hid (Below.refl _ _)⟩
  case round =>
    obtain ⟨k, hk, rfl, ho, hB⟩ := hrel
    by_cases hlt : k < n
    · obtain ⟨ad, Ai, ni, ci, rfl, hc, hr⟩ := h.at_ k hlt
      replace hc := (hB.out.cell (World.block_lt_of_cell? w _ hc)).trans hc
      replace hr := hr.below hB.out
      have hfl : Hid ((ls.take (k + 1)).flatten = (ls.take k).flatten ++ ls.getD k []) := Lib.hid (by
        rw [List.take_succ_eq_append_getElem (by omega), List.flatten_append]
        simp [List.getD_eq_getElem?_getD, List.getElem?_eq_getElem (show k < ls.length by omega)])
      have hle : Hid ((ls.take k).flatten.length + ni ≤ 140737488355328) := Lib.hid (by
        have h1 : ls.flatten.length = (ls.take (k + 1)).flatten.length + (ls.drop (k + 1)).flatten.length := by
          rw [← List.length_append, ← List.flatten_append, List.take_append_drop]
        rw [hfl.out, List.length_append, hr.len] at h1
        omega)
      go_wp2_with (at_builtin; refine print_append_row (w0 := w) w.heap.size rfl (.tmp 11) (.tmp 15) 23 5 .u8 1 rfl Tryd.underlying23 Tryd.info5' (by decide) _ _ _ _ _ _ rfl rfl ho.out.own hr.rd hB.out hB.out.size ?_ ?_; (have := hle.out; omega); intro v1 w1 ho1 hB1 _ _)
      refine ⟨⟨k + 1, by omega, by go_num, Lib.hid ⟨by rw [hfl.out]; exact ho1, by rw [hfl.out, List.length_append, hr.len]; exact hle.out, by rw [hfl.out]; exact byt_append.2 ⟨ho.out.byt, hr.byt⟩⟩, Lib.hid hB1⟩, by simp [intOf]; omega⟩
    · go_wp2
      go_ret
      have hd : ls.take k = ls := List.take_of_length_le (by omega)
      exact ⟨_, rfl, hd ▸ ho.out, hB.out⟩
end Go.Proofs.YtaooibcihjkhfaaDoor

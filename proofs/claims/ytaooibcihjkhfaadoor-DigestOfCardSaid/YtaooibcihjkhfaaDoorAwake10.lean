/- The document's examples. Conditions: the constants are laid. -/
import Derived.Test.YtaooibcihjkhfaaDoorCDigF
import Derived.Lib.SlBytesConst
namespace Go.Proofs.YtaooibcihjkhfaaDoor
set_option linter.unusedSimpArgs false
set_option linter.unusedVariables false
open Go.RowKit Go.Proofs.YtaooibcihjkhfaaDoorW.PrintWords

theorem mark_at (w : World) (C : Array Value) (n c g : Nat) (hg : w.heap.size = g) : (convert 23 23 (.slice (some ⟨g, 0, none⟩) n c)).run Tryd.prog (w.alloc (.cells C 5)) = .ok (.slice (some ⟨g, 0, none⟩) n c) (w.alloc (.cells C 5 (C.size, C.size + 1))) := by
  subst hg
  exact Lib.run_convert_bytes_const (P := Tryd.prog) w 23 5 C n c Tryd.underlying23 Tryd.underlying5
def abcD : List Int := [186, 120, 22, 191, 143, 1, 207, 234, 65, 65, 64, 222, 93, 174, 34, 35, 176, 3, 97, 163, 150, 23, 122, 156, 180, 16, 255, 97, 242, 0, 21, 173]

set_option maxHeartbeats 2000000 in
theorem awake10 (w : World) (hT : Tab w) : Calls Tryd.prog 9 #[] w fun e w' => e = .returned (.bool true) ∧ Below w.heap.size w w' := by
  have kc := mark_at
  have hb : Byt [97, 98, 99] := by decide
  have hM : Bts (w.alloc (.cells #[.int .u8 97, .int .u8 98, .int .u8 99] 5 (3, 4))) (some ⟨w.heap.size, 0, none⟩) 3 3 [97, 98, 99] :=
    ⟨⟨rfl, by omega, fun _ => ⟨_, rfl, fun j hj => by
      rw [add_plain]
      refine (cell_of_row _ _ _ _ 5 (3, 4) (heap_alloc_new w _)).trans ?_
      obtain rfl | rfl | rfl : j = 0 ∨ j = 1 ∨ j = 2 := by omega
      all_goals rfl⟩⟩, by omega, by omega, by omega, hb⟩
  have B1 := below_alloc (Below.refl w.heap.size w) (.cells #[.int .u8 97, .int .u8 98, .int .u8 99] 5 (3, 4))
  have R := Rws.one _ (w.heap.size + 1) 23 (by simp) hM
  have B2 := below_alloc B1 (.cells #[.slice (some ⟨w.heap.size, 0, none⟩) 3 3] 23)
  have T2 := hT.below B2
  have hO := Lib.hid (dig_Of _ _ _ _ _ R T2 (by simp))
  replace B2 := Lib.hid B2
  clear hM R T2 B1 hb
  go_enter Tryd.func9, Tryd.ntmps9
  go_wp2_with fail
  refine hO.out.mono ?_
  rintro e w3 ⟨A3, n3, c3, rfl, t3, hB3⟩
  have B3 := below_step2 B2.out hB3
  have T3 := hT.below B3
  have ed : digestS [[97, 98, 99]].flatten = abcD := digest_abc
  rw [ed] at t3
  have r3 := t3.run_string (P := Tryd.prog) 23 9 Tryd.underlying23 Tryd.underlying5 Tryd.underlying9
  have eo : (strOfNums abcD).toList = [186, 120, 22, 191, 143, 1, 207, 234, 65, 65, 64, 222, 93, 174, 34, 35, 176, 3, 97, 163, 150, 23, 122, 156, 180, 16, 255, 97, 242, 0, 21, 173] := by decide +kernel
  clear hO B2 hB3 kc t3 ed
  go_wp2_with fail
  refine (dig_Constant 0 w3 T3).mono ?_
  rintro e w' ⟨rfl, rfl⟩
  rw [show constS 0 = 1116352408 by decide]
  go_wp2_with fail
  refine (dig_Constant 64 w3 T3).mono ?_
  rintro e w' ⟨rfl, rfl⟩
  rw [show constS 64 = 1779033703 by decide]
  go_wp2
  go_ret
  exact ⟨rfl, B3⟩
end Go.Proofs.YtaooibcihjkhfaaDoor

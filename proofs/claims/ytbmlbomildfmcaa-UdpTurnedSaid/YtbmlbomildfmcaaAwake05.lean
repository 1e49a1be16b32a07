/- The examples of layer 5's document hold. Conditions: none. -/
import Derived.Test.YtbmlbomildfmcaaCUdpE
namespace Go.Proofs.Ytbmlbomildfmcaa
open Go.RowKit Go.Proofs.YtbmlbomildfmcaaW.PrintWords

set_option maxRecDepth 100000 in
theorem awake05_bytes : dgBytes 1 2 [] (bytesOf ⟨#[10, 0, 0, 1]⟩) (bytesOf ⟨#[10, 0, 0, 2]⟩) = [0, 1, 0, 2, 0, 8, 235, 216] := by decide +kernel
set_option maxRecDepth 100000 in
theorem awake05_err : dgErr [0, 1, 0, 2, 0, 8, 235, 216] (bytesOf ⟨#[10, 0, 0, 1]⟩) (bytesOf ⟨#[10, 0, 0, 2]⟩) = 0 := by decide +kernel
set_option maxHeartbeats 2000000 in
theorem awake05 (w : World) : Calls Try.prog 12 #[] w fun e w' => e = .returned (.bool true) ∧ Below w.heap.size w w' := by
  have hB := Below.refl w.heap.size w
  go_enter Try.func12, Try.ntmps12
  go_wp2_with fail
  refine (udp_Bytes_ok 1 2 none 0 0 [] ⟨#[10, 0, 0, 1]⟩ ⟨#[10, 0, 0, 2]⟩ w (by decide) (by decide) (Bts.nil_ none 0 w (by omega)) (by omega) (by decide) (by omega)).mono ?_
  rintro e w2 ⟨v, rfl, ho, hB2⟩
  rw [awake05_bytes] at ho
  obtain ⟨A, n, c, rfl, h⟩ := ho.bts
  clear ho
  replace hB := below_step2 hB hB2
  clear hB2
  have k1 := h.run_string (P := Try.prog) 22 9 Try.underlying22 Try.underlying5 Try.underlying9
  go_wp2_with fail
  refine (udp_Parse A n c [0, 1, 0, 2, 0, 8, 235, 216] ⟨#[10, 0, 0, 1]⟩ ⟨#[10, 0, 0, 2]⟩ w2 (by decide) (by decide) h).mono ?_
  rintro e w3 ⟨hB3, ⟨hn, _⟩ | ⟨_, v3, rfl, ho3⟩⟩
  · exact absurd awake05_err hn
  obtain ⟨A3, n3, c3, rfl, _⟩ := ho3.bts
  rw [show dgSrc [0, 1, 0, 2, 0, 8, 235, 216] = 1 from rfl, show dgDst [0, 1, 0, 2, 0, 8, 235, 216] = 2 from rfl]
  have h3 := (h.below hB3).alloc (.cells #[.int .i64 1, .int .i64 2, .slice A3 n3 c3] 24)
  have k3 := h3.run_string (P := Try.prog) 22 9 Try.underlying22 Try.underlying5 Try.underlying9
  replace hB := below_step2 hB hB3
  clear hB3 k1 h h3 ho3
  have ek : (strOfNums [0, 1, 0, 2, 0, 8, 235, 216]).toList = [0, 1, 0, 2, 0, 8, 235, 216] := by decide +kernel
  go_wp2
  go_ret
  exact ⟨rfl, by first | exact below_alloc hB _ | exact hB⟩
end Go.Proofs.Ytbmlbomildfmcaa

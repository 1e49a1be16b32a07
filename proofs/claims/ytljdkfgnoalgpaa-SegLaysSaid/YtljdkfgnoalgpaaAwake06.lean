/- The document's examples. Conditions: none. -/
import Derived.Test.YtljdkfgnoalgpaaCSegP
import Derived.Test.YtljdkfgnoalgpaaCMssB
import Derived.Lib.SlBytesConst
namespace Go.Proofs.Ytljdkfgnoalgpaa
open Go.RowKit Go.Proofs.YtljdkfgnoalgpaaW.PrintWords

def exS : Sg := ⟨1, 2, 0, 0, 2, 0, 0⟩
def exO : List Int := [2, 4, 5, 180]
def exSrc : List Int := [10, 0, 0, 1]
def exDst : List Int := [10, 0, 0, 2]
def exB : List Int := sgBytes exS exO [] exSrc exDst
theorem ex_off : offS 1460 = exO := by decide +kernel
theorem ex_lay : sgLayErr exS 4 0 4 4 = 0 := by decide +kernel
theorem ex_len : exB.length = 24 := by decide +kernel
theorem ex_err : sgPErr exB exSrc exDst = 0 := by decide +kernel
theorem ex_flag : (sgOf exB).f = 2 := by decide +kernel
theorem ex_mss : mssS [1, 2, 4, 5, 180] = (1460, 0) := by decide +kernel
theorem mark_at (w : World) (C : Array Value) (n c g : Nat) (hg : w.heap.size = g) : (convert 22 22 (.slice (some ⟨g, 0, none⟩) n c)).run Try.prog (w.alloc (.cells C 5)) = .ok (.slice (some ⟨g, 0, none⟩) n c) (w.alloc (.cells C 5 (C.size, C.size + 1))) := by
  subst hg
  exact Lib.run_convert_bytes_const (P := Try.prog) w 22 5 C n c Try.underlying22 Try.underlying5

set_option maxHeartbeats 2000000 in
theorem awake06 (w : World) : Calls Try.prog 16 #[] w fun e w' => e = .returned (.bool true) ∧ Below w.heap.size w w' := by
  have hB := Below.refl w.heap.size w
  have kc := mark_at
  go_enter Try.func16, Try.ntmps16
  go_wp2_with fail
  refine (seg_Mss ⟨#[1, 2, 4, 5, 180]⟩ (by decide) w).mono ?_
  rintro e w1 ⟨rfl, hB1⟩
  rw [show bytesOf ⟨#[1, 2, 4, 5, 180]⟩ = [1, 2, 4, 5, 180] from rfl, ex_mss]
  replace hB := below_step2 hB hB1
  go_wp2_with fail
  refine (seg_Offer 1460 w1).mono ?_
  rintro e w2 ⟨rfl, hB2⟩
  rw [ex_off]
  replace hB := below_step2 hB hB2
  clear hB1 hB2
  go_wp2_with fail
  refine (seg_Bytes exS (strOfNums exO) none 0 0 [] ⟨#[10, 0, 0, 1]⟩ ⟨#[10, 0, 0, 2]⟩ w2 (by unfold SgI I64 exS; simp) (by decide) (by decide) (Bts.nil_ none 0 _ (by omega))).mono ?_
  rintro e w3 ⟨A3, n3, k3, rfl, o3, hB3⟩
  have eL : sgLayErr exS (strOfNums exO).size 0 (ByteArray.mk #[10, 0, 0, 1]).size (ByteArray.mk #[10, 0, 0, 2]).size = 0 := ex_lay
  rw [eL] at o3 ⊢
  have t3 : Bts w3 A3 n3 k3 exB := o3.sl
  have l3 := t3.len
  rw [ex_len] at l3
  subst l3
  replace hB := below_step2 hB hB3
  clear o3 hB3 eL
  go_wp2_with fail
  refine (seg_Parse A3 24 k3 exB ⟨#[10, 0, 0, 1]⟩ ⟨#[10, 0, 0, 2]⟩ w3 (by decide) (by decide) t3).mono ?_
  intro e w4 hp
  obtain ⟨S, o, A4, n4, k4, zs, rfl, t4, hB4, eS, eo, ez⟩ := hp.view
  clear hp
  have eP : sgPErr exB (bytesOf ⟨#[10, 0, 0, 1]⟩) (bytesOf ⟨#[10, 0, 0, 2]⟩) = 0 := ex_err
  rw [eP] at eS ⊢
  rw [if_pos rfl] at eS
  obtain ⟨sp, sq, ss, sa, sf, sw, su⟩ := S
  have eF : sf = 2 := (congrArg Sg.f eS).trans ex_flag
  subst eF
  dsimp only
  clear eS eo ez eP t4 t3
  have G := Sb.new w4 ⟨sp, sq, ss, sa, 2, sw, su⟩ o A4 n4 k4
  dsimp only at G
  replace hB := below_step2 hB (below_alloc hB4 (.cells #[.int .i64 sp, .int .i64 sq, .int .i64 ss, .int .i64 sa, .int .i64 2, .int .i64 sw, .int .i64 su, .string o, .slice A4 n4 k4] 24))
  clear hB4
  go_wp2_with fail
  generalize w4.alloc (.cells #[.int .i64 sp, .int .i64 sq, .int .i64 ss, .int .i64 sa, .int .i64 2, .int .i64 sw, .int .i64 su, .string o, .slice A4 n4 k4] 24) = w5 at G hB ⊢
  refine (seg_Offer 1460 w5).mono ?_
  rintro e w6 ⟨rfl, hB6⟩
  rw [ex_off]
  have c4 := (G.below hB6).c4
  replace hB := below_step2 hB hB6
  have eo : (strOfNums exO).toList = [2, 4, 5, 180] := by decide +kernel
  clear G hB6
  go_wp2_with fail
  refine (seg_Length ⟨0, 0, 0, 0, 2, 0, 0⟩ ⟨#[]⟩ _ 3 3 _ (by omega)).mono ?_
  rintro e w7 ⟨rfl, hB7⟩
  rw [show lenS (Sg.f ⟨0, 0, 0, 0, 2, 0, 0⟩) 3 = 4 by decide]
  replace hB := below_step2 (below_alloc hB _) hB7
  clear hB7 kc
  go_wp2
  go_ret
  exact ⟨rfl, hB⟩
end Go.Proofs.Ytljdkfgnoalgpaa

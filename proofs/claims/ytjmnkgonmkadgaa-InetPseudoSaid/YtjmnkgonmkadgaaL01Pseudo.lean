/- InetPseudo holds: what stands ahead has just the reference's sum, or is refused; a check is turned just so. Conditions: none beside the row's own reach. -/
import Derived.Test.YtjmnkgonmkadgaaAwake01
import Derived.Test.YtjmnkgonmkadgaaCPseudo
import Derived.Test.YtjmnkgonmkadgaaCRefPseudo
import Derived.Test.YtjmnkgonmkadgaaCRefB
namespace Go.Proofs.Ytjmnkgonmkadgaa
open Go.RowKit Go.Proofs.YtjmnkgonmkadgaaW.PrintWords

set_option maxHeartbeats 2000000 in
theorem InetPseudo_any (s d : ByteArray) (p n x : Int) (w : World) (hs : s.size ≤ 140737488351232) (hd : d.size ≤ 140737488351232) (_hp : I64 p) (_hn : I64 n) (_hx : I64 x) :
    Calls Try.prog 8 #[.string s, .string d, .int .i64 p, .int .i64 n, .int .i64 x] w fun e w' => e = .returned (.bool true) ∧ Below w.heap.size w w' := by
  have hB := Below.refl w.heap.size w
  by_cases hl : 200 < s.size + d.size
  · have d1 : decide ((200 : Int) < (s.size : Int) + (d.size : Int)) = true := decide_eq_true (by omega)
    have hl' : (200 : Int) < (s.size : Int) + (d.size : Int) := by omega
    go_enter Try.func8, Try.ntmps8
    go_wp2
    go_ret
    exact ⟨rfl, hB⟩
  have d1 : decide ((200 : Int) < (s.size : Int) + (d.size : Int)) = false := decide_eq_false (by omega)
  by_cases h : psOk s.size d.size p n
  · have H := Lib.hid h
    clear h
    go_enter Try.func8, Try.ntmps8
    go_wp2_with fail
    refine (inet_Pseudo_yes s d p n _ hs hd H.out).mono ?_
    rintro e w1 ⟨rfl, hB2⟩
    replace hB2 := below_step2 (w := w) (by repeat (first | exact Below.refl _ _ | apply below_alloc | apply below_drew | apply pw_below_drewN)) hB2
    replace hB := below_step2 hB hB2
    clear hB2
    go_wp2_with fail
    refine (ref01_Pseudo_yes s d p n _ hs hd H.out).mono ?_
    rintro e w2 ⟨rfl, hB2⟩
    replace hB2 := below_step2 (w := w1) (by repeat (first | exact Below.refl _ _ | apply below_alloc | apply below_drew | apply pw_below_drewN)) hB2
    replace hB := below_step2 hB hB2
    clear hB2
    go_wp2_with fail
    refine (awake01 _).mono ?_
    rintro e w3 ⟨rfl, hB2⟩
    replace hB2 := below_step2 (w := w2) (by repeat (first | exact Below.refl _ _ | apply below_alloc | apply below_drew | apply pw_below_drewN)) hB2
    replace hB := below_step2 hB hB2
    clear hB2
    go_wp2_with fail
    refine (inet_Turn _ _ _ _).mono ?_
    rintro e w' ⟨rfl, rfl⟩
    go_wp2_with fail
    refine (ref01_Turn _ _ _ _).mono ?_
    rintro e w' ⟨rfl, rfl⟩
    go_wp2
    go_ret
    exact ⟨rfl, hB⟩
  · have H := Lib.hid h
    clear h
    go_enter Try.func8, Try.ntmps8
    go_wp2_with fail
    refine (inet_Pseudo_no s d p n _ hs hd H.out).mono ?_
    rintro e w' ⟨rfl, rfl⟩
    go_wp2_with fail
    refine (ref01_Pseudo_no s d p n _ hs hd H.out).mono ?_
    rintro e w2 ⟨rfl, hB2⟩
    replace hB2 := below_step2 (w := w) (by repeat (first | exact Below.refl _ _ | apply below_alloc | apply below_drew | apply pw_below_drewN)) hB2
    replace hB := below_step2 hB hB2
    clear hB2
    go_wp2_with fail
    refine (awake01 _).mono ?_
    rintro e w3 ⟨rfl, hB2⟩
    replace hB2 := below_step2 (w := w2) (by repeat (first | exact Below.refl _ _ | apply below_alloc | apply below_drew | apply pw_below_drewN)) hB2
    replace hB := below_step2 hB hB2
    clear hB2
    go_wp2_with fail
    refine (inet_Turn _ _ _ _).mono ?_
    rintro e w' ⟨rfl, rfl⟩
    go_wp2_with fail
    refine (ref01_Turn _ _ _ _).mono ?_
    rintro e w' ⟨rfl, rfl⟩
    go_wp2
    go_ret
    exact ⟨rfl, hB⟩
end Go.Proofs.Ytjmnkgonmkadgaa

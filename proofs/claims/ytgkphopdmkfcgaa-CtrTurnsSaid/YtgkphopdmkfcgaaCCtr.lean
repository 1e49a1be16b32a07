/- Counters and streams as plain lists; the contract of Counter. Conditions: each argument is of its Go type. -/
import Derived.Test.YtgkphopdmkfcgaaCAesEnc
import Derived.Test.YtgkphopdmkfcgaaCConcat
namespace Go.Proofs.Ytgkphopdmkfcgaa
open Go.RowKit Go.Proofs.YtgkphopdmkfcgaaW.PrintWords

def cntOk (a b : Nat) (n : Int) : Prop := a = 4 ∧ b = 8 ∧ 1 ≤ n ∧ n ≤ 4294967295
instance (a b : Nat) (n : Int) : Decidable (cntOk a b n) := by unfold cntOk; infer_instance
def cntErr (a b : Nat) (n : Int) : Int := if cntOk a b n then 0 else 1
def cntFour (n : Int) : List Int := [n / 16777216, n / 65536 % 256, n / 256 % 256, n % 256]
/-- A block that is counted. -/
def cntS (salt iv : List Int) (n : Int) : List Int := salt ++ (iv ++ cntFour n)
theorem cntFour_byt {n : Int} (h0 : 0 ≤ n) (h1 : n ≤ 4294967295) : Byt (cntFour n) := by
  unfold cntFour
  simp only [byt_cons]
  exact ⟨by omega, by omega, by omega, by omega, byt_nil⟩
theorem cntS_len {salt iv : List Int} (n : Int) (h1 : salt.length = 4) (h2 : iv.length = 8) : (cntS salt iv n).length = 16 := by simp [cntS, cntFour, h1, h2]


set_option maxHeartbeats 2000000 in
theorem ctr_Counter (A : Option Addr) (a c : Nat) (xs : List Int) (B : Option Addr) (b d : Nat) (ys : List Int) (n : Int) (w : World) (_hn : I64 n) (h : Bts w A a c xs) (h2 : Bts w B b d ys) :
    Calls Try.prog 9 #[.slice A a c, .slice B b d, .int .i64 n] w (OwnPost (cntErr a b n) (cntS xs ys n) w) := by
  have ha := h.max
  have hb := h2.max
  by_cases q1 : a = 4
  case neg =>
    have d1 : ((a : Int) != 4) = true := bne_iff_ne.mpr (by omega)
    have d1' : (a != 4) = true := bne_iff_ne.mpr q1
    have hE : cntErr a b n = 1 := if_neg (by unfold cntOk; omega)
    go_enter Try.func9, Try.ntmps9
    rw [hE]
    clear hE
    go_wp2
    go_ret2
    exact ⟨none, 0, 0, rfl, OwnB.nil_ _ _, Below.refl _ _⟩
  by_cases q2 : b = 8
  case neg =>
    subst q1
    have d1 : ((b : Int) != 8) = true := bne_iff_ne.mpr (by omega)
    have d1' : (b != 8) = true := bne_iff_ne.mpr q2
    have hE : cntErr 4 b n = 1 := if_neg (by unfold cntOk; omega)
    go_enter Try.func9, Try.ntmps9
    rw [hE]
    clear hE
    go_wp2
    go_ret2
    exact ⟨none, 0, 0, rfl, OwnB.nil_ _ _, Below.refl _ _⟩
  subst q1 q2
  by_cases q3 : n < 1
  · have d1 : decide (n < 1) = true := decide_eq_true q3
    have hE : cntErr 4 8 n = 1 := if_neg (by unfold cntOk; omega)
    go_enter Try.func9, Try.ntmps9
    rw [hE]
    clear hE
    go_wp2
    go_ret2
    exact ⟨none, 0, 0, rfl, OwnB.nil_ _ _, Below.refl _ _⟩
  have d1 : decide (n < 1) = false := decide_eq_false q3
  by_cases q4 : n ≤ 4294967295
  case neg =>
    have d2 : (n / 4294967296 != 0) = true := bne_iff_ne.mpr (by omega)
    have hE : cntErr 4 8 n = 1 := if_neg (by unfold cntOk; omega)
    go_enter Try.func9, Try.ntmps9
    rw [hE]
    clear hE
    go_wp2
    go_ret2
    exact ⟨none, 0, 0, rfl, OwnB.nil_ _ _, Below.refl _ _⟩
  have d2 : (n / 4294967296 != 0) = false := bne_eq_false_iff_eq.mpr (by omega)
  have hE : cntErr 4 8 n = 0 := if_pos ⟨rfl, rfl, by omega, q4⟩
  have w4 : n / 16777216 % 256 = n / 16777216 := by omega
  have hl := h.len
  have hl2 := h2.len
  have K := Lib.hid (Bts.lit_at w w.heap.size 5 (cntFour n) rfl (cntFour_byt (by omega) q4) (by simp [cntFour]))
  have hB0 := Lib.hid (below_alloc (Below.refl w.heap.size w) (.cells (nums .u8 (cntFour n)).toArray 5))
  rw [hE]
  clear hE
  go_enter Try.func9, Try.ntmps9
  go_wp2_with fail
  refine (slices_Concat _ _ _ [xs, ys, cntFour n] _ (Rws.three (w.alloc (.cells (nums .u8 (cntFour n)).toArray 5)) _ 22 (by simp) (h.alloc _) (h2.alloc _) K.out) (by simp [cntFour]; omega)).mono ?_
  rintro e w3 ⟨v3, rfl, o3, hB3⟩
  obtain ⟨A3, n3, c3, rfl, _⟩ := o3.bts
  replace o3 := Lib.hid (o3.lower (base' := w.heap.size) (by simp; omega))
  replace hB3 := Lib.hid (below_step2 (w := w) (below_alloc (below_alloc (Below.refl _ _) _) _) hB3)
  go_wp2
  go_ret2
  refine ⟨A3, n3, c3, rfl, ?_, hB3.out⟩
  have q := o3.out
  simpa [cntS] using q
end Go.Proofs.Ytgkphopdmkfcgaa

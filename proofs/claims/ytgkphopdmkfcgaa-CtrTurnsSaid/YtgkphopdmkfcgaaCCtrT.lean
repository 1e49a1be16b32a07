/- The contract of Turn, out of Stream's. Conditions: Stream's contract at these arguments. -/
import Derived.Test.YtgkphopdmkfcgaaCCtr
import Derived.BigRegion
import Derived.BigQuiet
namespace Go.Proofs.Ytgkphopdmkfcgaa
open Go.RowKit Go.Proofs.YtgkphopdmkfcgaaW.PrintWords

def xorS (zs bs : List Int) : List Int := List.zipWith bx zs bs
theorem xorS_of (zs0 bs zs : List Int) (h0 : zs0.length = zs.length) (h1 : bs.length = zs.length) (hf : ∀ j, j < zs.length → zs.getD j 0 = bx (zs0.getD j 0) (bs.getD j 0)) : zs = xorS zs0 bs := by
  refine List.ext_getElem (by simp [xorS]; omega) fun i h2 h3 => ?_
  have := hf i h2
  rw [gd_lt zs i h2, gd_lt zs0 i (by omega), gd_lt bs i (by omega)] at this
  simpa [xorS] using this

set_option maxHeartbeats 2000000 in
theorem ctr_Turn_of (err : Int) (zs0 : List Int) (A : Option Addr) (a c : Nat) (B : Option Addr) (b d : Nat) (C : Option Addr) (e f : Nat) (D : Option Addr) (m k : Nat) (bs : List Int) (w : World) (h : Bts w D m k bs)
    (hS : Calls Try.prog 11 #[.slice A a c, .slice B b d, .slice C e f, .int .i64 (m : Int)] w (OwnPost err zs0 w)) (hl : err = 0 → zs0.length = m) :
    Calls Try.prog 13 #[.slice A a c, .slice B b d, .slice C e f, .slice D m k] w (OwnPost err (xorS zs0 bs) w) := by
  have hlb := h.len
  have hm := h.max
  go_enter Try.func13, Try.ntmps13
  go_wp2_with fail
  refine hS.mono ?_
  rintro e2 w2 ⟨A2, n2, c2, rfl, o2, hB2⟩
  clear hS
  by_cases hn : n2 = 0
  · subst hn
    have l2 := o2.sl.len
    have hq : (if err = 0 then xorS zs0 bs else []) = [] := by
      by_cases he : err = 0
      · rw [if_pos he] at l2 ⊢
        have : zs0 = [] := List.length_eq_zero_iff.1 l2
        rw [this]; rfl
      · rw [if_neg he]
    have hq' : (if err = 0 then zs0 else []) = [] := List.length_eq_zero_iff.1 l2
    rw [hq'] at o2
    clear l2 hq' hl
    replace o2 := Lib.hid o2
    replace hB2 := Lib.hid hB2
    replace hq := Lib.hid hq
    go_wp2
    go_loop [24] (fun vi => vi = .int .i64 0) (fun _ => 0)
    case atStart => rfl
    case round =>
      subst hrel
      go_wp2
      go_ret2
      exact ⟨A2, 0, c2, rfl, by rw [hq.out]; exact o2.out, hB2.out⟩
  · have he : err = 0 := by
      by_cases he : err = 0
      · exact he
      · have l2 := o2.sl.len
        rw [if_neg he] at l2
        exact absurd l2.symm hn
    subst he
    rw [if_pos rfl] at o2
    have hl0 := hl rfl
    have hz0 := o2.byt
    obtain ⟨g, n, c', e1, R⟩ := o2.row (by have := o2.sl.len; omega)
    injection e1 with e11 e12 e13
    subst e11 e12 e13
    obtain rfl : n2 = m := by have := o2.sl.len; omega
    have hgl := R.lt
    have hgb := R.base_
    replace R := Lib.hid R
    have HB := Lib.hid hB2
    clear o2 hB2 hl
    go_wp2
    go_loopw [24] (fun vi wr => ∃ (i : Nat) (zs : List Int), vi = .int .i64 (i : Int) ∧ i ≤ n2 ∧ Hid (zs.length = n2) ∧ Hid (∀ j, j < n2 → zs.getD j 0 = if j < i then bx (zs0.getD j 0) (bs.getD j 0) else zs0.getD j 0) ∧ Hid (Row8 wr w.heap.size g n2 c2 zs) ∧ Hid (Below w.heap.size w wr)) (fun vi _ => n2 - (intOf vi).toNat)
    case atStart => exact ⟨0, zs0, rfl, by omega, Lib.hid hl0, Lib.hid (fun j _ => by rw [if_neg (by omega)]), R, HB⟩
    case round =>
      clear R HB
      obtain ⟨i, zs, rfl, hi, hlz, hf, R, HB⟩ := hrel
      by_cases h0 : i < n2
      · have i1 : (i : Int) < (n2 : Int) := by omega
        have i2 : (0 : Int) ≤ (i : Int) := by omega
        obtain ⟨ad, rfl, ck⟩ := (h.below HB.out).at_ i h0
        have cz := R.out.cell i h0
        have fz := R.out.free i h0
        have hz := hf.out i h0
        rw [if_neg (Nat.lt_irrefl i)] at hz
        have hx1 := byt_get hz0 i
        have hy1 := byt_get h.byt i
        have hvb := Lib.hid (bx_byte hx1 hy1)
        have hv : Hid (bits .xor .u8 (zs.getD i 0) (bs.getD i 0) = bx (zs0.getD i 0) (bs.getD i 0)) := Lib.hid (by rw [hz]; exact k_xor_u8 _ _ hx1 hy1)
        have hf' : Hid (∀ j, j < n2 → (zs.set i (bx (zs0.getD i 0) (bs.getD i 0))).getD j 0 = if j < i + 1 then bx (zs0.getD j 0) (bs.getD j 0) else zs0.getD j 0) := Lib.hid (fun j hj => by
          rw [get_set _ _ _ _ (by rw [hlz.out]; exact hj)]
          by_cases e : j = i
          · subst e; rw [if_pos rfl, if_pos (by omega)]
          · rw [if_neg e, hf.out j hj]
            by_cases e2 : j < i
            · rw [if_pos e2, if_pos (by omega)]
            · rw [if_neg e2, if_neg (by omega)])
        clear hz hx1 hy1 hf
        generalize zs.getD i 0 = z at cz hv
        generalize bs.getD i 0 = y at ck hv hf' hvb
        generalize bx (zs0.getD i 0) y = v at hv hf' hvb
        go_wp2
        go_region
        rw [hv.out]
        have R2 := Lib.hid ((R.out.set i v hvb.out).below (below_drew (Below.refl _ _)))
        have B2 := Lib.hid (below_drew (below_set HB.out (p := ⟨g, i, none⟩) hgb (.int .u8 v)))
        have l2 : Hid ((zs.set i v).length = n2) := Lib.hid (by rw [List.length_set]; exact hlz.out)
        clear R HB hlz cz fz hv
        generalize (wr.setCell ⟨g, i, none⟩ (.int .u8 v)).drew = w3 at R2 B2 ⊢
        go_wp2
        refine ⟨⟨i + 1, zs.set i v, by go_num, by omega, l2, hf', R2, B2⟩, by simp [intOf]; omega⟩
      · obtain rfl : i = n2 := by omega
        have hq : zs = xorS zs0 bs := xorS_of _ _ _ (by rw [hlz.out]; exact hl0) (by rw [hlz.out]; exact hlb) (fun j hj => by rw [hf.out j (by rw [← hlz.out]; exact hj), if_pos (by rw [← hlz.out]; exact hj)])
        replace hq := Lib.hid hq
        go_wp2
        go_ret2
        refine ⟨_, _, _, rfl, ?_, HB.out⟩
        rw [if_pos rfl, ← hq.out]
        exact R.out.ownB
end Go.Proofs.Ytgkphopdmkfcgaa

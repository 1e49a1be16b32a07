/- Turn's contract whole; few; the document's examples. Conditions: each argument is of its Go type. -/
import Derived.Test.YtgkphopdmkfcgaaCStrm
import Derived.Test.YtgkphopdmkfcgaaCCtrT
import Derived.Lib.SlBytesConst
namespace Go.Proofs.Ytgkphopdmkfcgaa
open Go.RowKit Go.Proofs.YtgkphopdmkfcgaaW.PrintWords

theorem strmS_len (key salt iv : List Int) (n : Nat) : (strmS key salt iv n).length = n := by
  unfold strmS
  rw [List.length_take, ctrAll_len]
  omega
theorem ctr_Turn (A : Option Addr) (a c : Nat) (xs : List Int) (B : Option Addr) (b d : Nat) (ys : List Int) (C : Option Addr) (e f : Nat) (zs : List Int) (D : Option Addr) (m k : Nat) (bs : List Int) (w : World)
    (h : Bts w A a c xs) (h2 : Bts w B b d ys) (h3 : Bts w C e f zs) (h4 : Bts w D m k bs) :
    Calls Try.prog 13 #[.slice A a c, .slice B b d, .slice C e f, .slice D m k] w (OwnPost (strErr a b e (m : Int)) (xorS (strmS xs ys zs m) bs) w) :=
  ctr_Turn_of _ _ A a c B b d C e f D m k bs w h4 (ctr_Stream A a c xs B b d ys C e f zs (m : Int) w h h2 h3) (fun _ => strmS_len _ _ _ _)
def fewB (a b c : Nat) : Bool := decide (a + b + c ≤ 300)
theorem law09_few (A : Option Addr) (a c : Nat) (B : Option Addr) (b d : Nat) (C : Option Addr) (e f : Nat) (w : World) (ha : a ≤ 140737488355328) (hb : b ≤ 140737488355328) (he : e ≤ 140737488355328) :
    Calls Try.prog 7 #[.slice A a c, .slice B b d, .slice C e f] w fun q w' => q = .returned (.bool (fewB a b e)) ∧ w = w' := by
  have w1 : IntKind.i64.wrap ((a : Int) + (b : Int)) = (a : Int) + (b : Int) := IntWalk.i64_in _ (by omega)
  have w2 : IntKind.i64.wrap ((a : Int) + (b : Int) + (e : Int)) = (a : Int) + (b : Int) + (e : Int) := IntWalk.i64_in _ (by omega)
  have hq : decide ((a : Int) + (b : Int) + (e : Int) ≤ 300) = fewB a b e := by unfold fewB; exact decide_eq_decide.2 (by omega)
  generalize fewB a b e = F at hq ⊢
  go_enter Try.func7, Try.ntmps7
  go_wp2
  go_ret
  exact ⟨rfl, rfl⟩

def cKey : List Int := [174, 104, 82, 248, 18, 16, 103, 204, 75, 247, 165, 118, 85, 119, 243, 158]
def cMsg : List Int := [83, 105, 110, 103, 108, 101, 32, 98, 108, 111, 99, 107, 32, 109, 115, 103]
def cSalt : List Int := [0, 0, 0, 48]
def cIv : List Int := [0, 0, 0, 0, 0, 0, 0, 0]
def cOut : List Int := [228, 9, 93, 79, 183, 167, 179, 121, 45, 97, 117, 163, 38, 19, 17, 184]
def cKs : List Int := keysLE (if cKey.length = 16 then 40 else 52) cKey.length cKey.length 1 cKey
set_option maxRecDepth 100000 in
theorem c_E : xorS (blockLE (cKs.length / 16 - 1) (withS (cntS cSalt cIv 1) cKs) (cKs.drop 16)) cMsg = cOut := by decide +kernel
theorem c_ks : keysS cKey = cKs := by
  unfold keysS cKs
  rw [keysL_E]
theorem c_out : xorS (strmS cKey cSalt cIv 16) cMsg = cOut := by
  have e1 : strmS cKey cSalt cIv 16 = ctrBlk (keysS cKey) cSalt cIv 0 := by
    unfold strmS
    show (([] ++ ctrBlk (keysS cKey) cSalt cIv 0)).take 16 = _
    rw [List.nil_append, List.take_of_length_le (by unfold ctrBlk; rw [blockS_len]; omega)]
  rw [e1]
  unfold ctrBlk blockS
  rw [c_ks, blockL_E]
  exact c_E
def dSalt : List Int := [97, 98, 99, 100]
def dIv : List Int := [49, 50, 51, 52, 53, 54, 55, 56]
theorem d_out : cntS dSalt dIv 258 = [97, 98, 99, 100, 49, 50, 51, 52, 53, 54, 55, 56, 0, 0, 1, 2] := by decide +kernel
theorem make8 (W : World) : (Instr.makeSlice 22 (.int .i64 8) (.int .i64 8)).run Try.prog W = .ok (.slice (some ⟨W.heap.size, 0, none⟩) 8 8) (W.alloc (.cells (nums .u8 cIv).toArray 5)) := by
  obtain ⟨i0, hi0, hz0, hi2, hb0⟩ := info_parts Try.info5
  have h := run_make (P := Try.prog) W 22 5 i0 _ Try.underlying22 hi0 hz0 .i64 .i64 8 8 (by omega) (by omega) (by rw [hb0]; decide) (by omega)
  rw [hi2, show madeCells (Value.int .u8 0).cells (Int.toNat 8 * 1) = (nums .u8 cIv).toArray by kernel_rfl] at h
  exact h

/-- A literal row with the run-time's mark behind it. -/
theorem Bts.lit_mk (w : World) (g : Nat) (e : TypeId) (xs : List Int) (hg : w.heap.size = g) (hb : Byt xs) (hm : xs.length ≤ 140737488355328) : Bts (w.alloc (.cells (nums .u8 xs).toArray e ((nums .u8 xs).toArray.size, (nums .u8 xs).toArray.size + 1))) (some ⟨g, 0, none⟩) xs.length xs.length xs := by
  subst hg
  refine ⟨⟨rfl, by omega, fun _ => ⟨_, rfl, fun j hj => ?_⟩⟩, Nat.le_refl _, by omega, hm, hb⟩
  rw [add_plain]
  refine (cell_of_row _ _ _ _ e _ (heap_alloc_new w _)).trans ?_
  simp [nums, hj, List.getD_eq_getElem?_getD]
/-- The cells of a marked literal row, as the walk writes them. -/
abbrev mk (xs : List Int) : Obj := .cells (nums .u8 xs).toArray 5 ((nums .u8 xs).toArray.size, (nums .u8 xs).toArray.size + 1)
abbrev pl (xs : List Int) : Obj := .cells (nums .u8 xs).toArray 5

theorem mark_at (w : World) (C : Array Value) (n c g : Nat) (hg : w.heap.size = g) : (convert 22 22 (.slice (some ⟨g, 0, none⟩) n c)).run Try.prog (w.alloc (.cells C 5)) = .ok (.slice (some ⟨g, 0, none⟩) n c) (w.alloc (.cells C 5 (C.size, C.size + 1))) := by
  subst hg
  exact Lib.run_convert_bytes_const (P := Try.prog) w 22 5 C n c Try.underlying22 Try.underlying5

set_option maxHeartbeats 2000000 in
theorem awake09 (w : World) : Calls Try.prog 15 #[] w fun e w' => e = .returned (.bool true) ∧ Below w.heap.size w w' := by
  have mk8 := make8
  have kc := mark_at
  have k1 := Bts.lit_mk w w.heap.size 5 cKey rfl (by decide) (by decide)
  have k2 := Bts.lit_at (w.alloc (mk cKey)) (w.heap.size + 1) 5 cSalt (by simp) (by decide) (by decide)
  have k3 := Bts.lit_at ((w.alloc (mk cKey)).alloc (pl cSalt)) (w.heap.size + 1 + 1) 5 cIv (by simp) (by decide) (by decide)
  have k4 := Bts.lit_mk (((w.alloc (mk cKey)).alloc (pl cSalt)).alloc (pl cIv)) (w.heap.size + 1 + 1 + 1) 5 cMsg (by simp) (by decide) (by decide)
  have hB0 := below_alloc (below_alloc (below_alloc (below_alloc (Below.refl w.heap.size w) (mk cKey)) (pl cSalt)) (pl cIv)) (mk cMsg)
  have hT := Lib.hid (ctr_Turn _ _ _ _ _ _ _ _ _ _ _ _ _ _ _ _ _ (((k1.alloc _).alloc _).alloc _) ((k2.alloc _).alloc _) (k3.alloc _) k4)
  clear k1 k2 k3 k4
  replace hB0 := Lib.hid hB0
  go_enter Try.func15, Try.ntmps15
  go_wp2_with fail
  refine hT.out.mono ?_
  rintro e w2 ⟨A2, n2, c2, rfl, o2, hB2⟩
  clear hT
  rw [show strErr cKey.length cSalt.length cIv.length (cMsg.length : Int) = 0 by decide +kernel] at o2 ⊢
  rw [if_pos rfl] at o2
  have t2 := o2.sl
  rw [show cMsg.length = 16 from rfl, c_out] at t2
  have hB := below_step2 hB0.out hB2
  clear o2 hB2 hB0
  have k1 := Bts.lit_mk w2 w2.heap.size 5 dSalt rfl (by decide) (by decide)
  have k2 := Bts.lit_mk (w2.alloc (mk dSalt)) (w2.heap.size + 1) 5 dIv (by simp) (by decide) (by decide)
  have hC := Lib.hid (ctr_Counter _ _ _ _ _ _ _ _ 258 _ ⟨by decide, by decide⟩ (k1.alloc _) k2)
  have t3 := (t2.alloc (mk dSalt)).alloc (mk dIv)
  have hB3 := below_alloc (below_alloc hB (mk dSalt)) (mk dIv)
  clear k1 k2 t2 hB
  replace t3 := Lib.hid t3
  replace hB3 := Lib.hid hB3
  go_wp2_with fail
  refine hC.out.mono ?_
  rintro e w4 ⟨A4, n4, c4, rfl, o4, hB4⟩
  clear hC kc
  rw [show cntErr dSalt.length dIv.length 258 = 0 by decide +kernel] at o4 ⊢
  rw [if_pos rfl, d_out] at o4
  have r1 := (t3.out.below hB4).run_string (P := Try.prog) 22 9 Try.underlying22 Try.underlying5 Try.underlying9
  have r2 := o4.sl.run_string (P := Try.prog) 22 9 Try.underlying22 Try.underlying5 Try.underlying9
  have e1 : (strOfNums cOut).toList = [228, 9, 93, 79, 183, 167, 179, 121, 45, 97, 117, 163, 38, 19, 17, 184] := by decide +kernel
  have e2 : (strOfNums [97, 98, 99, 100, 49, 50, 51, 52, 53, 54, 55, 56, 0, 0, 1, 2]).toList = [97, 98, 99, 100, 49, 50, 51, 52, 53, 54, 55, 56, 0, 0, 1, 2] := by decide +kernel
  have hB := below_step2 hB3.out hB4
  clear t3 hB3 hB4 o4
  go_wp2
  go_ret
  exact ⟨rfl, hB⟩
end Go.Proofs.Ytgkphopdmkfcgaa

/- A block's steps as plain functions on lists. Conditions: those that each lemma states. -/
import Derived.Test.YtgkphopdmkfcgaaAes
namespace Go.Proofs.Ytgkphopdmkfcgaa

/-- Sixteen bytes, one by one. -/
def map16 (f : Nat → Int) : List Int := (List.range 16).map f
theorem map16_len (f : Nat → Int) : (map16 f).length = 16 := by simp [map16]
theorem map16_get (f : Nat → Int) (i : Nat) (h : i < 16) : (map16 f).getD i 0 = f i := by
  simp [map16, List.getD_eq_getElem?_getD, h]
theorem map16_byt (f : Nat → Int) (h : ∀ i, i < 16 → 0 ≤ f i ∧ f i ≤ 255) : Byt (map16 f) := by
  intro x hx
  simp only [map16, List.mem_map, List.mem_range] at hx
  obtain ⟨i, hi, rfl⟩ := hx
  exact h i hi
theorem eq_map16 (zs : List Int) (f : Nat → Int) (hl : zs.length = 16) (h : ∀ i, i < 16 → zs.getD i 0 = f i) : zs = map16 f := by
  refine List.ext_getElem (by rw [hl, map16_len]) fun i h1 h2 => ?_
  have := h i (by omega)
  rw [gd_lt zs i h1] at this
  rw [this, ← gd_lt _ i h2, map16_get f i (by omega)]
theorem map16_ext {f g : Nat → Int} (h : ∀ i, i < 16 → f i = g i) : map16 f = map16 g := by
  refine eq_map16 _ _ (map16_len f) fun i hi => ?_
  rw [map16_get f i hi, h i hi]
theorem get_set (l : List Int) (i j : Nat) (v : Int) (hj : j < l.length) : (l.set i v).getD j 0 = if j = i then v else l.getD j 0 := by
  simp only [List.getD_eq_getElem?_getD, List.getElem?_set]
  by_cases h : i = j
  · subst h; simp [hj]
  · rw [if_neg h, if_neg (fun e => h e.symm)]
def z16 : List Int := [0, 0, 0, 0, 0, 0, 0, 0, 0, 0, 0, 0, 0, 0, 0, 0]
theorem z16_get (j : Nat) : z16.getD j 0 = 0 := by
  rcases Nat.lt_or_ge j 16 with h | h
  · revert j; decide
  · exact gd_ge z16 j h
def withS (xs ys : List Int) : List Int := map16 fun i => bx (xs.getD i 0) (ys.getD i 0)
def rowsS (xs : List Int) : List Int := map16 fun i => box (xs.getD (5 * i % 16) 0)
def allS (xs : List Int) (c : Nat) : Int := bx (bx (bx (xs.getD c 0) (xs.getD (c + 1) 0)) (xs.getD (c + 2) 0)) (xs.getD (c + 3) 0)
def mixB (xs : List Int) (c r : Nat) : Int := bx (bx (xs.getD (c + r) 0) (allS xs c)) (dbl (bx (xs.getD (c + r) 0) (xs.getD (c + (r + 1) % 4) 0)))
def mixS (xs : List Int) : List Int := map16 fun i => mixB xs (i / 4 * 4) (i % 4)
/-- The rounds of a block, by the keys that are left. -/
def blockL : Nat → List Int → List Int → List Int
  | 0, b, _ => b
  | k + 1, b, ks => blockL k (withS (if 16 < ks.length then mixS (rowsS b) else rowsS b) ks) (ks.drop 16)
def blockS (ks ys : List Int) : List Int := blockL (ks.length / 16 - 1) (withS ys ks) (ks.drop 16)
theorem withS_len (xs ys : List Int) : (withS xs ys).length = 16 := map16_len _
theorem rowsS_len (xs : List Int) : (rowsS xs).length = 16 := map16_len _
theorem mixS_len (xs : List Int) : (mixS xs).length = 16 := map16_len _
theorem withS_byt {xs ys : List Int} (hx : Byt xs) (hy : Byt ys) : Byt (withS xs ys) := map16_byt _ fun i _ => bx_byte (byt_get hx i) (byt_get hy i)
theorem rowsS_byt (xs : List Int) : Byt (rowsS xs) := map16_byt _ fun _ _ => box_byte _
theorem allS_byte {xs : List Int} (hx : Byt xs) (c : Nat) : 0 ≤ allS xs c ∧ allS xs c ≤ 255 := by
  unfold allS
  exact bx_byte (bx_byte (bx_byte (byt_get hx _) (byt_get hx _)) (byt_get hx _)) (byt_get hx _)
theorem mixS_byt {xs : List Int} (hx : Byt xs) : Byt (mixS xs) := map16_byt _ fun i _ => by
  unfold mixB
  exact bx_byte (bx_byte (byt_get hx _) (allS_byte hx _)) dbl_byte
/-- A key's keys: the next word, the next four bytes, all of them. -/
def wordS (n i : Nat) (turn : Int) (out : List Int) : List Int :=
  if i % n = 0 then [bx (box (out.getD (i - 3) 0)) turn, box (out.getD (i - 2) 0), box (out.getD (i - 1) 0), box (out.getD (i - 4) 0)]
  else if n = 32 ∧ i % n = 16 then [box (out.getD (i - 4) 0), box (out.getD (i - 3) 0), box (out.getD (i - 2) 0), box (out.getD (i - 1) 0)]
  else [out.getD (i - 4) 0, out.getD (i - 3) 0, out.getD (i - 2) 0, out.getD (i - 1) 0]
def nextS (n i : Nat) (ws out : List Int) : List Int := [bx (ws.getD 0 0) (out.getD (i - n) 0), bx (ws.getD 1 0) (out.getD (i - n + 1) 0), bx (ws.getD 2 0) (out.getD (i - n + 2) 0), bx (ws.getD 3 0) (out.getD (i - n + 3) 0)]
def keysL : Nat → Nat → Nat → Int → List Int → List Int
  | 0, _, _, _, out => out
  | k + 1, n, i, turn, out => keysL k n (i + 4) (if i % n = 0 then dbl turn else turn) (out ++ nextS n i (wordS n i turn out) out)
def keysS (key : List Int) : List Int := keysL (if key.length = 16 then 40 else 52) key.length key.length 1 key
def keyErr (n : Nat) : Int := if n = 16 ∨ n = 32 then 0 else 1
theorem wordS_byt {n i : Nat} {turn : Int} {out : List Int} (ht : 0 ≤ turn ∧ turn ≤ 255) (hb : Byt out) : Byt (wordS n i turn out) := by
  unfold wordS
  split
  · simp only [byt_cons]; exact ⟨bx_byte (box_byte _) ht, box_byte _, box_byte _, box_byte _, byt_nil⟩
  split
  · simp only [byt_cons]; exact ⟨box_byte _, box_byte _, box_byte _, box_byte _, byt_nil⟩
  · simp only [byt_cons]; exact ⟨byt_get hb _, byt_get hb _, byt_get hb _, byt_get hb _, byt_nil⟩
theorem nextS_byt {n i : Nat} {ws out : List Int} (hw : Byt ws) (hb : Byt out) : Byt (nextS n i ws out) := by
  unfold nextS
  simp only [byt_cons]
  exact ⟨bx_byte (byt_get hw _) (byt_get hb _), bx_byte (byt_get hw _) (byt_get hb _), bx_byte (byt_get hw _) (byt_get hb _), bx_byte (byt_get hw _) (byt_get hb _), byt_nil⟩
def blkErr (n m : Nat) : Int := if (n = 176 ∨ n = 240) ∧ m = 16 then 0 else 1
theorem blkErr_zero {n m : Nat} : blkErr n m = 0 ↔ (n = 176 ∨ n = 240) ∧ m = 16 := by
  unfold blkErr
  by_cases h : (n = 176 ∨ n = 240) ∧ m = 16
  · rw [if_pos h]; exact ⟨fun _ => h, fun _ => rfl⟩
  · rw [if_neg h]; exact ⟨(fun e => by cases e), fun e => absurd e h⟩
theorem blkErr_one {n m : Nat} (h : ¬ ((n = 176 ∨ n = 240) ∧ m = 16)) : blkErr n m = 1 := if_neg h
end Go.Proofs.Ytgkphopdmkfcgaa

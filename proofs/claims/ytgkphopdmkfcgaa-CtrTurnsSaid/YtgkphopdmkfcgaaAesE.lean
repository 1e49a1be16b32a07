/- The table of Box written out; the document's example of a block under a key. Conditions: those that each lemma states. -/
import Derived.Test.YtgkphopdmkfcgaaAesB
namespace Go.Proofs.Ytgkphopdmkfcgaa

def boxTab : List Int := [99, 124, 119, 123, 242, 107, 111, 197, 48, 1, 103, 43, 254, 215, 171, 118, 202, 130, 201, 125, 250, 89, 71, 240, 173, 212, 162, 175, 156, 164, 114, 192, 183, 253, 147, 38, 54, 63, 247, 204, 52, 165, 229, 241, 113, 216, 49, 21, 4, 199, 35, 195, 24, 150, 5, 154, 7, 18, 128, 226, 235, 39, 178, 117, 9, 131, 44, 26, 27, 110, 90, 160, 82, 59, 214, 179, 41, 227, 47, 132, 83, 209, 0, 237, 32, 252, 177, 91, 106, 203, 190, 57, 74, 76, 88, 207, 208, 239, 170, 251, 67, 77, 51, 133, 69, 249, 2, 127, 80, 60, 159, 168, 81, 163, 64, 143, 146, 157, 56, 245, 188, 182, 218, 33, 16, 255, 243, 210, 205, 12, 19, 236, 95, 151, 68, 23, 196, 167, 126, 61, 100, 93, 25, 115, 96, 129, 79, 220, 34, 42, 144, 136, 70, 238, 184, 20, 222, 94, 11, 219, 224, 50, 58, 10, 73, 6, 36, 92, 194, 211, 172, 98, 145, 149, 228, 121, 231, 200, 55, 109, 141, 213, 78, 169, 108, 86, 244, 234, 101, 122, 174, 8, 186, 120, 37, 46, 28, 166, 180, 198, 232, 221, 116, 31, 75, 189, 139, 138, 112, 62, 181, 102, 72, 3, 246, 14, 97, 53, 87, 185, 134, 193, 29, 158, 225, 248, 152, 17, 105, 217, 142, 148, 155, 30, 135, 233, 206, 85, 40, 223, 140, 161, 137, 13, 191, 230, 66, 104, 65, 153, 45, 15, 176, 84, 187, 22]
set_option maxRecDepth 100000 in
theorem boxT_eq : boxT = boxTab := by decide +kernel
def boxE (x : Int) : Int := boxTab.getD x.toNat 0
theorem box_eq : box = boxE := by funext x; unfold box boxE; rw [boxT_eq]
def wordE (n i : Nat) (turn : Int) (out : List Int) : List Int :=
  if i % n = 0 then [bx (boxE (out.getD (i - 3) 0)) turn, boxE (out.getD (i - 2) 0), boxE (out.getD (i - 1) 0), boxE (out.getD (i - 4) 0)]
  else if n = 32 ∧ i % n = 16 then [boxE (out.getD (i - 4) 0), boxE (out.getD (i - 3) 0), boxE (out.getD (i - 2) 0), boxE (out.getD (i - 1) 0)]
  else [out.getD (i - 4) 0, out.getD (i - 3) 0, out.getD (i - 2) 0, out.getD (i - 1) 0]
theorem wordS_E (n i : Nat) (turn : Int) (out : List Int) : wordS n i turn out = wordE n i turn out := by unfold wordS wordE; rw [box_eq]
def keysLE : Nat → Nat → Nat → Int → List Int → List Int
  | 0, _, _, _, out => out
  | k + 1, n, i, turn, out => keysLE k n (i + 4) (if i % n = 0 then dbl turn else turn) (out ++ nextS n i (wordE n i turn out) out)
theorem keysL_E : ∀ (k n i : Nat) (turn : Int) (out : List Int), keysL k n i turn out = keysLE k n i turn out
  | 0, _, _, _, _ => rfl
  | k + 1, n, i, turn, out => by rw [keysL, keysLE, wordS_E, keysL_E k]
def rowsE (xs : List Int) : List Int := map16 fun i => boxE (xs.getD (5 * i % 16) 0)
theorem rowsS_E (xs : List Int) : rowsS xs = rowsE xs := by unfold rowsS rowsE; rw [box_eq]
def blockLE : Nat → List Int → List Int → List Int
  | 0, b, _ => b
  | k + 1, b, ks => blockLE k (withS (if 16 < ks.length then mixS (rowsE b) else rowsE b) ks) (ks.drop 16)
theorem blockL_E : ∀ (k : Nat) (b ks : List Int), blockL k b ks = blockLE k b ks
  | 0, _, _ => rfl
  | k + 1, b, ks => by rw [blockL, blockLE, rowsS_E, blockL_E k]
def exKey : List Int := [0, 1, 2, 3, 4, 5, 6, 7, 8, 9, 10, 11, 12, 13, 14, 15]
def exIn : List Int := [0, 17, 34, 51, 68, 85, 102, 119, 136, 153, 170, 187, 204, 221, 238, 255]
def exOut : List Int := [105, 196, 224, 216, 106, 123, 4, 48, 216, 205, 183, 128, 112, 180, 197, 90]
def exKs : List Int := keysLE (if exKey.length = 16 then 40 else 52) exKey.length exKey.length 1 exKey
set_option maxRecDepth 100000 in
theorem ex_E : blockLE (exKs.length / 16 - 1) (withS exIn exKs) (exKs.drop 16) = exOut := by decide +kernel
theorem ex_ks : keysS exKey = exKs := by
  unfold keysS exKs
  rw [keysL_E]
theorem ex_block : blockS (keysS exKey) exIn = exOut := by
  rw [ex_ks]
  unfold blockS
  rw [blockL_E]
  exact ex_E
theorem ex_box : box 83 = 237 := by rw [box_eq]; decide +kernel
theorem ex_times : times 87 131 = 193 := by decide +kernel
theorem nextS_len (n i : Nat) (ws out : List Int) : (nextS n i ws out).length = 4 := rfl
theorem keysL_len : ∀ (k n i : Nat) (turn : Int) (out : List Int), (keysL k n i turn out).length = out.length + 4 * k
  | 0, _, _, _, _ => rfl
  | k + 1, n, i, turn, out => by rw [keysL, keysL_len k, List.length_append, nextS_len]; omega
theorem keysS_len {key : List Int} (h : key.length = 16 ∨ key.length = 32) : (keysS key).length = if key.length = 16 then 176 else 240 := by
  unfold keysS
  rw [keysL_len]
  rcases h with h | h <;> rw [h] <;> rfl
theorem keysL_byt : ∀ (k n i : Nat) (turn : Int) (out : List Int), 0 ≤ turn ∧ turn ≤ 255 → Byt out → Byt (keysL k n i turn out)
  | 0, _, _, _, _, _, h => h
  | k + 1, n, i, turn, out, ht, h => by
    rw [keysL]
    exact keysL_byt k _ _ _ _ (by split; exact dbl_byte; exact ht) (byt_append.2 ⟨h, nextS_byt (wordS_byt ht h) h⟩)
theorem keysS_byt {key : List Int} (h : Byt key) : Byt (keysS key) := keysL_byt _ _ _ _ _ (by omega) h
def encErr (n m : Nat) : Int := if (n = 16 ∨ n = 32) ∧ m = 16 then 0 else 1
end Go.Proofs.Ytgkphopdmkfcgaa

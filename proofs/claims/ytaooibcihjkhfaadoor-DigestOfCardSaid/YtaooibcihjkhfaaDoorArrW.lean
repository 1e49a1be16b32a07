/- Arrays of 32 bit numbers in memory, known whole. Conditions: those that each lemma states. -/
import Derived.Test.YtaooibcihjkhfaaDoorArr
import Derived.Test.YtaooibcihjkhfaaDoorDig
namespace Go.Proofs.YtaooibcihjkhfaaDoor
open Go.RowKit Go.Proofs.YtaooibcihjkhfaaDoorW.PrintWords

/-- The cells of an array of numbers of 32 bits. -/
def cellsW (xs : List Int) : Array Value := (xs.map (Value.int .u32)).toArray
theorem cellsW_size (xs : List Int) : (cellsW xs).size = xs.length := by simp [cellsW]
theorem cellsW_one (xs : List Int) : (cellsW xs).all (·.oneCell') = true := by
  rw [Array.all_eq_true_iff_forall_mem]
  intro v hv
  simp [cellsW] at hv
  obtain ⟨x, _, rfl⟩ := hv
  rfl
theorem cellsW_set (xs : List Int) (i : Nat) (v : Int) : (cellsW xs).setIfInBounds i (.int .u32 v) = cellsW (xs.set i v) := by
  simp [cellsW, List.map_set]
theorem cellsW_get (xs : List Int) (i : Nat) (hi : i < xs.length) : (cellsW xs)[i]? = some (.int .u32 (xs.getD i 0)) := by
  simp [cellsW, List.getD_eq_getElem?_getD, hi]
/-- Block g, of type t, holds these numbers. -/
structure Arw (w : World) (g t : Nat) (xs : List Int) : Prop where
  blk : w.heap[g]? = some (.cells (cellsW xs) t (0, 0))
section
variable {w w1 : World} {g t : Nat} {xs : List Int}
theorem Arw.below (h : Arw w g t xs) (hb : Below w.heap.size w w1) : Arw w1 g t xs := ⟨blk_below h.blk hb⟩
theorem Arw.lt (h : Arw w g t xs) : g < w.heap.size := blk_lt h.blk
theorem Arw.cell (h : Arw w g t xs) (i : Nat) (hi : i < xs.length) : w.cell? ⟨g, i, none⟩ = some (.int .u32 (xs.getD i 0)) := (blk_cell h.blk i).trans (cellsW_get xs i hi)
theorem Arw.free (h : Arw w g t xs) (i : Nat) : w.frozen? ⟨g, i, none⟩ = false := blk_frozen h.blk i
theorem Arw.drewN (h : Arw w g t xs) (k : Nat) : Arw (w.drewN k) g t xs := ⟨h.blk⟩
theorem Arw.drew (h : Arw w g t xs) : Arw w.drew g t xs := ⟨h.blk⟩
theorem Arw.alloc (h : Arw w g t xs) (o : Obj) : Arw (w.alloc o) g t xs := h.below (below_alloc (Below.refl _ _) o)
theorem Arw.set (h : Arw w g t xs) (i : Nat) (v : Int) : Arw (w.setCell ⟨g, i, none⟩ (.int .u32 v)) g t (xs.set i v) := ⟨by rw [← cellsW_set]; exact blk_set h.blk i _⟩
theorem Arw.far (h : Arw w g t xs) {p : Addr} (hne : g ≠ p.block) (v : Value) : Arw (w.setCell p v) g t xs := ⟨blk_far h.blk hne v⟩
theorem Arw.new (w : World) (t : Nat) (xs : List Int) : Arw (w.alloc (.cells (cellsW xs) t)) w.heap.size t xs := ⟨blk_new _ _⟩
theorem Arw.at_ (w : World) (g t : Nat) (xs : List Int) (hg : w.heap.size = g) : Arw (w.alloc (.cells (cellsW xs) t)) g t xs := by subst hg; exact ⟨blk_new _ _⟩
theorem Arw.setRow (h : Arw w g t xs) (ys : List Int) : Arw (w.setRow g (cellsW ys)) g t ys := ⟨setRow_heap w g _ _ t _ h.blk⟩
end
theorem Arw.farRow {w : World} {g t : Nat} {xs : List Int} (h : Arw w g t xs) {g' : Nat} (hne : g ≠ g') (cs : Array Value) : Arw (w.setRow g' cs) g t xs := ⟨(heap_setRow_far w g' cs g hne).trans h.blk⟩
/-- An element of an array that is a value. -/
theorem cellsW_at (xs : List Int) (i : Nat) (hi : i < xs.length) : (cellsW xs)[i]? = some (.int .u32 (xs.getD i 0)) := cellsW_get xs i hi
end Go.Proofs.YtaooibcihjkhfaaDoor

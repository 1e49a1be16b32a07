/- Words for the timer's walks: a timer in memory. Conditions: those that each lemma states. -/
import Derived.Test.YtmcidhdjbcjonaaBase
import Derived.Test.YtmcidhdjbcjonaaRto
namespace Go.Proofs.Ytmcidhdjbcjonaa
open Go.RowKit Go.Proofs.YtmcidhdjbcjonaaW.PrintWords

theorem below_grown {w W W1 : World} {B g : Nat} (h : Below B w W) (hs : B ≤ W.heap.size) (hg : W.grownBy W1 (some g)) (hb : B ≤ g) : Below B w W1 := h.grown hg hs (fun k e => by injection e with e; omega)
/-- A timer lies in block g. -/
structure Tm (w : World) (g : Nat) (t : St) : Prop where
  blk : w.heap[g]? = some (.cells #[.int .i64 t.s, .int .i64 t.v, .bool t.k, .int .i64 t.b] 40 (0, 0))
section
variable {w w1 : World} {g : Nat} {t : St}
theorem Tm.c0 (h : Tm w g t) : w.cell? ⟨g, 0, none⟩ = some (.int .i64 t.s) := (blk_cell h.blk 0).trans rfl
theorem Tm.c1 (h : Tm w g t) : w.cell? ⟨g, 1, none⟩ = some (.int .i64 t.v) := (blk_cell h.blk 1).trans rfl
theorem Tm.c2 (h : Tm w g t) : w.cell? ⟨g, 2, none⟩ = some (.bool t.k) := (blk_cell h.blk 2).trans rfl
theorem Tm.c3 (h : Tm w g t) : w.cell? ⟨g, 3, none⟩ = some (.int .i64 t.b) := (blk_cell h.blk 3).trans rfl
theorem Tm.f (h : Tm w g t) (i : Nat) : w.frozen? ⟨g, i, none⟩ = false := blk_frozen h.blk i
theorem Tm.below (h : Tm w g t) (hb : Below w.heap.size w w1) : Tm w1 g t := ⟨blk_below h.blk hb⟩
theorem Tm.grown (h : Tm w g t) {row : Option Nat} (hg : w.grownBy w1 row) (hne : some g ≠ row) : Tm w1 g t := ⟨blk_grown h.blk hg hne⟩
theorem Tm.drewN (h : Tm w g t) (n : Nat) : Tm (w.drewN n) g t := ⟨h.blk⟩
theorem Tm.lt (h : Tm w g t) : g < w.heap.size := blk_lt h.blk
end
end Go.Proofs.Ytmcidhdjbcjonaa

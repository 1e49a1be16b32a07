/- Arrays of bytes in memory, known whole. Conditions: those that each lemma states. -/
import Derived.Test.YtaooibcihjkhfaaDoorBase
import Derived.Test.YtaooibcihjkhfaaDoorStr
import Derived.Laws.Tables
import Derived.Laws.Rows
import Derived.Deep.MidRow
namespace Go.Proofs.YtaooibcihjkhfaaDoor
open Go.RowKit Go.Proofs.YtaooibcihjkhfaaDoorW.PrintWords

/-- The cells of an array of bytes. -/
def cellsB (xs : List Int) : Array Value := (xs.map (Value.int .u8)).toArray
theorem cellsB_size (xs : List Int) : (cellsB xs).size = xs.length := by simp [cellsB]
theorem cellsB_one (xs : List Int) : (cellsB xs).all (·.oneCell') = true := by
  rw [Array.all_eq_true_iff_forall_mem]
  intro v hv
  simp [cellsB] at hv
  obtain ⟨x, _, rfl⟩ := hv
  rfl
theorem cellsB_set (xs : List Int) (i : Nat) (v : Int) : (cellsB xs).setIfInBounds i (.int .u8 v) = cellsB (xs.set i v) := by
  simp [cellsB, List.map_set]
theorem cellsB_get (xs : List Int) (i : Nat) (hi : i < xs.length) : (cellsB xs)[i]? = some (.int .u8 (xs.getD i 0)) := by
  simp [cellsB, List.getD_eq_getElem?_getD, hi]
/-- Block g, of type t, holds these bytes. -/
structure Arr (w : World) (g t : Nat) (xs : List Int) : Prop where
  blk : w.heap[g]? = some (.cells (cellsB xs) t (0, 0))
section
variable {w w1 : World} {g t : Nat} {xs : List Int}
theorem Arr.below (h : Arr w g t xs) (hb : Below w.heap.size w w1) : Arr w1 g t xs := ⟨blk_below h.blk hb⟩
theorem Arr.lt (h : Arr w g t xs) : g < w.heap.size := blk_lt h.blk
theorem Arr.cell (h : Arr w g t xs) (i : Nat) (hi : i < xs.length) : w.cell? ⟨g, i, none⟩ = some (.int .u8 (xs.getD i 0)) := (blk_cell h.blk i).trans (cellsB_get xs i hi)
theorem Arr.free (h : Arr w g t xs) (i : Nat) : w.frozen? ⟨g, i, none⟩ = false := blk_frozen h.blk i
theorem Arr.drewN (h : Arr w g t xs) (k : Nat) : Arr (w.drewN k) g t xs := ⟨h.blk⟩
theorem Arr.drew (h : Arr w g t xs) : Arr w.drew g t xs := ⟨h.blk⟩
theorem Arr.alloc (h : Arr w g t xs) (o : Obj) : Arr (w.alloc o) g t xs := h.below (below_alloc (Below.refl _ _) o)
theorem Arr.set (h : Arr w g t xs) (i : Nat) (v : Int) : Arr (w.setCell ⟨g, i, none⟩ (.int .u8 v)) g t (xs.set i v) := ⟨by rw [← cellsB_set]; exact blk_set h.blk i _⟩
theorem Arr.far (h : Arr w g t xs) {p : Addr} (hne : g ≠ p.block) (v : Value) : Arr (w.setCell p v) g t xs := ⟨blk_far h.blk hne v⟩
theorem Arr.new (w : World) (t : Nat) (xs : List Int) : Arr (w.alloc (.cells (cellsB xs) t)) w.heap.size t xs := ⟨blk_new _ _⟩
theorem Arr.at_ (w : World) (g t : Nat) (xs : List Int) (hg : w.heap.size = g) : Arr (w.alloc (.cells (cellsB xs) t)) g t xs := by subst hg; exact ⟨blk_new _ _⟩
theorem Arr.setRow (h : Arr w g t xs) (ys : List Int) : Arr (w.setRow g (cellsB ys)) g t ys := ⟨setRow_heap w g _ _ t _ h.blk⟩
end
/-- The return of a function whose one result lies in memory. -/
theorem ret_cell1 {P : Program} {fn : Func} {p : Tmp} {ty : TypeId} (hr : fn.results = #[.cell p ty]) {R : Ending → World → Prop} {tmps : Array Value} {w : World} {g : Nat} {t : TypeId} {cs : Array Value} {d : TypeDesc}
    (hp : tmps.getD p undef = .pointer (some ⟨g, 0, none⟩)) (hg : w.heap[g]? = some (.cells cs t (0, 0))) (hu : P.underlying ty = some d) (hd : (match d with | .struct _ | .array _ _ => true | _ => false) = true) (hi : (P.info? ty).map (·.size) = some cs.size)
    (h : R (.returned (.agg cs)) w) : bodyPost P fn R .ret { tmps := tmps, defers := [] } w :=
  ⟨rfl, _, results_cell_row hr tmps w g t cs (0, 0) d hp hg hu hd hi, h⟩
theorem heap_setRow_far (w : World) (g : Nat) (cs : Array Value) (i : Nat) (h : i ≠ g) : (w.setRow g cs).heap[i]? = w.heap[i]? := by
  simp only [World.setRow, Array.getElem?_modify]
  rw [if_neg (fun e => h e.symm)]
theorem setRow_size (w : World) (g : Nat) (cs : Array Value) : (w.setRow g cs).heap.size = w.heap.size := by simp [World.setRow]
theorem below_setRow {w W : World} {base : Nat} (h : Below base w W) {g : Nat} (hg : base ≤ g) (cs : Array Value) : Below base w (W.setRow g cs) := by
  exact h.trans ⟨rfl, rfl, rfl, Nat.le_of_eq (setRow_size W g cs).symm, fun k hk => heap_setRow_far W g cs k (by omega)⟩
theorem Arr.farRow {w : World} {g t : Nat} {xs : List Int} (h : Arr w g t xs) {g' : Nat} (hne : g ≠ g') (cs : Array Value) : Arr (w.setRow g' cs) g t xs := ⟨(heap_setRow_far w g' cs g hne).trans h.blk⟩
/-- An array that is read where a slice begins. -/
theorem run_loadVar_at {P : Program} (w : World) (ad : Addr) (ty : TypeId) (xs : List Int) (d : TypeDesc) (hc : ∀ j, j < xs.length → w.cell? (ad.add j) = some (.int .u8 (xs.getD j 0)))
    (hu : P.underlying ty = some d) (hd : d.isRow = true) (hi : (P.info? ty).map (·.size) = some (cellsB xs).size) :
    (loadVar ty ad).run P w = .ok (.agg (cellsB xs)) w := by
  have hl : (loadCells ad (xs.map (Value.int .u8)).length).run P w = .ok (xs.map (Value.int .u8)).toArray w :=
    run_loadCells_list (P := P) w ad _ (fun j v hv => by
      have hj : j < xs.length := by have := (List.getElem?_eq_some_iff.1 hv).1; simpa using this
      rw [hc j hj, ← hv]
      simp [List.getD_eq_getElem?_getD, hj])
  cases hq : P.info? ty with
  | none => simp [hq] at hi
  | some i =>
    have hs : i.size = xs.length := by simpa [hq, cellsB_size] using hi
    have hagg : (isAgg ty).run P w = .ok true w := by
      unfold isAgg
      rw [Sem.run_bind, run_underlying hu w]
      cases d <;> simp_all
    rw [List.length_map] at hl
    simp [loadVar, Sem.run_bind, hagg, sizeOf, typeInfo, hq, hs, hl, cellsB]
theorem wpList_load_at {P : Program} {ops : Array Oper} {rest : List Oper} {op : Oper} {a : Act} {w : World} {Q : Exit → Act → World → Prop} (hgd : op.guard = none) (ty : TypeId) (x : Operand) (ho : op.op = .load ty x)
    (ad : Addr) (hx : a.eval x = .pointer (some ad)) (xs : List Int) (d : TypeDesc) (hc : ∀ j, j < xs.length → w.cell? (ad.add j) = some (.int .u8 (xs.getD j 0)))
    (hu : P.underlying ty = some d) (hd : d.isRow = true) (hi : (P.info? ty).map (·.size) = some (cellsB xs).size)
    (h : wpList P ops Q rest (a.put op.dst (.agg (cellsB xs))) w) : wpList P ops Q (op :: rest) a w :=
  wpList_plain hgd fun _ hK => by
    unfold Oper.wp execOp
    simp only [ho, hx, Instr.loadAt, Instr.sureAddr, Sem.run_bind, Sem.run_pure, Result.andThen_ok, run_loadVar_at w ad ty xs d hc hu hd hi]
    exact hK _ _ h
/-- A slice as an array. -/
theorem run_arrayAt {P : Program} (w : World) (t e : TypeId) (n : Nat) (a : Option Addr) (len c : Nat) (hu : P.underlying t = some (.array n e)) (hn : n ≤ len) :
    (Instr.arrayAt t (.slice a len c)).run P w = .ok (.pointer a) w := by
  unfold Instr.arrayAt
  rw [Sem.run_bind, run_underlying hu w]
  simp [show ¬ len < n by omega]
/-- An array's slice. -/
theorem Arr.bts {w : World} {g t : Nat} {xs : List Int} (h : Arr w g t xs) (hb : Byt xs) (hm : xs.length ≤ 140737488355328) : Bts w (some ⟨g, 0, none⟩) xs.length xs.length xs :=
  ⟨⟨rfl, by omega, fun _ => ⟨_, rfl, fun j hj => by rw [add_plain]; exact h.cell j hj⟩⟩, Nat.le_refl _, by omega, hm, hb⟩
/-- What a call hands back: a slice that reads as these bytes, or none; and an error. -/
def ReadPost (err : Int) (bs : List Int) (w : World) (e : Ending) (w' : World) : Prop :=
  ∃ A n c, e = .returned (.tuple #[.slice A n c, .int .i64 err]) ∧ Bts w' A n c (if err = 0 then bs else []) ∧ Below w.heap.size w w'
/-- .. a slice of the call's own. -/
def OwnPost (err : Int) (bs : List Int) (w : World) (e : Ending) (w' : World) : Prop :=
  ∃ A n c, e = .returned (.tuple #[.slice A n c, .int .i64 err]) ∧ OwnB w' w.heap.size (.slice A n c) (if err = 0 then bs else []) ∧ Below w.heap.size w w'
theorem OwnB.sl {w : World} {base : Nat} {A : Option Addr} {n c : Nat} {xs : List Int} (h : OwnB w base (.slice A n c) xs) : Bts w A n c xs := by
  obtain ⟨A', n', c', e, hb⟩ := h.bts
  injection e with e1 e2 e3
  subst e1 e2 e3
  exact hb
end Go.Proofs.YtaooibcihjkhfaaDoor

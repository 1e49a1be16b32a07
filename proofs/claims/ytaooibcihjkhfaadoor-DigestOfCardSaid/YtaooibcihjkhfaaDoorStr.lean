/- Strings that are made of bytes are alike if the bytes are. Conditions: those that each lemma states. -/
import Derived.Test.YtaooibcihjkhfaaDoorBase
import Derived.Laws.StructEq
import Derived.Laws.ResultCell
namespace Go.Proofs.YtaooibcihjkhfaaDoor
open Go.RowKit Go.Proofs.YtaooibcihjkhfaaDoorW.PrintWords

theorem hid_stop {p : Prop} (h : Hid p) : p := h.out
/-- The return of a function whose first result lies in memory. -/
theorem ret_cell2 {P : Program} {fn : Func} {p u : Tmp} {ty : TypeId} (hr : fn.results = #[.cell p ty, .tmp u]) {R : Ending → World → Prop} {tmps : Array Value} {w : World} {g : Nat} {t : TypeId} {cs : Array Value} {d : TypeDesc}
    (hp : tmps.getD p undef = .pointer (some ⟨g, 0, none⟩)) (hg : w.heap[g]? = some (.cells cs t (0, 0))) (hu : P.underlying ty = some d) (hd : (match d with | .struct _ | .array _ _ => true | _ => false) = true) (hi : (P.info? ty).map (·.size) = some cs.size)
    (h : R (.returned (.tuple #[.agg cs, tmps.getD u undef])) w) : bodyPost P fn R .ret { tmps := tmps, defers := [] } w := by
  refine ⟨rfl, _, ?_, h⟩
  have hp' : tmps[p]?.getD undef = .pointer (some ⟨g, 0, none⟩) := by simpa using hp
  rw [results_cell_tmp hr]
  simp [hp', asAddr, run_loadVar_row w g t ty cs (0, 0) d hg hu hd hi, Result.andThen]
theorem bytesOf_str (xs : List Int) (h : Byt xs) : bytesOf (strOfNums xs) = xs := by
  simp only [bytesOf, strOfNums, List.map_map]
  conv => rhs; rw [← List.map_id xs]
  refine List.map_congr_left fun x hx => ?_
  have := h x hx
  simp only [Function.comp, UInt8.toNat_ofNat', id]
  omega
theorem str_inj {xs ys : List Int} (hx : Byt xs) (hy : Byt ys) (h : strOfNums xs = strOfNums ys) : xs = ys := by
  rw [← bytesOf_str xs hx, ← bytesOf_str ys hy, h]
theorem str_eqb {xs ys : List Int} (hx : Byt xs) (hy : Byt ys) : ((strOfNums xs).toList == (strOfNums ys).toList) = decide (xs = ys) := by
  by_cases h : xs = ys
  · subst h; simp
  · rw [decide_eq_false h]
    exact beq_eq_false_iff_ne.mpr (fun e => h (str_inj hx hy (by
      rw [ByteArray.toList_eq, ByteArray.toList_eq] at e
      exact ByteArray.ext (Array.toList_inj.1 e))))
theorem str_beq {xs ys : List Int} (hx : Byt xs) (hy : Byt ys) : (strOfNums xs == strOfNums ys) = decide (xs = ys) := (beq_toListBytes _ _).trans (str_eqb hx hy)
theorem OwnB.far {w : World} {base : Nat} {v : Value} {xs : List Int} (h : OwnB w base v xs) {p : Addr} (hp : p.block < base) (u : Value) : OwnB (w.setCell p u) base v xs :=
  ⟨own_setCell h.own (by rcases own_base' h.own with e | ⟨k, e, hk⟩ <;> rw [e] <;> simp; omega) u, h.max, h.byt⟩
theorem Rws.two (w : World) (g : Nat) (e : TypeId) {A1 A2 : Option Addr} {n1 c1 n2 c2 : Nat} {xs ys : List Int} (hg : w.heap.size = g) (h1 : Bts w A1 n1 c1 xs) (h2 : Bts w A2 n2 c2 ys) :
    Rws (w.alloc (.cells #[.slice A1 n1 c1, .slice A2 n2 c2] e)) (some ⟨g, 0, none⟩) 2 2 [xs, ys] :=
  Rws.lit w g e [(.slice A1 n1 c1, xs), (.slice A2 n2 c2, ys)] hg (by simp) (by simp; exact ⟨⟨_, _, _, ⟨rfl, rfl, rfl⟩, h1⟩, ⟨_, _, _, ⟨rfl, rfl, rfl⟩, h2⟩⟩)
theorem Rws.three (w : World) (g : Nat) (e : TypeId) {A1 A2 A3 : Option Addr} {n1 c1 n2 c2 n3 c3 : Nat} {xs ys zs : List Int} (hg : w.heap.size = g) (h1 : Bts w A1 n1 c1 xs) (h2 : Bts w A2 n2 c2 ys) (h3 : Bts w A3 n3 c3 zs) :
    Rws (w.alloc (.cells #[.slice A1 n1 c1, .slice A2 n2 c2, .slice A3 n3 c3] e)) (some ⟨g, 0, none⟩) 3 3 [xs, ys, zs] :=
  Rws.lit w g e [(.slice A1 n1 c1, xs), (.slice A2 n2 c2, ys), (.slice A3 n3 c3, zs)] hg (by simp) (by simp; exact ⟨⟨_, _, _, ⟨rfl, rfl, rfl⟩, h1⟩, ⟨_, _, _, ⟨rfl, rfl, rfl⟩, h2⟩, ⟨_, _, _, ⟨rfl, rfl, rfl⟩, h3⟩⟩)
end Go.Proofs.YtaooibcihjkhfaaDoor

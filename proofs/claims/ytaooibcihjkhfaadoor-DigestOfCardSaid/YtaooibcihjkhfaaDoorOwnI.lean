/- Slices of int of the call's own. Conditions: those that each lemma states. -/
import Derived.Test.YtaooibcihjkhfaaDoorInts
namespace Go.Proofs.YtaooibcihjkhfaaDoor
set_option linter.unusedVariables false
open Go.RowKit Go.Proofs.YtaooibcihjkhfaaDoorW.PrintWords

theorem infoI : (Tryd.prog.info? 3).map (fun i => (i.zero, i.size, i.bytes)) = some (some (.int .i64 0), 1, 8) := by kernel_rfl
/-- A slice value of the call's own that holds these numbers. -/
structure OwnI (w : World) (base : Nat) (v : Value) (xs : List Int) : Prop where
  own : w.ownsRow base 3 1 v xs.length (nums .i64 xs)
  max : xs.length ≤ 1000000
  rng : ∀ x ∈ xs, I64 x
section
variable {w w1 : World} {base : Nat} {v : Value} {xs : List Int}
theorem OwnI.nil_ (w : World) (base : Nat) : OwnI w base (.slice none 0 0) [] := ⟨own_nil _ _ _ _, by simp, fun x hx => by simp at hx⟩
theorem OwnI.its (h : OwnI w base v xs) : ∃ A n c, v = .slice A n c ∧ Its w A n c xs := by
  obtain ⟨A, c, e, hr⟩ := own_reads h.own
  subst e
  have hm := h.max
  refine ⟨A, xs.length, c, rfl, hr, own_le h.own, ?_, by omega, h.rng⟩
  rcases h.own.2 with ⟨e, _⟩ | ⟨g, cap, cur, e, _, _, _, hc, _⟩
  · injection e with _ _ e3; subst e3; omega
  · injection e with _ _ e3; subst e3
    exact hc
theorem OwnI.below (h : OwnI w base v xs) (hb : Below w.heap.size w w1) : OwnI w1 base v xs := ⟨pw_own_below h.own hb, h.max, h.rng⟩
theorem OwnI.alloc (h : OwnI w base v xs) (o : Obj) : OwnI (w.alloc o) base v xs := h.below (below_alloc (Below.refl _ _) o)
theorem OwnI.drew (h : OwnI w base v xs) : OwnI w.drew base v xs := h.below (below_drew (Below.refl _ _))
theorem OwnI.lower {base' : Nat} (h : OwnI w base v xs) (hb : base' ≤ base) : OwnI w base' v xs := ⟨own_weaken h.own hb, h.max, h.rng⟩
end
/-- A literal slice of ints. -/
theorem ints_lit (w : World) (g : Nat) (e : TypeId) (xs : List Int) (hg : w.heap.size = g) (hm : xs.length ≤ 1000000) : ReadsInt (w.alloc (.cells (nums .i64 xs).toArray e)) .i64 (some ⟨g, 0, none⟩) xs.length xs := by
  subst hg
  refine ⟨rfl, by omega, fun _ => ⟨_, rfl, fun j hj => ?_⟩⟩
  rw [add_plain]
  refine (cell_of_row _ _ _ _ e (0, 0) (heap_alloc_new w _)).trans ?_
  simp [nums, hj, List.getD_eq_getElem?_getD]
/-- append(v, ys...): v of the call's own. -/
theorem append_ownI {P : Program} {ops : Array Oper} {rest : List Oper} {o : Oper} {a : Act} {Q : Exit → Act → World → Prop} {w0 W : World} (base : Nat) (hgd : o.guard = none) (s x : Operand) (t : TypeId)
    (ho : o.op = .call { callee := .builtin .append, args := #[s, x], argTypes := #[t, t] })
    (ht : P.underlying t = some (.slice 3)) (hinfo : (P.info? 3).map (fun i => (i.zero, i.size, i.bytes)) = some (some (.int .i64 0), 1, 8))
    (v : Value) (xs ys : List Int) (A : Option Addr) (m c : Nat) (hs : a.eval s = v) (hx : a.eval x = .slice A m c)
    (HO : OwnI W base v xs) (HR : ReadsInt W .i64 A m ys) (hr : ∀ y ∈ ys, I64 y) (HB : Below base w0 W) (hbase : base ≤ W.heap.size) (hl : xs.length + m ≤ 1000000)
    (h : ∀ A1 n1 c1 w1, OwnI w1 base (.slice A1 n1 c1) (xs ++ ys) → n1 = xs.length + m → Below base w0 w1 → wpList P ops Q rest (a.put o.dst (.slice A1 n1 c1)) w1) :
    wpList P ops Q (o :: rest) a W :=
  print_append_row base hgd s x t 3 .i64 8 ho ht hinfo (by decide) v xs ys A m c hs hx HO.own HR HB hbase (by omega) (fun v1 w1 h1 h2 _ _ => by
    have hym := HR.1
    have O1 : OwnI w1 base v1 (xs ++ ys) := ⟨h1, by rw [List.length_append, hym]; exact hl, fun z hz => by
      rcases List.mem_append.1 hz with q | q
      · exact HO.rng z q
      · exact hr z q⟩
    obtain ⟨A1, n1, c1, e, I1⟩ := O1.its
    subst e
    have hn := I1.len
    rw [List.length_append, hym] at hn
    exact h A1 n1 c1 w1 O1 hn.symm h2)
end Go.Proofs.YtaooibcihjkhfaaDoor

/- append within a round; what reads bytes where some blocks lie as they lay. Conditions: those that each lemma states. -/
import Derived.Test.YtljdkfgnoalgpaaArr
import Derived.Test.YtljdkfgnoalgpaaRng
namespace Go.Proofs.Ytljdkfgnoalgpaa
open Go.RowKit Go.Proofs.YtljdkfgnoalgpaaW.PrintWords

/-- Every block below B but x lies as it lay. -/
def SameBut (B x : Nat) (X Y : World) : Prop := X.heap.size ≤ Y.heap.size ∧ ∀ k, k < B → k ≠ x → Y.heap[k]? = X.heap[k]?
theorem SameBut.refl (B x : Nat) (X : World) : SameBut B x X X := ⟨Nat.le_refl _, fun _ _ _ => rfl⟩
theorem SameBut.trans {B x : Nat} {X Y Z : World} (h : SameBut B x X Y) (k : SameBut B x Y Z) : SameBut B x X Z := ⟨Nat.le_trans h.1 k.1, fun i hi hx => (k.2 i hi hx).trans (h.2 i hi hx)⟩
theorem SameBut.putObj {B x : Nat} (W : World) (l : Nat) (o' : Obj) (h : B ≤ l) : SameBut B x W (W.putObj l o') := ⟨by simp, fun k hk _ => World.putObj_heap_other (by omega)⟩
theorem SameBut.below {B x : Nat} {X Y : World} (h : Below X.heap.size X Y) (hb : B ≤ X.heap.size) : SameBut B x X Y := ⟨h.size, fun k hk _ => h.block k (by omega)⟩
theorem SameBut.box {B x k : Nat} {X Y : World} {t : TypeId} {v : Value} (h : SameBut B x X Y) (hk : k < B) (hx : k ≠ x) (hb : Boxed X k t v) : Boxed Y k t v := (h.2 k hk hx).trans hb
theorem SameBut.set {B x : Nat} (W : World) (v : Value) : SameBut B x W (W.setCell ⟨x, 0, none⟩ v) := ⟨(KeepsWalks.setCell W _ v).size, fun k _ hx => Below.heap_setCell W _ v k hx⟩
theorem SameBut.grown {B x : Nat} {X Y : World} {r : Option Nat} (h : X.grownBy Y r) (hb : B ≤ X.heap.size) (hr : ∀ k, r = some k → B ≤ k) : SameBut B x X Y := ⟨h.size, fun k hk _ => h.block k (by omega) (fun e => by have := hr k e.symm; omega)⟩
theorem OwnB.others {X Y : World} {base : Nat} {v : Value} {xs : List Int} (h : OwnB X base v xs) (hg : X.grownBy Y v.ownBlock) : KeepsOthers X Y :=
  KeepsOthers.of_grownBy hg fun j o ej hj => by
    rcases h.own.2 with ⟨rfl, _⟩ | ⟨g, cap, cur, rfl, _, hgb, _⟩
    · simp [Value.ownBlock] at ej
    · obtain rfl : g = j := by simpa [Value.ownBlock] using ej
      rw [hgb] at hj; cases hj; rfl
/-- Bytes that lie in blocks that lie as they lay. -/
theorem Bts.same {w W : World} {A : Option Addr} {n c : Nat} {xs : List Int} (h : Bts w A n c xs) (hs : w.heap.size ≤ W.heap.size) (hb : ∀ k, k < w.heap.size → W.heap[k]? = w.heap[k]?) : Bts W A n c xs := by
  have h2 : Below w.heap.size w { W with os := w.os, tape := w.tape, output := w.output } := ⟨rfl, rfl, rfl, hs, hb⟩
  have := h.below h2
  exact ⟨⟨this.rd.1, this.rd.2.1, this.rd.2.2⟩, this.le, this.cap, this.max, this.byt⟩
theorem grown_of_below {w W : World} (h : Below w.heap.size w W) : w.grownBy W none := ⟨h.os, h.tape, h.output, h.size, fun k hk _ => h.block k hk⟩
/-- append(v, ys...) as it runs: v of the call's own. -/
theorem run_append_bts {P : Program} {W : World} (base : Nat) (t ty : TypeId) (ht : P.underlying t = some (.slice 5)) (hinfo : (P.info? 5).map (fun i => (i.zero, i.size, i.bytes)) = some (some (.int .u8 0), 1, 1))
    (v : Value) (xs ys : List Int) (A : Option Addr) (m c : Nat) (HO : OwnB W base v xs) (HR : Bts W A m c ys) (hbase : base ≤ W.heap.size) (hl : xs.length + m ≤ 140737488355328) :
    ∃ v1 w1, (Builtin.append_ #[t, t] ty #[v, .slice A m c]).run P W = .ok v1 w1 ∧ OwnB w1 base v1 (xs ++ ys) ∧ W.grownBy w1 v.ownBlock := by
  obtain ⟨i0, hi, hzz⟩ := Option.map_eq_some_iff.1 hinfo
  simp only [Prod.mk.injEq] at hzz
  obtain ⟨hz0, hz1, hz2⟩ := hzz
  have hm : ys.length = m := HR.len
  have hbyt := byt_append.2 ⟨HO.byt, HR.byt⟩
  have hmx : (xs ++ ys).length ≤ 140737488355328 := by rw [List.length_append, hm]; exact hl
  rcases A with _ | ad
  · have h0 : m = 0 := by
      rcases Nat.eq_zero_or_pos m with h0 | h0
      · exact h0
      · obtain ⟨ad, h, _⟩ := HR.rd.2.2 h0
        cases h
    subst h0
    obtain rfl : ys = [] := List.eq_nil_of_length_eq_zero hm
    refine ⟨v, W, ?_, ⟨by simpa using HO.own, hmx, hbyt⟩, World.grownBy.refl W _⟩
    rcases HO.own.2 with ⟨rfl, hn⟩ | ⟨g, cap, cur, rfl, _, _, hnc, _⟩
    · simp [Builtin.append_, run_underlying ht, sizeOf, typeInfo, hi, Builtin.lenOf, Builtin.firstCells]
    · simp [Builtin.append_, run_underlying ht, sizeOf, typeInfo, hi, Builtin.lenOf, Builtin.firstCells, hnc, storeCells]
  · have hcells : ∀ j u, (nums .u8 ys)[j]? = some u → W.cell? (ad.add j) = some u := by
      intro j u hu
      have hj : j < ys.length := by
        rcases Nat.lt_or_ge j ys.length with h | h
        · exact h
        · simp [nums, List.getElem?_eq_none h] at hu
      obtain ⟨ad', h', hc⟩ := HR.rd.2.2 (by omega)
      injection h' with h'
      subst h'
      have := hc j (by omega)
      simp [nums, List.getElem?_eq_getElem hj] at hu
      subst hu
      rw [this]
      simp [List.getD_eq_getElem?_getD, List.getElem?_eq_getElem hj]
    obtain ⟨v1, w1, hr, h2, h3, _, h5⟩ := run_append_own_at (P := P) W base t ty 5 i0 (.int .u8 0) 1 1 ht hi hz0 hz1 hz2 rfl (by omega) v xs.length (nums .u8 xs) HO.own ad m c (nums .u8 ys) (by simp [nums, hm]) hcells
      (by intro u hu; simp only [nums, List.mem_map] at hu; obtain ⟨q, _, rfl⟩ := hu; rfl) (by simp only [maxLen]; omega) (by omega) hbase
    exact ⟨v1, w1, hr, ⟨by simpa [nums, hm] using h2, hmx, hbyt⟩, h3⟩
/-- append(v, ys...) as one step of a fenced walk. -/
theorem append_own_in {F : Fence} {n : Nat} {P : Program} {ops : Array Oper} {rest : List Oper} {o : Oper} {a : Act} {Q : Exit → Act → World → Prop} {W : World} (base : Nat) (hgd : o.guard = none) (s x : Operand) (t : TypeId)
    (ho : o.op = .call { callee := .builtin .append, args := #[s, x], argTypes := #[t, t] })
    (ht : P.underlying t = some (.slice 5)) (hinfo : (P.info? 5).map (fun i => (i.zero, i.size, i.bytes)) = some (some (.int .u8 0), 1, 1))
    (v : Value) (xs ys : List Int) (A : Option Addr) (m c : Nat) (hs : a.eval s = v) (hx : a.eval x = .slice A m c)
    (HO : OwnB W base v xs) (HR : Bts W A m c ys) (hbase : base ≤ W.heap.size) (hl : xs.length + m ≤ 140737488355328)
    (h : ∀ v1 w1, OwnB w1 base v1 (xs ++ ys) → W.grownBy w1 v.ownBlock → wpListIn F n P ops Q rest (a.put o.dst v1) w1) :
    wpListIn F n P ops Q (o :: rest) a W := by
  refine wpListIn_plain hgd fun K hK' => ?_
  obtain ⟨v1, w1, hr, hown, hgr⟩ := run_append_bts (P := P) base t o.type ht hinfo v xs ys A m c HO HR hbase hl
  unfold Oper.wpIn
  refine ⟨?_, ?_⟩
  · intro f hf
    simp only [Oper.about, ho, resolve, Sem.run_pure, Target.leads] at hf
    cases hf
  · rw [Oper.semAt_plain F _ _ (by rw [ho]; intro c hc'; cases hc')]
    unfold execOp
    simp only [ho, resolve, invoke, builtin, Sem.run_bind, Sem.run_pure, Result.andThen_ok, List.map_toArray, List.map_cons, List.map_nil, hs, hx, hr]
    exact hK' _ _ (h v1 w1 hown hgr)
/-- A contract serves in a fenced walk at the fence that asks nothing. -/
theorem call_in {n m : Nat} {P : Program} {f : FuncId} {args : Array Value} {w : World} {R : Ending → World → Prop} (h : Calls P f args w R) : Fence.wide.fn f ∧ (Fence.wide.depth.isSome = true → 1 ≤ n) ∧ CallsIn Fence.wide m P f args w R :=
  ⟨trivial, fun e => (by cases e), callsIn_wide.2 h⟩
theorem call_in2 {m : Nat} {P : Program} {f : FuncId} {args : Array Value} {w : World} {R : Ending → World → Prop} (h : Calls P f args w R) : Fence.wide.fn f ∧ CallsIn Fence.wide m P f args w R := ⟨trivial, callsIn_wide.2 h⟩
/-- A slice of the call's own, bytes, a box: what abides a turn of a block that holds no cells. -/
theorem OwnB.kept {X Y : World} {base : Nat} {v : Value} {xs : List Int} (h : OwnB X base v xs) {r : Option Nat} (hg : X.grownBy Y r) (hr : ∀ k, r = some k → ∃ o : Obj, X.heap[k]? = some o ∧ o.isCells = false) : OwnB Y base v xs := by
  refine ⟨h.own.kept hg ?_, h.max, h.byt⟩
  rcases h.own.2 with ⟨rfl, _⟩ | ⟨g, cap, cur, rfl, _, hgb, _⟩
  · exact .inl rfl
  · refine .inr fun e' => ?_
    obtain ⟨o, ho, hc⟩ := hr g (by simpa [Value.ownBlock] using e'.symm)
    rw [hgb] at ho; cases ho; cases hc
theorem Bts.kept {X Y : World} {A : Option Addr} {n c : Nat} {xs : List Int} (h : Bts X A n c xs) {r : Option Nat} (hg : X.grownBy Y r) (hr : ∀ k, r = some k → ∃ o : Obj, X.heap[k]? = some o ∧ o.isCells = false) : Bts Y A n c xs :=
  ⟨⟨h.rd.1, h.rd.2.1, fun hp => by
    obtain ⟨ad, e, hc⟩ := h.rd.2.2 hp
    exact ⟨ad, e, fun j hj => cell_kept (hc j hj) hg hr⟩⟩, h.le, h.cap, h.max, h.byt⟩
theorem Boxed.kept_ {X Y : World} {B : Nat} {t : TypeId} {v : Value} (h : Boxed X B t v) {r : Option Nat} (hg : X.grownBy Y r) (hr : ∀ k, r = some k → ∃ o : Obj, X.heap[k]? = some o ∧ o.isCells = false) : Boxed Y B t v :=
  h.kept hg (fun e' => by
    obtain ⟨o, ho, hc⟩ := hr B e'.symm
    rw [show X.heap[B]? = _ from h] at ho; cases ho; cases hc)
theorem OwnB.take_ {w : World} {base : Nat} {A : Option Addr} {n c : Nat} {xs : List Int} (h : OwnB w base (.slice A n c) xs) (m : Nat) (hm : m ≤ n) : OwnB w base (.slice A m c) (xs.take m) := by
  obtain rfl := h.sl.len
  have q := own_take h.own hm
  have e1 : (xs.take m).length = m := by rw [List.length_take]; omega
  refine ⟨?_, by rw [e1]; exact Nat.le_trans hm h.max, byt_take h.byt m⟩
  rw [e1]
  simpa [nums, List.map_take] using q
end Go.Proofs.Ytljdkfgnoalgpaa

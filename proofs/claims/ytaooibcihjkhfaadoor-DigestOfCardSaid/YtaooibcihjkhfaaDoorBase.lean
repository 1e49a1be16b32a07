/- Words that the walks share: a slice of bytes that is read, and what a call leaves alone. Conditions: those that each lemma states. -/
import Derived.Test.YtaooibcihjkhfaaDoorProg
import Derived.Test.YtaooibcihjkhfaaDoorWWords
import Derived.Test.YtaooibcihjkhfaaDoorInet
import Derived.Test.YtaooibcihjkhfaaDoorNum
import Derived.WalkSpells
import Derived.Lib.Hide
import Derived.Deep.QuietTactic
namespace Go.Proofs.YtaooibcihjkhfaaDoor
open Go.RowKit Go.Proofs.YtaooibcihjkhfaaDoorW.PrintWords

theorem below_step2 {w W w2 : World} (h1 : Below w.heap.size w W) (h2 : Below W.heap.size W w2) : Below w.heap.size w w2 := h1.trans (h2.mono h1.size)
/-- A callee that leaves the world alone, in a region that draws its order. -/
theorem quiet_same {P : Program} {f : FuncId} {args : Array Value} {w : World} {n : Nat} {v : Value} (h : Calls P f args (w.drewN n) fun e w' => e = .returned v ∧ w.drewN n = w') :
    Calls P f args (w.drewN n) fun e w'' => e = .returned v ∧ ∃ m, w'' = w.drewN m := h.mono fun _ _ ⟨he, hm⟩ => ⟨he, n, hm.symm⟩
theorem grown_set (W : World) (p : Addr) (v : Value) : W.grownBy (W.setCell p v) (some p.block) :=
  ⟨rfl, rfl, rfl, by simp [World.setCell], fun i _ hne => Below.heap_setCell W p v i (fun e => hne (by rw [e]))⟩
theorem grown_drewN (W : World) (n : Nat) (row : Option Nat) : W.grownBy (W.drewN n) row := ⟨rfl, rfl, rfl, Nat.le_refl _, fun _ _ _ => rfl⟩
/-- The greater, the lesser of two numbers, as one word. -/
def mxx (x y : Int) : Int := if x < y then y else x
def mnn (x y : Int) : Int := if y < x then y else x
theorem max_word (ats : Array TypeId) (ty : TypeId) (k k' : IntKind) (x y : Int) : Builtin.max_ ats ty #[.int k x, .int k' y] = pure (.int k (mxx x y)) := by
  simp only [Builtin.max_, List.foldlM_cons, List.foldlM_nil, Builtin.max2, gt_iff_lt]
  rfl
theorem min_word (ats : Array TypeId) (ty : TypeId) (k k' : IntKind) (x y : Int) : Builtin.min_ ats ty #[.int k x, .int k' y] = pure (.int k (mnn x y)) := by
  simp only [Builtin.min_, List.foldlM_cons, List.foldlM_nil, Builtin.min2]
  rfl
/-- A slice value whose elements, up to its length, are these bytes. -/
structure Bts (w : World) (A : Option Addr) (n c : Nat) (xs : List Int) : Prop where
  rd : ReadsInt w .u8 A n xs
  le : n ≤ c
  cap : c ≤ 9223372036854775807
  max : n ≤ 140737488355328
  byt : Byt xs
section
variable {w w1 : World} {A : Option Addr} {n c : Nat} {xs : List Int}
theorem Bts.len (h : Bts w A n c xs) : xs.length = n := h.rd.1
theorem Bts.below (h : Bts w A n c xs) (hb : Below w.heap.size w w1) : Bts w1 A n c xs := ⟨h.rd.below hb, h.le, h.cap, h.max, h.byt⟩
theorem Bts.alloc (h : Bts w A n c xs) (o : Obj) : Bts (w.alloc o) A n c xs := h.below (below_alloc (Below.refl _ _) o)
theorem Bts.drew (h : Bts w A n c xs) : Bts w.drew A n c xs := h.below (below_drew (Below.refl _ _))
theorem Bts.drewN (h : Bts w A n c xs) (k : Nat) : Bts (w.drewN k) A n c xs := h.below (pw_below_drewN (Below.refl _ _) k)
theorem Bts.at_ (h : Bts w A n c xs) (i : Nat) (hi : i < n) : ∃ ad, A = some ad ∧ w.cell? (ad.add i) = some (.int .u8 (xs.getD i 0)) := by
  obtain ⟨ad, e, hc⟩ := h.rd.2.2 (by omega)
  exact ⟨ad, e, hc i hi⟩
theorem Bts.some_ (h : Bts w A n c xs) (hi : 0 < n) : ∃ ad, A = some ad ∧ ∀ j, j < n → w.cell? (ad.add j) = some (.int .u8 (xs.getD j 0)) := h.rd.2.2 hi
/-- The cells at indices that are written out, as the walk writes them. -/
theorem Bts.lit (h : Bts w A n c xs) (hi : 0 < n) : ∃ ad, A = some ad ∧ w.cell? ad = some (.int .u8 (xs.getD 0 0)) ∧ ∀ k, 0 < k → k < n → w.cell? ⟨ad.block, ad.off + k, none⟩ = some (.int .u8 (xs.getD k 0)) := by
  obtain ⟨ad, e, hc⟩ := h.some_ hi
  refine ⟨ad, e, by have := hc 0 hi; rwa [Addr.add_zero'] at this, fun k h0 h1 => ?_⟩
  have := hc k h1
  unfold Addr.add at this
  rwa [if_neg (by omega)] at this
theorem Bts.take (h : Bts w A n c xs) (i : Nat) (hi : i ≤ n) : Bts w A i c (xs.take i) := ⟨h.rd.take_ i hi, Nat.le_trans hi h.le, h.cap, Nat.le_trans hi h.max, byt_take h.byt i⟩
theorem Bts.cut (h : Bts w A n c xs) {A' : Option Addr} (m : Nat) (hm : m ≤ n) (hr : ∀ (w : World) (k : IntKind) (xs : List Int), n ≤ c → ReadsInt w k A n xs → ReadsInt w k A' (n - m) (xs.drop m)) : Bts w A' (n - m) (c - m) (xs.drop m) :=
  ⟨hr w .u8 xs h.le h.rd, by have := h.le; omega, by have := h.cap; omega, by have := h.max; omega, byt_drop h.byt m⟩
theorem Bts.drop_lit (h : Bts w A n c xs) (k : Nat) (h0 : 0 < k) (hk : k ≤ n) : Bts w (if c = k then A else Option.map (fun x => { block := x.block, off := x.off + k }) A) (n - k) (c - k) (xs.drop k) := by
  have := h.cut k hk (A' := if c = k then A else A.map (·.add k)) (fun w kd xs hc hr => hr.drop_ k hk hc)
  have e : (fun x : Addr => x.add k) = fun x => { block := x.block, off := x.off + k } := by
    funext x; unfold Addr.add; rw [if_neg (by omega)]
  rwa [e] at this
theorem Bts.nil_ (A : Option Addr) (c : Nat) (w : World) (hc : c ≤ 9223372036854775807) : Bts w A 0 c [] := ⟨⟨rfl, by omega, fun h => absurd h (Nat.lt_irrefl 0)⟩, Nat.zero_le _, hc, Nat.zero_le _, byt_nil⟩
end
/-- A slice value of the call's own (its row lies in memory from block base on) that holds these bytes. -/
structure OwnB (w : World) (base : Nat) (v : Value) (xs : List Int) : Prop where
  own : w.ownsRow base 5 1 v xs.length (nums .u8 xs)
  max : xs.length ≤ 140737488355328
  byt : Byt xs
section
variable {w w1 : World} {base : Nat} {v : Value} {xs : List Int}
theorem OwnB.nil_ (w : World) (base : Nat) : OwnB w base (.slice none 0 0) [] := ⟨own_nil _ _ _ _, by simp, byt_nil⟩
theorem OwnB.bts (h : OwnB w base v xs) : ∃ A n c, v = .slice A n c ∧ Bts w A n c xs := by
  obtain ⟨A, c, e, hr⟩ := own_reads h.own
  subst e
  refine ⟨A, xs.length, c, rfl, hr, own_le h.own, ?_, h.max, h.byt⟩
  rcases h.own.2 with ⟨e, _⟩ | ⟨g, cap, cur, e, _, _, _, hc, _⟩
  · injection e with _ _ e3; subst e3; omega
  · injection e with _ _ e3; subst e3
    exact hc
theorem OwnB.below (h : OwnB w base v xs) (hb : Below w.heap.size w w1) : OwnB w1 base v xs := ⟨pw_own_below h.own hb, h.max, h.byt⟩
theorem OwnB.alloc (h : OwnB w base v xs) (o : Obj) : OwnB (w.alloc o) base v xs := h.below (below_alloc (Below.refl _ _) o)
theorem OwnB.drew (h : OwnB w base v xs) : OwnB w.drew base v xs := h.below (below_drew (Below.refl _ _))
theorem OwnB.lower {base' : Nat} (h : OwnB w base v xs) (hb : base' ≤ base) : OwnB w base' v xs := ⟨own_weaken h.own hb, h.max, h.byt⟩
end
theorem OwnB.form {w : World} {base : Nat} {v : Value} {xs : List Int} (h : OwnB w base v xs) (hp : 0 < xs.length) : ∃ g cap, v = .slice (some ⟨g, 0, none⟩) xs.length cap ∧ base ≤ g ∧ g < w.heap.size := by
  rcases h.own.2 with ⟨_, h0⟩ | ⟨g, cap, cur, e, hb, hg, _⟩
  · omega
  · exact ⟨g, cap, e, hb, (Array.getElem?_eq_some_iff.1 hg).1⟩
/-- A slice of the call's own that holds something: block g, from its head on. -/
structure Row8 (w : World) (base g n c : Nat) (xs : List Int) : Prop where
  own : w.ownsRow base 5 1 (.slice (some ⟨g, 0, none⟩) n c) n (nums .u8 xs)
  max : n ≤ 140737488355328
  byt : Byt xs
theorem OwnB.row {w : World} {base : Nat} {v : Value} {xs : List Int} (h : OwnB w base v xs) (hp : 0 < xs.length) : ∃ g n c, v = .slice (some ⟨g, 0, none⟩) n c ∧ Row8 w base g n c xs := by
  obtain ⟨g, c, e, _, _⟩ := h.form hp
  subst e
  exact ⟨g, xs.length, c, rfl, h.own, h.max, h.byt⟩
section
variable {w w1 : World} {base g n c : Nat} {xs : List Int}
theorem Row8.len (h : Row8 w base g n c xs) : xs.length = n := by have := h.own.1; simpa [nums] using this
theorem Row8.ownB (h : Row8 w base g n c xs) : OwnB w base (.slice (some ⟨g, 0, none⟩) n c) xs := by
  have hl := h.len
  subst hl
  exact ⟨h.own, h.max, h.byt⟩
theorem Row8.bts (h : Row8 w base g n c xs) : Bts w (some ⟨g, 0, none⟩) n c xs := by
  obtain ⟨A, m, c', e, hb⟩ := h.ownB.bts
  injection e with e1 e2 e3
  subst e1 e2 e3
  exact hb
theorem Row8.below (h : Row8 w base g n c xs) (hb : Below w.heap.size w w1) : Row8 w1 base g n c xs := ⟨pw_own_below h.own hb, h.max, h.byt⟩
theorem Row8.base_ (h : Row8 w base g n c xs) : base ≤ g := own_base h.own g rfl
theorem Row8.lt (h : Row8 w base g n c xs) : g < w.heap.size := own_lt h.own g rfl
theorem Row8.cell (h : Row8 w base g n c xs) (i : Nat) (hi : i < n) : w.cell? ⟨g, i, none⟩ = some (.int .u8 (xs.getD i 0)) := by
  have := (own_at h.own (i : Int) (by omega) (by omega)).1
  simpa [Go.Proofs.YtaooibcihjkhfaaDoorW.PrintWords.rd] using this
theorem Row8.free (h : Row8 w base g n c xs) (i : Nat) (hi : i < n) : w.frozen? ⟨g, i, none⟩ = false := (own_at h.own (i : Int) (by omega) (by omega)).2
theorem Row8.set (h : Row8 w base g n c xs) (i : Nat) (v : Int) (hv : 0 ≤ v ∧ v ≤ 255) : Row8 (w.setCell ⟨g, i, none⟩ (.int .u8 v)) base g n c (xs.set i v) :=
  ⟨(own_store h.own (i : Int) v).1, h.max, byt_set h.byt i v hv⟩
theorem below_set {w W : World} {base : Nat} (h : Below base w W) {p : Addr} (hp : base ≤ p.block) (v : Value) : Below base w (W.setCell p v) := h.setCell hp v
end
theorem byt_bytesOf (s : ByteArray) : Byt (bytesOf s) := by
  intro x hx
  simp only [bytesOf, List.mem_map] at hx
  obtain ⟨b, _, rfl⟩ := hx
  have := b.toNat_lt
  omega
/-- The bytes of a string, in new memory. -/
theorem Bts.of_string (w : World) (g : Nat) (e : TypeId) (s : ByteArray) (hg : w.heap.size = g) (hs : s.size ≤ 140737488351232) : Bts (Lib.bytesWorld w e s) (some ⟨g, 0, none⟩) s.size (grownCap w s.size 0 e) (bytesOf s) := by
  subst hg
  exact ⟨bytes_reads w e s (by omega), grownCap_ge _ _ _ _, by have := grownCap_le_maxLen w s.size 0 e (by unfold maxLen; omega); unfold maxLen at this; exact this, by omega, byt_bytesOf s⟩
theorem Bts.of_string_len (w : World) (g m : Nat) (e : TypeId) (s : ByteArray) (hg : w.heap.size = g) (hm : s.size = m) (hs : m ≤ 140737488355328) : Bts (Lib.bytesWorld w e s) (some ⟨g, 0, none⟩) m (grownCap w m 0 e) (bytesOf s) := by
  subst hg hm
  exact ⟨bytes_reads w e s (by omega), grownCap_ge _ _ _ _, by have := grownCap_le_maxLen w s.size 0 e (by unfold maxLen; omega); unfold maxLen at this; exact this, by omega, byt_bytesOf s⟩
theorem below_string {w W : World} (h : Below w.heap.size w W) (e : TypeId) (s : ByteArray) : Below w.heap.size w (Lib.bytesWorld W e s) := bytes_below h h.size e s
theorem bytesOf_append (s d : ByteArray) : bytesOf (s ++ d) = bytesOf s ++ bytesOf d := by
  simp [bytesOf, ByteArray.data_append]
theorem Bts.drop_some {w : World} {ad : Addr} {n c : Nat} {xs : List Int} (h : Bts w (some ad) n c xs) (k : Nat) (hk : k ≤ n) (hc : ¬ c = k) : Bts w (some (ad.add k)) (n - k) (c - k) (xs.drop k) := by
  have := h.cut k hk (A' := if c = k then some ad else (some ad).map (·.add k)) (fun w kd xs hc hr => hr.drop_ k hk hc)
  rwa [if_neg hc] at this
/-- Another row has grown. -/
theorem Bts.grown {w w1 : World} {A : Option Addr} {n c : Nat} {xs : List Int} (h : Bts w A n c xs) {row : Option Nat} (hg : w.grownBy w1 row) (hne : ∀ ad, A = some ad → some ad.block ≠ row) : Bts w1 A n c xs :=
  ⟨⟨h.rd.1, h.rd.2.1, fun hp => by
    obtain ⟨ad, e, hc⟩ := h.rd.2.2 hp
    refine ⟨ad, e, fun j hj => ?_⟩
    have hb : (ad.add j).block = ad.block := by
      unfold Addr.add
      split <;> rfl
    have hcj := hc j hj
    have hlt := World.block_lt_of_cell? w _ hcj
    rw [← hcj]
    unfold World.cell?
    rw [hg.block _ hlt (by rw [hb]; exact hne ad e)]⟩, h.le, h.cap, h.max, h.byt⟩
/-- A store into another block. -/
theorem Bts.far {w : World} {A : Option Addr} {n c : Nat} {xs : List Int} (h : Bts w A n c xs) {p : Addr} (hne : ∀ ad, A = some ad → ad.block ≠ p.block) (v : Value) : Bts (w.setCell p v) A n c xs :=
  ⟨⟨h.rd.1, h.rd.2.1, fun hp => by
    obtain ⟨ad, e, hc⟩ := h.rd.2.2 hp
    refine ⟨ad, e, fun j hj => ?_⟩
    have hb : (ad.add j).block ≠ p.block := by
      have := hne ad e
      unfold Addr.add
      split
      · exact this
      · exact this
    rw [← hc j hj]
    unfold World.cell?
    rw [Below.heap_setCell w p v _ hb]⟩, h.le, h.cap, h.max, h.byt⟩
/-- A literal slice of bytes. -/
theorem Bts.lit_new (w : World) (e : TypeId) (xs : List Int) (hb : Byt xs) (hm : xs.length ≤ 140737488355328) : Bts (w.alloc (.cells (nums .u8 xs).toArray e)) (some ⟨w.heap.size, 0, none⟩) xs.length xs.length xs := by
  refine ⟨⟨rfl, by omega, fun _ => ⟨_, rfl, fun j hj => ?_⟩⟩, Nat.le_refl _, by omega, hm, hb⟩
  rw [add_plain]
  refine (cell_of_row _ _ _ _ e (0, 0) (heap_alloc_new w _)).trans ?_
  simp [nums, hj, List.getD_eq_getElem?_getD]
theorem Bts.lit_at (w : World) (g : Nat) (e : TypeId) (xs : List Int) (hg : w.heap.size = g) (hb : Byt xs) (hm : xs.length ≤ 140737488355328) : Bts (w.alloc (.cells (nums .u8 xs).toArray e)) (some ⟨g, 0, none⟩) xs.length xs.length xs := by
  subst hg; exact Bts.lit_new w e xs hb hm
theorem OwnB.lit_at (w : World) (g : Nat) (base : Nat) (xs : List Int) (hg : w.heap.size = g) (hbase : base ≤ g) (hb : Byt xs) (hm : xs.length ≤ 140737488355328) : OwnB (w.alloc (.cells (nums .u8 xs).toArray 5)) base (.slice (some ⟨g, 0, none⟩) xs.length xs.length) xs := by
  subst hg
  exact ⟨own_lit w base 5 .u8 xs hbase (by omega), hm, hb⟩
/-- append(v, ys...): v of the call's own. -/
theorem append_own {P : Program} {ops : Array Oper} {rest : List Oper} {o : Oper} {a : Act} {Q : Exit → Act → World → Prop} {w0 W : World} (base : Nat) (hgd : o.guard = none) (s x : Operand) (t : TypeId)
    (ho : o.op = .call { callee := .builtin .append, args := #[s, x], argTypes := #[t, t] })
    (ht : P.underlying t = some (.slice 5)) (hinfo : (P.info? 5).map (fun i => (i.zero, i.size, i.bytes)) = some (some (.int .u8 0), 1, 1))
    (v : Value) (xs ys : List Int) (A : Option Addr) (m c : Nat) (hs : a.eval s = v) (hx : a.eval x = .slice A m c)
    (HO : OwnB W base v xs) (HR : Bts W A m c ys) (HB : Below base w0 W) (hbase : base ≤ W.heap.size) (hl : xs.length + m ≤ 140737488355328)
    (h : ∀ v1 w1, OwnB w1 base v1 (xs ++ ys) → Below base w0 w1 → W.grownBy w1 v.ownBlock → wpList P ops Q rest (a.put o.dst v1) w1) :
    wpList P ops Q (o :: rest) a W :=
  print_append_row base hgd s x t 5 .u8 1 ho ht hinfo (by decide) v xs ys A m c hs hx HO.own HR.rd HB hbase (by omega) (fun v1 w1 h1 h2 h3 _ => h v1 w1 ⟨h1, by rw [List.length_append, HR.len]; exact hl, byt_append.2 ⟨HO.byt, HR.byt⟩⟩ h2 h3)
/-- append(v, ys...) as one step of a region that draws its order: v of the call's own. -/
theorem step_append_own {P : Program} {ops : Array Oper} {o : Oper} {a : Act} {K : Act → World → Prop} {Q : Exit → Act → World → Prop} {E : Prop} {w0 W : World} (base : Nat) (hg : o.guard = none) (s x : Operand) (t : TypeId)
    (ho : o.op = .call { callee := .builtin .append, args := #[s, x], argTypes := #[t, t] })
    (ht : P.underlying t = some (.slice 5)) (hinfo : (P.info? 5).map (fun i => (i.zero, i.size, i.bytes)) = some (some (.int .u8 0), 1, 1))
    (v : Value) (xs ys : List Int) (A : Option Addr) (m c : Nat) (hs : a.eval s = v) (hx : a.eval x = .slice A m c)
    (HO : OwnB W base v xs) (HR : Bts W A m c ys) (HB : Below base w0 W) (hbase : base ≤ W.heap.size) (hl : xs.length + m ≤ 140737488355328)
    (h : ∀ v1 w1, OwnB w1 base v1 (xs ++ ys) → Below base w0 w1 → W.grownBy w1 v.ownBlock → K (a.put o.dst v1) w1) :
    if Region.wanted o (yielded ops a.tmps) = true then Oper.wp P o a W K Q else E := by
  have hw : Region.wanted o (yielded ops a.tmps) = true := by simp [Region.wanted, hg]
  rw [if_pos hw]
  obtain ⟨i0, hi, hzz⟩ := Option.map_eq_some_iff.1 hinfo
  simp only [Prod.mk.injEq] at hzz
  obtain ⟨hz0, hz1, hz2⟩ := hzz
  have hm : ys.length = m := HR.len
  have hrun : ∃ v1 w1, (Builtin.append_ #[t, t] o.type #[v, .slice A m c]).run P W = .ok v1 w1 ∧ w1.ownsRow base 5 1 v1 (xs ++ ys).length (nums .u8 (xs ++ ys)) ∧ W.grownBy w1 v.ownBlock := by
    rcases A with _ | ad
    · have h0 : m = 0 := by
        rcases Nat.eq_zero_or_pos m with h0 | h0
        · exact h0
        · obtain ⟨ad, h, _⟩ := HR.rd.2.2 h0
          cases h
      subst h0
      obtain rfl : ys = [] := List.eq_nil_of_length_eq_zero hm
      refine ⟨v, W, ?_, by simpa using HO.own, World.grownBy.refl W _⟩
      rcases HO.own.2 with ⟨rfl, hn⟩ | ⟨g, cap, cur, rfl, _, _, hnc, _⟩
      · simp [Builtin.append_, run_underlying ht, sizeOf, typeInfo, hi, Builtin.lenOf, Builtin.firstCells]
      · simp [Builtin.append_, run_underlying ht, sizeOf, typeInfo, hi, Builtin.lenOf, Builtin.firstCells, hnc, storeCells]
    · have hcells : ∀ j u, (nums .u8 ys)[j]? = some u → W.cell? (ad.add j) = some u := by
        intro j u hu
        have hj : j < ys.length := by
          rcases Nat.lt_or_ge j ys.length with h | h
          · exact h
          · simp [nums, List.getElem?_eq_none h] at hu
        obtain ⟨ad', h', hc⟩ := HR.rd.2.2 (by omega)
        injection h' with h'
        subst h'
        have := hc j (by omega)
        simp [nums, List.getElem?_eq_getElem hj] at hu
        subst hu
        rw [this]
        simp [List.getD_eq_getElem?_getD, List.getElem?_eq_getElem hj]
      obtain ⟨v1, w1, hr, h2, h3, _, h5⟩ := run_append_own_at (P := P) W base t o.type 5 i0 (.int .u8 0) 1 1 ht hi hz0 hz1 hz2 rfl (by omega) v xs.length (nums .u8 xs) HO.own ad m c (nums .u8 ys) (by simp [nums, hm]) hcells
        (by intro u hu; simp only [nums, List.mem_map] at hu; obtain ⟨q, _, rfl⟩ := hu; rfl) (by simp only [maxLen]; omega) (by omega) hbase
      exact ⟨v1, w1, hr, by simpa [nums, hm] using h2, h3⟩
  obtain ⟨v1, w1, hr, hown, hgr⟩ := hrun
  unfold Oper.wp execOp
  simp only [ho, resolve, invoke, builtin, Sem.run_bind, Sem.run_pure, Result.andThen_ok, List.map_toArray, List.map_cons, List.map_nil, hs, hx, hr]
  exact h v1 w1 ⟨hown, by rw [List.length_append, hm]; exact hl, byt_append.2 ⟨HO.byt, HR.byt⟩⟩ (HB.grown hgr hbase (own_base HO.own)) hgr
/-- A slice of slices of bytes that is read. -/
structure Rws (w : World) (A : Option Addr) (n c : Nat) (ls : List (List Int)) : Prop where
  len : ls.length = n
  le : n ≤ c
  max : n ≤ 140737488355328
  at_ : ∀ i, i < n → ∃ ad Ai ni ci, A = some ad ∧ w.cell? (ad.add i) = some (.slice Ai ni ci) ∧ Bts w Ai ni ci (ls.getD i [])
theorem Rws.below {w w1 : World} {A : Option Addr} {n c : Nat} {ls : List (List Int)} (h : Rws w A n c ls) (hb : Below w.heap.size w w1) : Rws w1 A n c ls :=
  ⟨h.len, h.le, h.max, fun i hi => by
    obtain ⟨ad, Ai, ni, ci, e, hc, hr⟩ := h.at_ i hi
    exact ⟨ad, Ai, ni, ci, e, pw_cell_below hb hc, hr.below hb⟩⟩
/-- A literal slice of rows. -/
theorem Rws.lit (w : World) (g : Nat) (e : TypeId) (l : List (Value × List Int)) (hg : w.heap.size = g) (hl : l.length ≤ 1000) (h : ∀ p ∈ l, ∃ A n c, p.1 = .slice A n c ∧ Bts w A n c p.2) :
    Rws (w.alloc (.cells (l.map (·.1)).toArray e)) (some ⟨g, 0, none⟩) l.length l.length (l.map (·.2)) :=
  ⟨by simp, Nat.le_refl _, by omega, fun i hi => by
    subst hg
    obtain ⟨A, n, c, e1, hb⟩ := h l[i] (List.getElem_mem hi)
    refine ⟨_, A, n, c, rfl, ?_, ?_⟩
    · rw [add_plain]
      refine (cell_of_row _ _ _ _ e (0, 0) (heap_alloc_new w _)).trans ?_
      simp [hi, e1]
    · have : (l.map (·.2)).getD i [] = l[i].2 := by simp [List.getD_eq_getElem?_getD, hi]
      rw [this]
      exact hb.alloc _⟩
/-- A literal slice of one row. -/
theorem Rws.one (w : World) (g : Nat) (e : TypeId) {A : Option Addr} {n c : Nat} {xs : List Int} (hg : w.heap.size = g) (h : Bts w A n c xs) : Rws (w.alloc (.cells #[.slice A n c] e)) (some ⟨g, 0, none⟩) 1 1 [xs] :=
  ⟨rfl, by omega, by omega, fun i hi => by
    obtain rfl : i = 0 := by omega
    subst hg
    exact ⟨_, A, n, c, rfl, (cell_of_row _ _ _ _ e (0, 0) (heap_alloc_new w _)).trans rfl, h.alloc _⟩⟩
theorem Bts.run_string {P : Program} {w : World} {A : Option Addr} {n c : Nat} {xs : List Int} (h : Bts w A n c xs) (src dst : TypeId) {e : TypeId} (hs : P.underlying src = some (.slice e)) (he : P.underlying e = some (.int .u8)) (hd : P.underlying dst = some .string) :
    (convert src dst (.slice A n c)).run P w = .ok (.string (strOfNums xs)) w := string_of_reads hs he hd h.rd
theorem ret_int {k : IntKind} {a b : Int} (h : a = b) : Ending.returned (.int k a) = .returned (.int k b) := by rw [h]
theorem ret_bool {a b : Bool} (h : a = b) : Ending.returned (.bool a) = .returned (.bool b) := by rw [h]
theorem val_int {k : IntKind} {a b : Int} (h : a = b) : Value.int k a = .int k b := by rw [h]
theorem cell_add {w : World} {ad : Addr} {k : Nat} {v : Option Value} (h : w.cell? (ad.add k) = v) (hk : 0 < k) : w.cell? { block := ad.block, off := ad.off + k } = v := by
  unfold Addr.add at h
  rwa [if_neg (by omega)] at h
/-- The length of a slice value. -/
def slen : Value → Nat
  | .slice _ n _ => n
  | _ => 0
theorem slen_slice (A : Option Addr) (n c : Nat) : slen (.slice A n c) = n := rfl
end Go.Proofs.YtaooibcihjkhfaaDoor

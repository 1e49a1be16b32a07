/- A slice of the call's own that is cut in front and appended to. Conditions: those that each lemma states. -/
import Derived.Test.YtaooibcihjkhfaaDoorStr
import Derived.Deep.AppendSrc
import Derived.Deep.Upon
namespace Go.Proofs.YtaooibcihjkhfaaDoor
open Go.RowKit Go.Proofs.YtaooibcihjkhfaaDoorW.PrintWords

theorem below_setCells {W : World} {base b : Nat} (hb : base ≤ b) : ∀ (vs : List Value) (o : Nat) (w : World), Below base W w → Below base W (w.setCells b o vs)
  | [], _, _, h => h
  | v :: r, o, _, h => below_setCells hb r (o + 1) _ (below_set h (p := (⟨b, o, none⟩ : Addr)) hb v)
theorem setCells_size (b : Nat) : ∀ (vs : List Value) (o : Nat) (w : World), (w.setCells b o vs).heap.size = w.heap.size
  | [], _, _ => rfl
  | v :: r, o, w => by rw [World.setCells, setCells_size b r]; simp [World.setCell]
/-- A slice that may stand in the middle of a block of its own. -/
structure Rst (w : World) (base : Nat) (A : Option Addr) (n c : Nat) (xs : List Int) : Prop where
  len : xs.length = n
  le : n ≤ c
  cap : c ≤ maxLen
  max : n ≤ 140737488355328
  byt : Byt xs
  none_ : A = none → c = 0
  some_ : ∀ ad, A = some ad → ad.spot = none ∧ (0 < c → base ≤ ad.block ∧ ad.block < w.heap.size) ∧ (∀ j, j < c → (w.cell? ⟨ad.block, ad.off + j, none⟩).isSome = true ∧ w.frozen? ⟨ad.block, ad.off + j, none⟩ = false) ∧ ∀ j, j < n → w.cell? ⟨ad.block, ad.off + j, none⟩ = some (.int .u8 (xs.getD j 0))
section
variable {w w1 : World} {base : Nat} {A : Option Addr} {n c : Nat} {xs : List Int}
theorem Rst.nil (w : World) (base : Nat) : Rst w base none 0 0 [] := ⟨rfl, Nat.le_refl _, by simp [maxLen], by omega, byt_nil, fun _ => rfl, fun _ h => by cases h⟩
theorem Rst.keep (h : Rst w base A n c xs) (hb : ∀ k, base ≤ k → k < w.heap.size → w1.heap[k]? = w.heap[k]?) (hs : w.heap.size ≤ w1.heap.size) : Rst w1 base A n c xs :=
  ⟨h.len, h.le, h.cap, h.max, h.byt, h.none_, fun ad e => by
    obtain ⟨e1, h1, h2, h3⟩ := h.some_ ad e
    by_cases hc : 0 < c
    · have hk := hb ad.block (h1 hc).1 (h1 hc).2
      refine ⟨e1, fun q => ⟨(h1 q).1, Nat.lt_of_lt_of_le (h1 q).2 hs⟩, fun j hj => ⟨?_, ?_⟩, fun j hj => ?_⟩
      · rw [World.cell?_of_block (a := ⟨ad.block, ad.off + j, none⟩) hk]; exact (h2 j hj).1
      · rw [World.frozen?_of_block (a := ⟨ad.block, ad.off + j, none⟩) hk]; exact (h2 j hj).2
      · rw [World.cell?_of_block (a := ⟨ad.block, ad.off + j, none⟩) hk]; exact h3 j hj
    · have := h.le
      exact ⟨e1, fun q => absurd q hc, fun j hj => by omega, fun j hj => by omega⟩⟩
theorem Rst.below (h : Rst w base A n c xs) (hb : Below w.heap.size w w1) : Rst w1 base A n c xs := h.keep (fun k _ hk => hb.block k hk) hb.size
theorem Rst.far (h : Rst w base A n c xs) {p : Addr} (hp : p.block < base) (v : Value) : Rst (w.setCell p v) base A n c xs :=
  h.keep (fun k hk _ => Below.heap_setCell w p v k (by omega)) (by simp [World.setCell])
theorem Rst.farRow (h : Rst w base A n c xs) {g : Nat} (hp : g < base) (cs : Array Value) : Rst (w.setRow g cs) base A n c xs :=
  h.keep (fun k hk _ => by simp only [World.setRow, Array.getElem?_modify]; rw [if_neg (by omega)]) (by simp [World.setRow])
theorem Rst.reads (h : Rst w base A n c xs) : ReadsInt w .u8 A n xs :=
  ⟨h.len, by have := h.max; omega, fun hp => by
    have h1 := h.le
    cases A with
    | none => have := h.none_ rfl; omega
    | some ad =>
      obtain ⟨e1, _, _, h3⟩ := h.some_ ad rfl
      refine ⟨ad, rfl, fun j hj => ?_⟩
      rw [← h3 j hj]
      obtain ⟨b, o, s⟩ := ad
      have e1 : s = none := e1
      subst e1
      rw [Addr.add_mid]⟩
theorem Rst.bts (h : Rst w base A n c xs) : Bts w A n c xs := ⟨h.reads, h.le, by have := h.cap; unfold maxLen at this; omega, h.max, h.byt⟩
/-- Cut in front. -/
theorem Rst.drop (h : Rst w base A n c xs) (k : Nat) (hk : k ≤ n) : Rst w base (if c = k then A else Option.map (fun x => { block := x.block, off := x.off + k }) A) (n - k) (c - k) (xs.drop k) := by
  have hl := h.le
  refine ⟨by rw [List.length_drop, h.len], by omega, by have := h.cap; omega, by have := h.max; omega, byt_drop h.byt k, fun e => ?_, fun ad e => ?_⟩
  · split at e
    · omega
    · cases A with
      | none => have := h.none_ rfl; omega
      | some x => cases e
  · split at e
    next hc =>
      obtain ⟨e1, h1, h2, h3⟩ := h.some_ ad e
      exact ⟨e1, fun q => by omega, fun j hj => by omega, fun j hj => by omega⟩
    next hc =>
      cases A with
      | none => cases e
      | some x =>
        injection e with e
        obtain ⟨e1, h1, h2, h3⟩ := h.some_ x rfl
        subst e
        refine ⟨rfl, fun q => h1 (by omega), fun j hj => ?_, fun j hj => ?_⟩
        · rw [show x.off + k + j = x.off + (k + j) by omega]; exact h2 (k + j) (by omega)
        · rw [show x.off + k + j = x.off + (k + j) by omega, h3 (k + j) (by omega)]
          simp [List.getD_eq_getElem?_getD]
/-- A store into it. -/
theorem Rst.set {b o : Nat} (h : Rst w base (some ⟨b, o, none⟩) n c xs) (i : Nat) (hi : i < n) (v : Int) (hv : 0 ≤ v ∧ v ≤ 255) : Rst (w.setCell ⟨b, o + i, none⟩ (.int .u8 v)) base (some ⟨b, o, none⟩) n c (xs.set i v) := by
  refine ⟨by rw [List.length_set, h.len], h.le, h.cap, h.max, byt_set h.byt i v hv, fun e => (by cases e), fun ad e => ?_⟩
  injection e with e
  subst e
  obtain ⟨_, h1, h2, h3⟩ := h.some_ _ rfl
  refine ⟨rfl, fun q => ⟨(h1 q).1, by have := (h1 q).2; simpa [World.setCell] using this⟩, fun j hj => ⟨?_, ?_⟩, fun j hj => ?_⟩
  · exact World.isSome_setCells b [.int .u8 v] (o + i) w ⟨b, o + j, none⟩ (h2 j hj).1
  · exact (World.frozen?_setCells b [.int .u8 v] (o + i) w ⟨b, o + j, none⟩).trans (h2 j hj).2
  · by_cases e : j = i
    · subst e
      have q := World.cell?_setCells_in b [.int .u8 v] (o + j) w (fun k hk => by
        have hk0 : k = 0 := by simpa using hk
        subst hk0
        exact (h2 j (by have := h.le; omega)).1) 0 (by simp)
      have hjx : j < xs.length := by rw [h.len]; exact hj
      simp only [Nat.add_zero] at q
      refine Eq.trans q ?_
      simp [List.getD_eq_getElem?_getD, hjx]
    · have q := World.cell?_setCells_out b [.int .u8 v] (o + i) w ⟨b, o + j, none⟩ (fun _ _ => by show o + j < o + i ∨ o + i + 1 ≤ o + j; omega)
      refine Eq.trans q ((h3 j hj).trans ?_)
      simp [List.getD_eq_getElem?_getD, List.getElem?_set_ne (Ne.symm e)]
/-- A slice that was just made. -/
theorem Rst.cells (w : World) (base g : Nat) (hg : w.heap.size = g) (hb : base ≤ g) (l : List Int) (n c : Nat) (hl : l.length = c) (hby : Byt l) (hn : n ≤ c) (hc : c ≤ 100000) : Rst (w.alloc (.cells (nums .u8 l).toArray 5)) base (some ⟨g, 0, none⟩) n c (l.take n) := by
  subst hg
  have hcell : ∀ j, (w.alloc (.cells (nums .u8 l).toArray 5)).cell? ⟨w.heap.size, 0 + j, none⟩ = (nums .u8 l).toArray[j]? := fun j => by rw [Nat.zero_add]; exact World.cell?_alloc_new w _ _ j
  refine ⟨by rw [List.length_take]; omega, hn, by simp only [maxLen]; omega, by omega, byt_take hby n, fun e => (by cases e), fun ad e => ?_⟩
  injection e with e
  subst e
  refine ⟨rfl, fun _ => ⟨hb, by show w.heap.size < _; rw [World.size_alloc]; exact Nat.lt_succ_self _⟩, fun j hj => ⟨?_, World.frozen?_alloc_new w _ _ _⟩, fun j hj => ?_⟩
  · rw [hcell j]; simp [nums, hl, hj]
  · have hj' : j < l.length := by omega
    rw [hcell j]; simp [nums, List.getD_eq_getElem?_getD, hj, List.getElem?_eq_getElem hj']
/-- append(rest, b...): a slice of the call's own again. -/
theorem rst_append {P : Program} {W : World} {t ty : TypeId} (ht : P.underlying t = some (.slice 5)) (hinfo : (P.info? 5).map (fun i => (i.zero, i.size, i.bytes)) = some (some (.int .u8 0), 1, 1))
    {B : Option Addr} {m d : Nat} {ys : List Int} (HR : Rst W base A n c xs) (HB : Bts W B m d ys) (hbase : base ≤ W.heap.size) (hl : n + m ≤ 140737488355328) :
    ∃ A' c' W', (Builtin.append_ #[t, t] ty #[.slice A n c, .slice B m d]).run P W = .ok (.slice A' (n + m) c') W' ∧ Rst W' base A' (n + m) c' (xs ++ ys) ∧ Below base W W' := by
  obtain ⟨i0, hi, hzz⟩ := Option.map_eq_some_iff.1 hinfo
  simp only [Prod.mk.injEq] at hzz
  obtain ⟨hz0, hz1, hz2⟩ := hzz
  have hxl := HR.len
  have hyl := HB.len
  have hle := HR.le
  have hsrc : Src P i0.size t (.slice B m d) m (nums .u8 ys) W := by
    have hn : (nums .u8 ys).length = m * i0.size := by rw [hz1]; simp [nums, hyl]
    cases B with
    | none =>
      have h0 : m = 0 := by
        rcases Nat.eq_zero_or_pos m with h0 | h0
        · exact h0
        · obtain ⟨ad, h, _⟩ := HB.rd.2.2 h0
          cases h
      subst h0
      obtain rfl : ys = [] := List.eq_nil_of_length_eq_zero hyl
      exact Src.ofNil W ht d
    | some ad =>
      refine Src.ofSlice W ht ad m d _ hn (fun j u hu => ?_) (fun u hu => by simp only [nums, List.mem_map] at hu; obtain ⟨q, _, rfl⟩ := hu; rfl)
      have hj : j < ys.length := by
        have := (List.getElem?_eq_some_iff.1 hu).1
        simpa [nums] using this
      obtain ⟨ad', h', hc⟩ := HB.some_ (by omega)
      injection h' with h'
      subst h'
      rw [hc j (by omega)]
      simp [nums, List.getElem?_eq_getElem hj] at hu
      subst hu
      simp [List.getD_eq_getElem?_getD, List.getElem?_eq_getElem hj]
  have hcat : (xs ++ ys).length = n + m := by rw [List.length_append, hxl, hyl]
  have hbyt : Byt (xs ++ ys) := byt_append.2 ⟨HR.byt, HB.byt⟩
  by_cases hroom : n + m ≤ c
  · cases A with
    | none =>
      have hc0 := HR.none_ rfl
      subst hc0
      obtain rfl : n = 0 := by omega
      obtain rfl : m = 0 := by omega
      obtain rfl : ys = [] := List.eq_nil_of_length_eq_zero hyl
      exact ⟨none, 0, W, run_append_nothing W t t ty _ i0 ht hi none 0 0 (Nat.le_refl _) _ hsrc, by simpa using HR, Below.refl _ _⟩
    | some ad =>
      obtain ⟨e1, h1, h2, h3⟩ := HR.some_ ad rfl
      obtain ⟨b, o, s⟩ := ad
      have e1 : s = none := e1
      subst e1
      have hnl : (nums .u8 ys).length = m := by simp [nums, hyl]
      have hrun := run_append_room_src (P := P) W t t ty 5 i0 ht hi b o n c (.slice B m d) m (nums .u8 ys) hsrc hroom (fun j hj => by rw [hz1, Nat.mul_one, Nat.add_assoc]; exact (h2 (n + j) (by omega)).1) (fun j hj => by rw [hz1, Nat.mul_one, Nat.add_assoc]; exact (h2 (n + j) (by omega)).2)
      rw [hz1, Nat.mul_one] at hrun
      by_cases hc : 0 < c
      · have hb := (h1 hc).1
        have hsome : ∀ j, j < (nums .u8 ys).length → (W.cell? ⟨b, o + n + j, none⟩).isSome = true := fun j hj => by rw [Nat.add_assoc]; exact (h2 (n + j) (by omega)).1
        refine ⟨_, _, _, hrun, ⟨hcat, hroom, HR.cap, hl, hbyt, fun e => (by cases e), fun ad' e => ?_⟩, below_setCells hb _ _ _ (Below.refl _ _)⟩
        injection e with e
        subst e
        refine ⟨rfl, fun _ => ⟨hb, by rw [setCells_size]; exact (h1 hc).2⟩, fun j hj => ⟨?_, by rw [World.frozen?_setCells]; exact (h2 j hj).2⟩, fun j hj => ?_⟩
        · exact World.isSome_setCells b (nums .u8 ys) (o + n) W ⟨b, o + j, none⟩ (h2 j hj).1
        · by_cases hjn : j < n
          · rw [World.cell?_setCells_out b _ _ _ _ (fun _ _ => Or.inl (by show o + j < o + n; omega)), h3 j hjn, List.getD_eq_getElem?_getD, List.getD_eq_getElem?_getD, List.getElem?_append_left (by omega)]
          · have hjy : j - n < (nums .u8 ys).length := by omega
            have q := World.cell?_setCells_in b (nums .u8 ys) (o + n) W hsome (j - n) hjy
            rw [show o + n + (j - n) = o + j by omega] at q
            rw [q, List.getD_eq_getElem?_getD, List.getElem?_append_right (by omega), hxl]
            have hjy' : j - n < ys.length := by omega
            simp [nums, List.getElem?_eq_getElem hjy']
      · have hc0 : c = 0 := by omega
        subst hc0
        obtain rfl : m = 0 := by omega
        obtain rfl : ys = [] := List.eq_nil_of_length_eq_zero hyl
        exact ⟨_, _, _, hrun, by simpa [nums, World.setCells] using HR, Below.refl _ _⟩
  · have hold : (Builtin.firstCells i0.size n (.slice A n c)).run P W.drew = .ok (nums .u8 xs).toArray W.drew := by
      cases A with
      | none =>
        have hc0 := HR.none_ rfl
        subst hc0
        obtain rfl : n = 0 := by omega
        obtain rfl : xs = [] := List.eq_nil_of_length_eq_zero hxl
        exact run_firstCells_none W.drew i0.size 0 0 0
      | some ad =>
        obtain ⟨e1, h1, h2, h3⟩ := HR.some_ ad rfl
        obtain ⟨b, o, s⟩ := ad
        have e1 : s = none := e1
        subst e1
        refine run_firstCells_some W.drew i0.size n ⟨b, o, none⟩ n c (nums .u8 xs) (by rw [hz1]; simp [nums, hxl]) (fun j u hu => ?_)
        have hj : j < xs.length := by
          have := (List.getElem?_eq_some_iff.1 hu).1
          simpa [nums] using this
        rw [Addr.add_mid]
        refine (h3 j (by omega)).trans ?_
        simp [nums, List.getElem?_eq_getElem hj] at hu
        subst hu
        simp [List.getD_eq_getElem?_getD, List.getElem?_eq_getElem hj]
    have hrun := run_append_grow_src (P := P) W t t ty 5 i0 (.int .u8 0) ht hi hz0 A n c (nums .u8 xs) hold (.slice B m d) m (nums .u8 ys) hsrc (by omega) (by omega) (growslice_fits (by omega) (by rw [hz2]; omega))
    have hge := grownCap_ge W (n + m) c 5
    have hcm := grownCap_le_maxLen W (n + m) c 5 (by simp only [maxLen]; omega)
    refine ⟨_, _, _, hrun, ⟨hcat, hge, hcm, hl, hbyt, fun e => (by cases e), fun ad' e => ?_⟩, (below_drew (Below.refl base W)).trans ((below_alloc (Below.refl W.drew.heap.size W.drew) _).mono hbase)⟩
    injection e with e
    subst e
    have hcell : ∀ j, (W.drew.alloc (.cells ((nums .u8 xs ++ nums .u8 ys).toArray ++ Builtin.zeroCells (Value.int .u8 0).cells (grownCap W (n + m) c 5 - (n + m))) 5)).cell? ⟨W.heap.size, 0 + j, none⟩ = ((nums .u8 xs ++ nums .u8 ys).toArray ++ Builtin.zeroCells (Value.int .u8 0).cells (grownCap W (n + m) c 5 - (n + m)))[j]? := fun j => by rw [Nat.zero_add]; exact World.cell?_alloc_new W.drew _ _ j
    have hsz : ((nums .u8 xs ++ nums .u8 ys).toArray ++ Builtin.zeroCells (Value.int .u8 0).cells (grownCap W (n + m) c 5 - (n + m))).size = grownCap W (n + m) c 5 := by
      have h1 : (Value.int .u8 0).cells.size = 1 := rfl
      rw [Array.size_append, List.size_toArray, size_zeroCells, h1]
      simp [nums, hxl, hyl]
      omega
    refine ⟨rfl, fun _ => ⟨hbase, by show W.heap.size < _; rw [World.size_alloc]; exact Nat.lt_succ_self _⟩, fun j hj => ⟨?_, World.frozen?_alloc_new W.drew _ _ _⟩, fun j hj => ?_⟩
    · rw [hcell j, Array.getElem?_eq_getElem (by rw [hsz]; exact hj)]
      rfl
    · rw [hcell j, Array.getElem?_append_left (by simp [nums, hxl, hyl]; exact hj), List.getElem?_toArray, show nums .u8 xs ++ nums .u8 ys = (xs ++ ys).map (Value.int .u8) by simp [nums]]
      have hj' : j < (xs ++ ys).length := by omega
      rw [List.getElem?_map, List.getD_eq_getElem?_getD, List.getElem?_eq_getElem hj']
      rfl
theorem wp_rst_append {P : Program} {ops : Array Oper} {rest : List Oper} {o : Oper} {a : Act} {Q : Exit → Act → World → Prop} {W : World} (hgd : o.guard = none) (s x : Operand) (t : TypeId)
    (ho : o.op = .call { callee := .builtin .append, args := #[s, x], argTypes := #[t, t] })
    (ht : P.underlying t = some (.slice 5)) (hinfo : (P.info? 5).map (fun i => (i.zero, i.size, i.bytes)) = some (some (.int .u8 0), 1, 1))
    {B : Option Addr} {m d : Nat} {ys : List Int} (hs : a.eval s = .slice A n c) (hx : a.eval x = .slice B m d) (HR : Rst W base A n c xs) (HB : Bts W B m d ys) (hbase : base ≤ W.heap.size) (hl : n + m ≤ 140737488355328)
    (h : ∀ A' c' W', Rst W' base A' (n + m) c' (xs ++ ys) → Below base W W' → wpList P ops Q rest (a.put o.dst (.slice A' (n + m) c')) W') : wpList P ops Q (o :: rest) a W := by
  refine wpList_plain hgd fun K hK => ?_
  obtain ⟨A', c', W', hrun, h1, h2⟩ := rst_append (P := P) (ty := o.type) ht hinfo HR HB hbase hl
  unfold Oper.wp
  simp [execOp, ho, resolve, invoke, builtin, hs, hx, hrun, Result.andThen]
  exact hK _ _ (h A' c' W' h1 h2)
end
end Go.Proofs.YtaooibcihjkhfaaDoor

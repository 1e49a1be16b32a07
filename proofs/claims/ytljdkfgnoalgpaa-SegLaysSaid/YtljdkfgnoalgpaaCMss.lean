/- What options offer: the contract of Mss, by its iterator's. Conditions: each argument is of its Go type. -/
import Derived.Test.YtljdkfgnoalgpaaCSeg
import Derived.Test.YtljdkfgnoalgpaaArr
import Derived.Test.YtljdkfgnoalgpaaRngB
import Derived.Deep.RegionHeld3
namespace Go.Proofs.Ytljdkfgnoalgpaa
open Go.RowKit Go.Proofs.YtljdkfgnoalgpaaW.PrintWords
attribute [local go_sem] Oper.semAt_some

/-- How long the first option is, if it may be. -/
def optLen (r : List Int) : Option Nat := if r.getD 0 0 = 1 then some 1 else if r.length < 2 ∨ r.getD 1 0 < 2 ∨ (r.length : Int) < r.getD 1 0 then none else some (r.getD 1 0).toNat
/-- One option more. -/
def mssStep (o : List Int) (t : Int × Int) : Int × Int := if o.length = 4 ∧ o.getD 0 0 = 2 ∧ t.2 = 6 then (256 * o.getD 2 0 + o.getD 3 0, 0) else t
def mssL : Nat → List Int → Int × Int → Int × Int
  | 0, _, t => t
  | k + 1, r, t => if r = [] ∨ r.getD 0 0 = 0 then t else match optLen r with
    | none => (0, 4)
    | some m => mssL k (r.drop m) (mssStep (r.take m) t)
def mssS (os : List Int) : Int × Int := mssL os.length os (0, 6)
theorem optLen_bd {r : List Int} (hr : 0 < r.length) {m : Nat} (h : optLen r = some m) : 1 ≤ m ∧ m ≤ r.length := by
  unfold optLen at h
  split at h
  · injection h with h; omega
  split at h
  · cases h
  · injection h with h; omega
theorem mssL_fuel : ∀ (k : Nat) (r : List Int) (t : Int × Int), r.length ≤ k → mssL k r t = mssL r.length r t
  | 0, r, t, h => by
    have : r = [] := List.eq_nil_of_length_eq_zero (by omega)
    subst this; rfl
  | k + 1, r, t, h => by
    by_cases h0 : r = []
    · subst h0; simp [mssL]
    · obtain ⟨j, hj⟩ : ∃ j, r.length = j + 1 := ⟨r.length - 1, by have := List.length_pos_iff.2 h0; omega⟩
      rw [hj, mssL, mssL]
      by_cases h1 : r.getD 0 0 = 0
      · rw [if_pos (.inr h1), if_pos (.inr h1)]
      · rw [if_neg (fun q => q.elim h0 h1), if_neg (fun q => q.elim h0 h1)]
        cases ho : optLen r with
        | none => rfl
        | some m =>
          have hb := optLen_bd (by omega) ho
          have hl : (r.drop m).length = r.length - m := List.length_drop
          simp only []
          rw [mssL_fuel k _ _ (by omega), ← mssL_fuel j (r.drop m) _ (by omega)]
/-- One round. -/
theorem mssL_none {r : List Int} {t : Int × Int} (h0 : r ≠ []) (h1 : r.getD 0 0 ≠ 0) (h : optLen r = none) : mssL r.length r t = (0, 4) := by
  obtain ⟨j, hj⟩ : ∃ j, r.length = j + 1 := ⟨r.length - 1, by have := List.length_pos_iff.2 h0; omega⟩
  rw [hj, mssL, if_neg (fun q => q.elim h0 h1), h]
theorem mssL_some {r : List Int} {t : Int × Int} (h0 : r ≠ []) (h1 : r.getD 0 0 ≠ 0) {m : Nat} (h : optLen r = some m) : mssL r.length r t = mssL (r.drop m).length (r.drop m) (mssStep (r.take m) t) := by
  obtain ⟨j, hj⟩ : ∃ j, r.length = j + 1 := ⟨r.length - 1, by have := List.length_pos_iff.2 h0; omega⟩
  have hb := optLen_bd (by omega) h
  rw [hj, mssL, if_neg (fun q => q.elim h0 h1), h]
  simp only []
  rw [mssL_fuel j _ _ (by rw [List.length_drop]; omega)]
theorem mssL_end {r : List Int} {t : Int × Int} (h : r = [] ∨ r.getD 0 0 = 0) : mssL r.length r t = t := by
  cases hr : r.length with
  | zero => rfl
  | succ j => rw [mssL, if_pos h]
theorem bytesOf_get (q : ByteArray) (i : Nat) (h : i < q.size) : (bytesOf q).getD i 0 = ((q[i]).toNat : Int) := by
  have h' : i < q.data.toList.length := by simpa using h
  simp [bytesOf, List.getD_eq_getElem?_getD, List.getElem?_eq_getElem h']
  rfl
theorem bytesOf_take (q : ByteArray) (m : Nat) : bytesOf (q.extract 0 m) = (bytesOf q).take m := by
  simp [bytesOf, ByteArray.data_extract, List.map_take]
theorem bytesOf_drop (q : ByteArray) (m : Nat) : bytesOf (q.extract m q.size) = (bytesOf q).drop m := by
  simp only [bytesOf, ByteArray.data_extract, Array.toList_extract, List.extract_eq_take_drop]
  rw [List.take_of_length_le (by rw [List.length_drop, data_length]; exact Nat.le_refl _), List.map_drop]
theorem str_empty (q : ByteArray) : q.toList.isEmpty = decide (q.size = 0) := by
  rw [ByteArray.toList_eq]
  cases h : q.data.toList with
  | nil =>
    have : q.size = 0 := by show q.data.size = 0; rw [← Array.length_toList, h]; rfl
    rw [decide_eq_true this]; rfl
  | cons a t =>
    have : q.size ≠ 0 := by show q.data.size ≠ 0; rw [← Array.length_toList, h]; simp
    rw [decide_eq_false this]; rfl
/-- What the iterator may hand on. -/
def GoodO (r : List Int) (x : Array Value) (_ : World) (r' : List Int) : Prop := r ≠ [] ∧ r.getD 0 0 ≠ 0 ∧ ∃ q : ByteArray, x = #[.string q] ∧
  ((optLen r = none ∧ bytesOf q = [] ∧ r' = []) ∨ (∃ m, optLen r = some m ∧ bytesOf q = r.take m ∧ r' = r.drop m))
/-- Every block below B but x lies as it lay: what the iterator wants is its own variable. -/
def KeepsB (g : Nat) (X Y : World) : Prop := X.heap.size ≤ Y.heap.size ∧ Y.heap[g]? = X.heap[g]?

set_option maxHeartbeats 1000000 in
theorem seg_each (o : ByteArray) (w : World) : Calls Try.prog 37 #[.string o] w fun q w' =>
    q = .returned (.func (.func 44) #[] #[.pointer (some ⟨w.heap.size, 0, none⟩)]) ∧ w' = w.alloc (.cells #[.string o] 9) := by
  go_enter Try.func37, Try.ntmps37
  go_wp2
  go_ret
  exact ⟨rfl, rfl⟩




set_option maxRecDepth 100000 in
set_option maxHeartbeats 2000000 in
/-- The iterator: option after option. -/
theorem each_seq (n g : Nat) (o : ByteArray) (ho : o.size ≤ 140737488351232) (w0 : World) (b0 : Boxed w0 g 9 (.string o)) :
    SeqG n Try.prog 44 #[.pointer (some ⟨g, 0, none⟩)] (some g) (KeepsB g) GoodO (fun r => r = [] ∨ r.getD 0 0 = 0) (bytesOf o) w0 := by
  intro l J Jx W hW hJ hJx hY h0
  have hg := b0.lt
  have B0 : Boxed W g 9 (.string o) := (hW.block g hg).trans b0
  refine callsIn_of_wp Try.func44 rfl trivial ?_ rfl
  simp only [Try.ntmps44, List.size_toArray, List.length_cons, List.length_nil, Nat.reduceAdd, Nat.reduceSub, Array.replicate_succ, Array.replicate_zero, List.push_toArray, List.append_toArray, List.nil_append, List.cons_append]
  gi_wp2
  gi_loopw [] (fun wr => ∃ (r : List Int) (q : ByteArray), J r wr ∧ bytesOf q = r ∧ q.size ≤ 140737488351232 ∧ Boxed wr g 9 (.string q)) (fun wr => match wr.cell? ⟨g, 0, none⟩ with | some (.string q) => q.size | _ => 0)
  case atStart => exact ⟨_, o, h0, rfl, ho, B0⟩
  case round =>
    clear h0 B0 b0 hW ho
    obtain ⟨r, q, hJr, hq, hqs, hb⟩ := hrel
    have cb := hb.cell
    have hlen : r.length = q.size := by rw [← hq, bytesOf_length]
    have he := str_empty q
    by_cases z0 : q.size = 0
    · rw [decide_eq_true z0] at he
      have hr : r = [] := List.eq_nil_of_length_eq_zero (by omega)
      replace hq := Lib.hid hq
      clear z0 hlen
      gi_wp2
      go_end0
      exact ⟨⟨_, rfl⟩, .inl ⟨r, .inl hr, hJr⟩⟩
    rw [decide_eq_false z0] at he
    have hq0 : 0 < q.size := by omega
    have hrn : r ≠ [] := fun e => by rw [e] at hlen; simp at hlen; omega
    have e0 := bytesOf_get q 0 hq0
    rw [hq] at e0
    obtain ⟨x0, hx0⟩ : ∃ x, r.getD 0 0 = x := ⟨_, rfl⟩
    rw [hx0] at e0
    have b0 := byt_get (hq ▸ byt_bytesOf q) 0 (l := r)
    rw [hx0] at b0
    replace e0 := e0.symm
    replace hx0 := Lib.hid hx0
    replace hq := Lib.hid hq
    replace hlen := Lib.hid hlen
    by_cases z1 : x0 = 0
    · subst z1
      gi_wp2
      go_end0
      exact ⟨⟨_, rfl⟩, .inl ⟨r, .inr hx0.out, hJr⟩⟩
    have d0 : (x0 != 0) = true := bne_iff_ne.mpr z1
    by_cases z2 : x0 = 1
    · subst z2
      have ho : optLen r = some 1 := by unfold optLen; rw [if_pos hx0.out]
      have hbd := optLen_bd (by rw [hlen.out]; exact hq0) ho
      obtain ⟨fn, tmps, assign, body, hy, hR⟩ := hY r #[.string (q.extract 0 1)] (r.drop 1) wr hJr ⟨hrn, by rw [hx0.out]; exact z1, _, rfl, .inr ⟨1, ho, by rw [bytesOf_take, hq.out], rfl⟩⟩
      have hsz : (q.extract 1 q.size).size = q.size - 1 := by rw [← bytesOf_length, bytesOf_drop, List.length_drop, bytesOf_length]
      gi_wp2
      refine ⟨fun e => (by cases e), hR.mono ?_⟩
      rintro e W4 (⟨rfl, J4, S4⟩ | ⟨rfl, J4⟩)
      · have b4 : Boxed W4 g 9 (.string q) := S4.2.trans hb
        have c4 := Boxed.cell b4
        have f4 := Boxed.frozen b4
        have cw : wr.cell? { block := g, off := 0 } = some (.string q) := hb.cell
        have J5 := hJ _ _ _ J4 (grown_set W4 ⟨g, 0, none⟩ (.string (q.extract 1 q.size)))
        have b5 := Boxed.set (.string (q.extract 1 q.size)) b4
        have c5 := Boxed.cell b5
        clear hR hy J4 S4 b4
        gi_wp2
        go_roundw
        case rel => exact ⟨r.drop 1, q.extract 1 q.size, J5, by rw [bytesOf_drop, hq.out], by omega, b5⟩
        case measure =>
          rw [c5]
          simp only [cw]
          have := hlen.out
          omega
      · gi_wp2
        refine bodyPost_ret (results_none rfl _ _ _) rfl ?_
        exact ⟨⟨_, rfl⟩, .inr ⟨r.drop 1, J4⟩⟩
    have d1 : (x0 != 1) = true := bne_iff_ne.mpr z2
    have hm := (by kernel_rfl : Try.prog.follows .mixedOrders = true)
    have hopt : optLen r = if r.length < 2 ∨ r.getD 1 0 < 2 ∨ (r.length : Int) < r.getD 1 0 then none else some (r.getD 1 0).toNat := by unfold optLen; rw [if_neg (by rw [hx0.out]; exact z2)]
    rw [hlen.out] at hopt
    by_cases y0 : q.size < 2
    · have ho : optLen r = none := by rw [hopt, if_pos (.inl y0)]
      have d2 : decide ((q.size : Int) < 2) = true := decide_eq_true (by omega)
      have d2' : decide (q.size < 2) = true := decide_eq_true y0
      gi_wp2
      refine wpIn_wide.2 ?_
      go_quiet (fail)
      obtain ⟨fn, tmps, assign, body, hy, hR⟩ := hY r #[.string ⟨#[]⟩] [] (wr.drewN nq) (hJ _ _ _ hJr (grown_drewN wr nq _)) ⟨hrn, by rw [hx0.out]; exact z1, _, rfl, .inl ⟨ho, rfl, rfl⟩⟩
      gi_wp2
      refine ⟨fun e => (by cases e), hR.mono ?_⟩
      rintro e W4 (⟨rfl, J4, _⟩ | ⟨rfl, J4⟩)
      · gi_wp2
        refine bodyPost_ret (results_none rfl _ _ _) rfl ?_
        exact ⟨⟨_, rfl⟩, .inl ⟨[], .inl rfl, J4⟩⟩
      · gi_wp2
        refine bodyPost_ret (results_none rfl _ _ _) rfl ?_
        exact ⟨⟨_, rfl⟩, .inr ⟨[], J4⟩⟩
    have d2 : decide ((q.size : Int) < 2) = false := decide_eq_false (by omega)
    have d2' : decide (q.size < 2) = false := decide_eq_false y0
    have hq1 : 1 < q.size := by omega
    have e1 := bytesOf_get q 1 hq1
    rw [hq.out] at e1
    obtain ⟨x1, hx1⟩ : ∃ x, r.getD 1 0 = x := ⟨_, rfl⟩
    rw [hx1] at e1 hopt
    have b1 := byt_get (hq.out ▸ byt_bytesOf q) 1 (l := r)
    rw [hx1] at b1
    replace e1 := e1.symm
    clear hx1
    by_cases y1 : x1 < 2
    · have ho : optLen r = none := by rw [hopt, if_pos (.inr (.inl y1))]
      have d3 : decide (x1 < 2) = true := decide_eq_true y1
      gi_wp2
      refine wpIn_wide.2 ?_
      go_quiet (fail)
      obtain ⟨fn, tmps, assign, body, hy, hR⟩ := hY r #[.string ⟨#[]⟩] [] (wr.drewN nq) (hJ _ _ _ hJr (grown_drewN wr nq _)) ⟨hrn, by rw [hx0.out]; exact z1, _, rfl, .inl ⟨ho, rfl, rfl⟩⟩
      gi_wp2
      refine ⟨fun e => (by cases e), hR.mono ?_⟩
      rintro e W4 (⟨rfl, J4, _⟩ | ⟨rfl, J4⟩)
      · gi_wp2
        refine bodyPost_ret (results_none rfl _ _ _) rfl ?_
        exact ⟨⟨_, rfl⟩, .inl ⟨[], .inl rfl, J4⟩⟩
      · gi_wp2
        refine bodyPost_ret (results_none rfl _ _ _) rfl ?_
        exact ⟨⟨_, rfl⟩, .inr ⟨[], J4⟩⟩
    have d3 : decide (x1 < 2) = false := decide_eq_false y1
    by_cases y2 : (q.size : Int) < x1
    · have ho : optLen r = none := by rw [hopt, if_pos (.inr (.inr y2))]
      have d4 : decide ((q.size : Int) < x1) = true := decide_eq_true y2
      gi_wp2
      refine wpIn_wide.2 ?_
      go_quiet (fail)
      obtain ⟨fn, tmps, assign, body, hy, hR⟩ := hY r #[.string ⟨#[]⟩] [] (wr.drewN nq) (hJ _ _ _ hJr (grown_drewN wr nq _)) ⟨hrn, by rw [hx0.out]; exact z1, _, rfl, .inl ⟨ho, rfl, rfl⟩⟩
      gi_wp2
      refine ⟨fun e => (by cases e), hR.mono ?_⟩
      rintro e W4 (⟨rfl, J4, _⟩ | ⟨rfl, J4⟩)
      · gi_wp2
        refine bodyPost_ret (results_none rfl _ _ _) rfl ?_
        exact ⟨⟨_, rfl⟩, .inl ⟨[], .inl rfl, J4⟩⟩
      · gi_wp2
        refine bodyPost_ret (results_none rfl _ _ _) rfl ?_
        exact ⟨⟨_, rfl⟩, .inr ⟨[], J4⟩⟩
    have d4 : decide ((q.size : Int) < x1) = false := decide_eq_false y2
    have ho : optLen r = some x1.toNat := by rw [hopt, if_neg (fun q => by omega)]
    replace hopt := Lib.hid hopt
    gi_wp2
    refine wpIn_wide.2 ?_
    go_quiet (fail)
    have hbd := optLen_bd (by rw [hlen.out]; exact hq0) ho
    obtain ⟨fn, tmps, assign, body, hy, hR⟩ := hY r #[.string (q.extract 0 x1.toNat)] (r.drop x1.toNat) (wr.drewN nq) (hJ _ _ _ hJr (grown_drewN wr nq _)) ⟨hrn, by rw [hx0.out]; exact z1, _, rfl, .inr ⟨x1.toNat, ho, by rw [bytesOf_take, hq.out], rfl⟩⟩
    have hsz : (q.extract x1.toNat q.size).size = q.size - x1.toNat := by rw [← bytesOf_length, bytesOf_drop, List.length_drop, bytesOf_length]
    have j1 : x1 ≤ (q.size : Int) := by omega
    have j0 : (0 : Int) ≤ x1 := by omega
    have cb' : (wr.drewN nq).cell? { block := g, off := 0 } = some (.string q) := cb
    gi_wp2
    refine ⟨fun e => (by cases e), hR.mono ?_⟩
    rintro e W4 (⟨rfl, J4, S4⟩ | ⟨rfl, J4⟩)
    · have b4 : Boxed W4 g 9 (.string q) := S4.2.trans hb
      have c4 := Boxed.cell b4
      have f4 := Boxed.frozen b4
      have cw : wr.cell? { block := g, off := 0 } = some (.string q) := hb.cell
      have J5 := hJ _ _ _ J4 (grown_set W4 ⟨g, 0, none⟩ (.string (q.extract x1.toNat q.size)))
      have b5 := Boxed.set (.string (q.extract x1.toNat q.size)) b4
      have c5 := Boxed.cell b5
      clear hR hy J4 S4 b4
      gi_wp2
      go_roundw
      case rel => exact ⟨r.drop x1.toNat, q.extract x1.toNat q.size, J5, by rw [bytesOf_drop, hq.out], by omega, b5⟩
      case measure =>
        rw [c5]
        simp only [cw]
        have := hlen.out
        omega
    · gi_wp2
      refine bodyPost_ret (results_none rfl _ _ _) rfl ?_
      exact ⟨⟨_, rfl⟩, .inr ⟨r.drop x1.toNat, J4⟩⟩
theorem KeepsB.trans {g : Nat} {X Y Z : World} (h : KeepsB g X Y) (k : KeepsB g Y Z) : KeepsB g X Z := ⟨Nat.le_trans h.1 k.1, k.2.trans h.2⟩

end Go.Proofs.Ytljdkfgnoalgpaa

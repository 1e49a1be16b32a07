/- The contract of Mss. Conditions: each argument is of its Go type. -/
import Derived.Test.YtljdkfgnoalgpaaCMss
import Derived.BigRegion
import Derived.BigRegionIn
namespace Go.Proofs.Ytljdkfgnoalgpaa
open Go.RowKit Go.Proofs.YtljdkfgnoalgpaaW.PrintWords
attribute [local go_sem] Oper.semAt_some

/-- Four variables. -/
structure B4 (W : World) (s : Nat) (r e n k : Int) : Prop where
  b0 : Boxed W s 3 (.int .i64 r)
  b1 : Boxed W (s + 1) 27 (.int .i64 e)
  b2 : Boxed W (s + 1 + 1) 3 (.int .i64 n)
  b3 : Boxed W (s + 1 + 1 + 1) 27 (.int .i64 k)
theorem B4.kept {X Y : World} {s : Nat} {r e n k : Int} (h : B4 X s r e n k) {q : Option Nat} (hg : X.grownBy Y q) (hq : ∀ j, q = some j → s + 4 ≤ j) : B4 Y s r e n k := by
  have ne : ∀ j, j < s + 4 → some j ≠ q := fun j hj e' => by have := hq j e'.symm; omega
  exact ⟨Boxed.kept h.b0 hg (ne _ (by omega)), Boxed.kept h.b1 hg (ne _ (by omega)), Boxed.kept h.b2 hg (ne _ (by omega)), Boxed.kept h.b3 hg (ne _ (by omega))⟩
/-- .. of which one is stored into. -/
theorem B4.set0 {X : World} {s : Nat} {r e n k : Int} (h : B4 X s r e n k) (x : Int) : B4 (X.setCell ⟨s, 0, none⟩ (.int .i64 x)) s x e n k :=
  ⟨Boxed.set _ h.b0, Boxed.other h.b1 (by omega) _, Boxed.other h.b2 (by omega) _, Boxed.other h.b3 (by omega) _⟩
theorem B4.set1 {X : World} {s : Nat} {r e n k : Int} (h : B4 X s r e n k) (x : Int) : B4 (X.setCell ⟨s + 1, 0, none⟩ (.int .i64 x)) s r x n k :=
  ⟨Boxed.other h.b0 (by omega) _, Boxed.set _ h.b1, Boxed.other h.b2 (by omega) _, Boxed.other h.b3 (by omega) _⟩
theorem B4.set2 {X : World} {s : Nat} {r e n k : Int} (h : B4 X s r e n k) (x : Int) : B4 (X.setCell ⟨s + 1 + 1, 0, none⟩ (.int .i64 x)) s r e x k :=
  ⟨Boxed.other h.b0 (by omega) _, Boxed.other h.b1 (by omega) _, Boxed.set _ h.b2, Boxed.other h.b3 (by omega) _⟩
theorem B4.set3 {X : World} {s : Nat} {r e n k : Int} (h : B4 X s r e n k) (x : Int) : B4 (X.setCell ⟨s + 1 + 1 + 1, 0, none⟩ (.int .i64 x)) s r e n x :=
  ⟨Boxed.other h.b0 (by omega) _, Boxed.other h.b1 (by omega) _, Boxed.other h.b2 (by omega) _, Boxed.set _ h.b3⟩
theorem B4.drew {X : World} {s : Nat} {r e n k : Int} (h : B4 X s r e n k) : B4 X.drew s r e n k := ⟨h.b0, h.b1, h.b2, h.b3⟩
def InvM (w : World) (s : Nat) (os : List Int) (r : List Int) (W : World) : Prop := ∃ n e, B4 W s 0 0 n e ∧ mssL r.length r (n, e) = mssS os ∧ Below w.heap.size w W
def InvX (w : World) (s : Nat) (os : List Int) (c : Code) (_ : List Int) (W : World) : Prop := c = .ret ∧ ∃ n e, B4 W s 0 4 n e ∧ mssS os = (0, 4) ∧ Below w.heap.size w W


set_option maxRecDepth 100000 in
set_option maxHeartbeats 4000000 in
theorem seg_Mss (o : ByteArray) (ho : o.size ≤ 140737488351232) (w : World) : Calls Try.prog 20 #[.string o] w fun e w' =>
    e = .returned (.tuple #[.int .i64 (mssS (bytesOf o)).1, .int .i64 (mssS (bytesOf o)).2]) ∧ Below w.heap.size w w' := by
  obtain ⟨s, hs⟩ : ∃ s, w.heap.size = s := ⟨_, rfl⟩
  refine (callsIn_wide (n := 4)).1 ?_
  refine callsIn_of_wp_marks Try.func20 rfl trivial ?_ rfl
  simp only [Try.ntmps20, List.size_toArray, List.length_cons, List.length_nil, Nat.reduceAdd, Nat.reduceSub, Array.replicate_succ, Array.replicate_zero, List.push_toArray, List.append_toArray, List.nil_append, List.cons_append]
  gi_wp2_with fail
  refine call_in2 ((seg_each o _).mono ?_)
  rintro q W0 ⟨rfl, hW0⟩
  simp only [World.size_alloc, hs]
  obtain ⟨h4, b4, hB0, hs0⟩ : B4 W0 s 0 0 0 6 ∧ Boxed W0 (s + 1 + 1 + 1 + 1) 9 (.string o) ∧ Below w.heap.size w W0 ∧ W0.heap.size = s + 5 := by
    subst hs
    have q0 := Boxed.new w 3 (.int .i64 0)
    have q1 := Boxed.new (w.alloc (.cells #[.int .i64 0] 3)) 27 (.int .i64 0)
    have q2 := Boxed.new ((w.alloc (.cells #[.int .i64 0] 3)).alloc (.cells #[.int .i64 0] 27)) 3 (.int .i64 0)
    have q3 := Boxed.new (((w.alloc (.cells #[.int .i64 0] 3)).alloc (.cells #[.int .i64 0] 27)).alloc (.cells #[.int .i64 0] 3)) 27 (.int .i64 6)
    have q4 := Boxed.new ((((w.alloc (.cells #[.int .i64 0] 3)).alloc (.cells #[.int .i64 0] 27)).alloc (.cells #[.int .i64 0] 3)).alloc (.cells #[.int .i64 6] 27)) 9 (.string o)
    simp only [World.size_alloc] at q1 q2 q3 q4
    rw [hW0]
    exact ⟨⟨(((q0.alloc _).alloc _).alloc _).alloc _, ((q1.alloc _).alloc _).alloc _, (q2.alloc _).alloc _, q3.alloc _⟩, q4, below_alloc (below_alloc (below_alloc (below_alloc (below_alloc (Below.refl _ _) _) _) _) _) _, by simp⟩
  clear hW0
  gi_wp2_with fail
  refine wpIn_rangeG (σ := List Int) (gf := 44) rfl (enters_of Try.func44 (by kernel_rfl) rfl) (row := some (s + 1 + 1 + 1 + 1)) (fun r e => by cases e; omega)
    (each_seq 3 (s + 1 + 1 + 1 + 1) o ho W0 b4) (fun h k => h.trans k) (fun W l o o' hl ho hc => ⟨by simp, World.putObj_heap_other (by omega)⟩) (Below.refl _ _)
    (fun k x W k' hg => by obtain ⟨_, _, q, rfl, _⟩ := hg; rfl) (fun k x k' X Y r hg _ _ => hg)
    (InvM w s (bytesOf o)) (InvX w s (bytesOf o)) ?abd ?abx ⟨0, 6, h4, rfl, hB0⟩ ?round ?done ?stop
  case abd =>
    rintro k X Y r ⟨n, e, hb, hm, hB⟩ hg hr
    have hr' : ∀ j, r = some j → s + 4 ≤ j := fun j ej => by
      rcases hr j ej with q | ⟨q, _⟩
      · injection q with q; omega
      · omega
    exact ⟨n, e, hb.kept hg hr', hm, hB.grown hg hB.size (fun j ej => by have := hr' j ej; omega)⟩
  case abx =>
    rintro c k X Y r ⟨hc, n, e, hb, hm, hB⟩ hg hr
    have hr' : ∀ j, r = some j → s + 4 ≤ j := fun j ej => by
      rcases hr j ej with q | ⟨q, _⟩
      · injection q with q; omega
      · omega
    exact ⟨hc, n, e, hb.kept hg hr', hm, hB.grown hg hB.size (fun j ej => by have := hr' j ej; omega)⟩
  case round =>
    rintro l r r' x W hl hI ⟨hrn, hr0, q, rfl, hq⟩
    clear hI
    gi_wp2
    refine ⟨trivial, ?_⟩
    rintro W2 ⟨n, e, hb, hm, hB⟩ _
    have he := str_empty q
    rcases hq with ⟨hopt, hq, rfl⟩ | ⟨m, hopt, hq, rfl⟩
    · have z0 : q.size = 0 := by rw [← bytesOf_length, hq]; rfl
      rw [decide_eq_true z0] at he
      have hfin : mssS (bytesOf o) = (0, 4) := by rw [← hm, mssL_none hrn hr0 hopt]
      have c0 := Boxed.cell hb.b0
      have c1 := Boxed.cell hb.b1
      have f0 := Boxed.frozen hb.b0
      have f1 := Boxed.frozen hb.b1
      have c1' := Boxed.cell (hb.set0 0).b1
      have f1' := Boxed.frozen (hb.set0 0).b1
      clear hm hopt hq z0
      gi_wp2
      exact ⟨((KeepsOthers.setCell _ _ _).trans (KeepsOthers.setCell _ _ _)).from _, rfl, n, e, (hb.set0 0).set1 4, hfin, below_set (below_set hB (p := ⟨s, 0, none⟩) (by show w.heap.size ≤ s; omega) _) (p := ⟨s + 1, 0, none⟩) (by show w.heap.size ≤ s + 1; omega) _⟩
    · have hbd := optLen_bd (List.length_pos_iff.2 hrn) hopt
      have hqs : q.size = m := by rw [← bytesOf_length, hq, List.length_take]; omega
      rw [decide_eq_false (by omega)] at he
      have c3 := Boxed.cell hb.b3
      have f3 := Boxed.frozen hb.b3
      have c2 := Boxed.cell hb.b2
      have f2 := Boxed.frozen hb.b2
      have hql : (r.take m).length = m := by rw [← hq, bytesOf_length, hqs]
      by_cases z4 : m = 4
      case neg =>
        have d4 : ((q.size : Int) == 4) = false := beq_eq_false_iff_ne.mpr (by omega)
        have d4' : (q.size == 4) = false := beq_eq_false_iff_ne.mpr (by omega)
        replace hqs := Lib.hid hqs
        replace hm : mssL (r.drop m).length (r.drop m) (n, e) = mssS (bytesOf o) := by rw [← hm, mssL_some hrn hr0 hopt]; unfold mssStep; rw [if_neg (fun q => (z4 (hql ▸ q.1)))]
        clear hopt hq
        gi_wp2
        exact ⟨KeepsFrom.refl _ _, ⟨Nat.le_refl _, rfl⟩, n, e, hb, hm, hB⟩
      subst z4
      have d4 : ((q.size : Int) == 4) = true := beq_iff_eq.2 (by omega)
      have d4' : (q.size == 4) = true := beq_iff_eq.2 hqs
      have i0 : 0 < q.size := by omega
      have i1 : 1 < q.size := by omega
      have i2 : 2 < q.size := by omega
      have i3 : 3 < q.size := by omega
      have e0 := bytesOf_get q 0 i0
      have e2 := bytesOf_get q 2 i2
      have e3 := bytesOf_get q 3 i3
      rw [hq] at e0 e2 e3
      have hbt := byt_bytesOf q
      rw [hq] at hbt
      have hb2 := byt_get hbt 2
      have hb3 := byt_get hbt 3
      replace hqs := Lib.hid hqs
      obtain ⟨x0, hx0⟩ : ∃ x, (r.take 4).getD 0 0 = x := ⟨_, rfl⟩
      obtain ⟨x2, hx2⟩ : ∃ x, (r.take 4).getD 2 0 = x := ⟨_, rfl⟩
      obtain ⟨x3, hx3⟩ : ∃ x, (r.take 4).getD 3 0 = x := ⟨_, rfl⟩
      rw [hx0] at e0
      rw [hx2] at e2 hb2
      rw [hx3] at e3 hb3
      replace e0 := e0.symm
      replace e2 := e2.symm
      replace e3 := e3.symm
      replace hx0 := Lib.hid hx0
      replace hx2 := Lib.hid hx2
      replace hx3 := Lib.hid hx3
      by_cases z0 : x0 = 2
      case neg =>
        have d0 : (x0 == 2) = false := beq_eq_false_iff_ne.mpr z0
        replace hm : mssL (r.drop 4).length (r.drop 4) (n, e) = mssS (bytesOf o) := by rw [← hm, mssL_some hrn hr0 hopt]; unfold mssStep; rw [if_neg (fun q => (z0 (hx0.out ▸ q.2.1)))]
        clear hopt hq
        gi_wp2
        exact ⟨KeepsFrom.refl _ _, ⟨Nat.le_refl _, rfl⟩, n, e, hb, hm, hB⟩
      subst z0
      by_cases z6 : e = 6
      case neg =>
        have d6 : (e == 6) = false := beq_eq_false_iff_ne.mpr z6
        replace hm : mssL (r.drop 4).length (r.drop 4) (n, e) = mssS (bytesOf o) := by rw [← hm, mssL_some hrn hr0 hopt]; unfold mssStep; rw [if_neg (fun q => (z6 q.2.2))]
        clear hopt hq
        gi_wp2
        exact ⟨KeepsFrom.refl _ _, ⟨Nat.le_refl _, rfl⟩, n, e, hb, hm, hB⟩
      subst z6
      replace hm : mssL (r.drop 4).length (r.drop 4) (256 * x2 + x3, 0) = mssS (bytesOf o) := by
        rw [← hm, mssL_some hrn hr0 hopt]
        unfold mssStep
        rw [if_pos ⟨hql, hx0.out, rfl⟩, hx2.out, hx3.out]
      have hj8 := k_or_shift x2 x3 (by omega) (by omega) (by omega)
      clear hopt hq hql
      have hkeep : ((W2.setCell ⟨s + 1 + 1, 0, none⟩ (.int .i64 (256 * x2 + x3))).setCell ⟨s + 1 + 1 + 1, 0, none⟩ (.int .i64 0)).drew.heap[s + 1 + 1 + 1 + 1]? = W2.heap[s + 1 + 1 + 1 + 1]? :=
        (Below.heap_setCell _ _ _ _ (by show s + 1 + 1 + 1 + 1 ≠ s + 1 + 1 + 1; omega)).trans (Below.heap_setCell _ _ _ _ (by show s + 1 + 1 + 1 + 1 ≠ s + 1 + 1; omega))
      have hbel := below_drew (below_set (below_set hB (p := ⟨s + 1 + 1, 0, none⟩) (by show w.heap.size ≤ s + 1 + 1; omega) (.int .i64 (256 * x2 + x3))) (p := ⟨s + 1 + 1 + 1, 0, none⟩) (by show w.heap.size ≤ s + 1 + 1 + 1; omega) (.int .i64 0))
      gi_wp2
      have wx2 : IntKind.i64.wrap x2 = x2 := IntWalk.i64_in _ (by omega)
      have wx3 : IntKind.i64.wrap x3 = x3 := IntWalk.i64_in _ (by omega)
      have wy2 : IntKind.i64.wrap (x2 * 256) = x2 * 256 := IntWalk.i64_in _ (by omega)
      gi_region_both
      all_goals
        gi_wp2
        exact ⟨((KeepsOthers.setCell _ _ _).trans ((KeepsOthers.setCell _ _ _).trans (KeepsOthers.drew _))).from _, ⟨by simp [World.setCell, World.drew], hkeep⟩, _, _, ((hb.set2 _).set3 _).drew, hm, hbel⟩
  case done =>
    rintro D r W hD hfin ⟨n, e, hb, hm, hB⟩ hK
    rw [mssL_end hfin] at hm
    have c2 := Boxed.cell hb.b2
    have c3 := Boxed.cell hb.b3
    have f0 := Boxed.frozen hb.b0
    have f1 := Boxed.frozen hb.b1
    have c0 := Boxed.cell hb.b0
    have c1 := Boxed.cell hb.b1
    gi_wp2
    refine wpIn_wide.2 ?_
    go_region
    have h5 := ((hb.set0 n).set1 e).drew
    have hK2 : (((W.setCell ⟨s, 0, none⟩ (.int .i64 n)).setCell ⟨s + 1, 0, none⟩ (.int .i64 e)).drew).heap[D]? = some (.deferred (some [])) :=
      ((KeepsOthers.setCell W ⟨s, 0, none⟩ (.int .i64 n)).trans ((KeepsOthers.setCell _ ⟨s + 1, 0, none⟩ (.int .i64 e)).trans (KeepsOthers.drew _))).same D _ hK rfl
    have hB2 := below_drew (below_set (below_set hB (p := ⟨s, 0, none⟩) (by show w.heap.size ≤ s; omega) (.int .i64 n)) (p := ⟨s + 1, 0, none⟩) (by show w.heap.size ≤ s + 1; omega) (.int .i64 e))
    generalize ((W.setCell ⟨s, 0, none⟩ (.int .i64 n)).setCell ⟨s + 1, 0, none⟩ (.int .i64 e)).drew = W5 at h5 hK2 hB2 ⊢
    clear c0 c1 c2 c3 f0 f1
    gi_wp2
    have c0 := (Boxed.kept_ h5.b0 (grownBy_putObj' W5 D (.deferred none)) (fun j ej => by cases ej; exact ⟨_, hK2, rfl⟩)).cell
    have c1 := (Boxed.kept_ h5.b1 (grownBy_putObj' W5 D (.deferred none)) (fun j ej => by cases ej; exact ⟨_, hK2, rfl⟩)).cell
    refine ⟨by simp, .inl ⟨_, _, rfl, run_takeDeferred hK2, ?_⟩⟩
    have hBK := hB2.trans (belowK_b (n₀ := w.heap.size) (w := w) (Nat.le_refl _) W5 D _ (.deferred none) (by omega) hK2 rfl rfl)
    refine ⟨.tuple #[.int .i64 n, .int .i64 e], ?_, by rw [← hm], hBK⟩
    simp [results, Try.f20, go_sem, c0, c1]
  case stop =>
    rintro D c r W hD ⟨rfl, n, e, hb, hm, hB⟩ hK
    gi_wp2
    have c0 := (Boxed.kept_ hb.b0 (grownBy_putObj' W D (.deferred none)) (fun j ej => by cases ej; exact ⟨_, hK, rfl⟩)).cell
    have c1 := (Boxed.kept_ hb.b1 (grownBy_putObj' W D (.deferred none)) (fun j ej => by cases ej; exact ⟨_, hK, rfl⟩)).cell
    refine ⟨by simp, .inl ⟨_, _, rfl, run_takeDeferred hK, ?_⟩⟩
    have hBK := hB.trans (belowK_b (n₀ := w.heap.size) (w := w) (Nat.le_refl _) W D _ (.deferred none) (by omega) hK rfl rfl)
    refine ⟨.tuple #[.int .i64 0, .int .i64 4], ?_, by rw [hm], hBK⟩
    simp [results, Try.f20, go_sem, c0, c1]
end Go.Proofs.Ytljdkfgnoalgpaa

/- The row of SegLays, out of its walk: for every input the law returns true, and its arguments read as they did. Conditions: none beside the row's own reach. -/
import Derived.Test.YtljdkfgnoalgpaaRows
import Derived.Test.YtljdkfgnoalgpaaL06Lays
import Derived.Test.YtljdkfgnoalgpaaRowB
import Derived.Test.YtljdkfgnoalgpaaRowS
namespace Go.Proofs.Ytljdkfgnoalgpaa.segLays
open Go.ChangeShapes Go.WideShapes Go.ChangeAt Go.RowKit
open Go.ChangeMaps (open_string shut_string)
open Go.Proofs.YtljdkfgnoalgpaaW.PrintWords (sized_ints)
set_option linter.unusedVariables false
open Go.Joins Go.Deep in
theorem open_aggs9 {H : Type} {enc : TypeId × Value → H} {P : Program} {w : World} {base : Nat} {spare : Nat → Bool} {held : Bool} {r : Reach} {b0 : Nat} {t : TypeId} {f0 f1 f2 f3 f4 f5 f6 f7 f8 : Field} {v : Value} {d : DataW H} {p : List MemPlace} (hs : P.underlying t = some (.struct #[f0, f1, f2, f3, f4, f5, f6, f7, f8])) (hone : oneCellFields P #[f0, f1, f2, f3, f4, f5, f6, f7, f8] = true) (hC : P.cellsOf t = 9)
    (hv : Value.okWide P w r b0 t v) (h : DataW.Trod enc P w base spare held t v d p) :
    ∃ (v0 v1 v2 v3 v4 v5 v6 v7 v8 : Value) (y0 y1 y2 y3 y4 y5 y6 y7 y8 : DataW H × List MemPlace) (n : Nat), v = .agg #[v0, v1, v2, v3, v4, v5, v6, v7, v8] ∧ d = .agg [y0.1, y1.1, y2.1, y3.1, y4.1, y5.1, y6.1, y7.1, y8.1] ∧ DataW.trod enc P w base spare held n f0.type [v0] = some y0 ∧ DataW.trod enc P w base spare held n f1.type [v1] = some y1 ∧ DataW.trod enc P w base spare held n f2.type [v2] = some y2 ∧ DataW.trod enc P w base spare held n f3.type [v3] = some y3 ∧ DataW.trod enc P w base spare held n f4.type [v4] = some y4 ∧ DataW.trod enc P w base spare held n f5.type [v5] = some y5 ∧ DataW.trod enc P w base spare held n f6.type [v6] = some y6 ∧ DataW.trod enc P w base spare held n f7.type [v7] = some y7 ∧ DataW.trod enc P w base spare held n f8.type [v8] = some y8 := by
  obtain ⟨cs, rfl, hsz⟩ := okWide_struct hs hv
  obtain ⟨l⟩ := cs
  match l, hsz.trans hC with
  | [c0, c1, c2, c3, c4, c5, c6, c7, c8], _ =>
    obtain ⟨fuel, hf⟩ := h
    obtain ⟨xs, n, _, hx, _, hlen, hg⟩ := DataW.trod_struct hs hf
    obtain ⟨o0, k0⟩ := hone_of hone 0 f0 rfl
    obtain ⟨o1, k1⟩ := hone_of hone 1 f1 rfl
    obtain ⟨o2, k2⟩ := hone_of hone 2 f2 rfl
    obtain ⟨o3, k3⟩ := hone_of hone 3 f3 rfl
    obtain ⟨o4, k4⟩ := hone_of hone 4 f4 rfl
    obtain ⟨o5, k5⟩ := hone_of hone 5 f5 rfl
    obtain ⟨o6, k6⟩ := hone_of hone 6 f6 rfl
    obtain ⟨o7, k7⟩ := hone_of hone 7 f7 rfl
    obtain ⟨o8, k8⟩ := hone_of hone 8 f8 rfl
    match xs, hlen with
    | [y0, y1, y2, y3, y4, y5, y6, y7, y8], _ =>
      simp only [Prod.mk.injEq] at hx
      exact ⟨c0, c1, c2, c3, c4, c5, c6, c7, c8, y0, y1, y2, y3, y4, y5, y6, y7, y8, n, rfl, by simpa using hx.1, by simpa [Value.cells, o0, k0] using hg 0 f0 rfl, by simpa [Value.cells, o0, k0, o1, k1] using hg 1 f1 rfl, by simpa [Value.cells, o0, k0, o1, k1, o2, k2] using hg 2 f2 rfl, by simpa [Value.cells, o0, k0, o1, k1, o2, k2, o3, k3] using hg 3 f3 rfl, by simpa [Value.cells, o0, k0, o1, k1, o2, k2, o3, k3, o4, k4] using hg 4 f4 rfl, by simpa [Value.cells, o0, k0, o1, k1, o2, k2, o3, k3, o4, k4, o5, k5] using hg 5 f5 rfl, by simpa [Value.cells, o0, k0, o1, k1, o2, k2, o3, k3, o4, k4, o5, k5, o6, k6] using hg 6 f6 rfl, by simpa [Value.cells, o0, k0, o1, k1, o2, k2, o3, k3, o4, k4, o5, k5, o6, k6, o7, k7] using hg 7 f7 rfl, by simpa [Value.cells, o0, k0, o1, k1, o2, k2, o3, k3, o4, k4, o5, k5, o6, k6, o7, k7, o8, k8] using hg 8 f8 rfl⟩
set_option maxRecDepth 100000 in
theorem lifted (os : Os) (started : os.Started) (H : Type) (enc : TypeId × Value → H) :
    ReturnsInHanded {} Try.checked os 3 .any (Rows.segLaysSpec.pre6 enc Try.prog Try.f3 Rows.segLaysRow.domain false) (Rows.segLaysSpec.post enc Try.prog Try.f3 false true false false) := by
  refine returnsInHanded_of_change_sized (C := Try.checked) own started (by kernel_rfl) Try.func3
    (ChangeSpec.witness6 (enc := enc) (C := Try.checked) false ⟨#[], #[.agg #[.int .i64 0, .int .i64 0, .int .i64 0, .int .i64 0, .int .i64 0, .int .i64 0, .int .i64 0, .string ByteArray.empty, .slice none 0 0], .string ByteArray.empty, .string ByteArray.empty], []⟩ 8 (by kernel_rfl) (by kernel_rfl) (by kernel_rfl) (by kernel_rfl)) ?_
  intro W base args ds gs before hval0 hW hcnd hsz0 _
  have hsz : (DataW.weightsEach Try.prog (Try.f3.params.toList ++ Rows.segLaysSpec.plain.varTypes Try.prog) (ds ++ gs)).all (· ≤ reachBytes) = true := hsz0
  have hval : ∀ (j : Nat) t v, Try.f3.params[j]? = some t → args[j]? = some v → Value.okWide Try.prog W .any base t v := hval0
  have hW' := hW
  obtain ⟨p, q, hA0, hV, rfl, hfz, hnd⟩ := hW
  have hA : DataW.TrodAll enc Try.prog W 0 (fun _ => true) true Try.f3.params.toList args.toList ds p := hA0
  rw [Try.params3] at hA hval hsz
  obtain ⟨v0, vs0, d0, ds0, p0, q0, hargs, rfl, rfl, h0, r0⟩ := trodAll_cons hA
  obtain ⟨v1, vs1, d1, ds1, p1, q1, rfl, rfl, rfl, h1, r1⟩ := trodAll_cons r0
  obtain ⟨v2, vs2, d2, ds2, p2, q2, rfl, rfl, rfl, h2, r2⟩ := trodAll_cons r1
  obtain ⟨rfl, rfl, rfl⟩ := trodAll_nil r2
  obtain rfl : args = #[v0, v1, v2] := by cases args; simp_all
  obtain ⟨rfl, rfl⟩ := trodVars_none hV
  have k0 := h0
  have lt0 : ∀ x ∈ p0, x.block < W.heap.size := by obtain ⟨m, hm⟩ := k0; exact DataW.trod_lt m _ _ _ hm
  obtain ⟨c0_0, c0_1, c0_2, c0_3, c0_4, c0_5, c0_6, c0_7, c0_8, y0_0, y0_1, y0_2, y0_3, y0_4, y0_5, y0_6, y0_7, y0_8, m0, rfl, rfl, g0_0, g0_1, g0_2, g0_3, g0_4, g0_5, g0_6, g0_7, g0_8⟩ := open_aggs9 Try.underlying24 (by kernel_rfl) (by kernel_rfl) (hval 0 24 v0 rfl rfl) h0
  have hz0 := sized_agg hsz (j := 0) rfl rfl Try.underlying24
  obtain ⟨a0_0, e0_0, rfl, w0_0⟩ := DataW.trod_int Try.underlying3 g0_0
  injection e0_0 with e0_0
  subst e0_0
  obtain ⟨a0_1, e0_1, rfl, w0_1⟩ := DataW.trod_int Try.underlying3 g0_1
  injection e0_1 with e0_1
  subst e0_1
  obtain ⟨a0_2, e0_2, rfl, w0_2⟩ := DataW.trod_int Try.underlying3 g0_2
  injection e0_2 with e0_2
  subst e0_2
  obtain ⟨a0_3, e0_3, rfl, w0_3⟩ := DataW.trod_int Try.underlying3 g0_3
  injection e0_3 with e0_3
  subst e0_3
  obtain ⟨a0_4, e0_4, rfl, w0_4⟩ := DataW.trod_int Try.underlying3 g0_4
  injection e0_4 with e0_4
  subst e0_4
  obtain ⟨a0_5, e0_5, rfl, w0_5⟩ := DataW.trod_int Try.underlying3 g0_5
  injection e0_5 with e0_5
  subst e0_5
  obtain ⟨a0_6, e0_6, rfl, w0_6⟩ := DataW.trod_int Try.underlying3 g0_6
  injection e0_6 with e0_6
  subst e0_6
  obtain ⟨a0_7, e0_7, rfl, _⟩ := DataW.trod_string Try.underlying9 g0_7
  injection e0_7 with e0_7
  subst e0_7
  have w0_7 : a0_7.size ≤ 140737488351232 := by
    have z := sized_string hz0 (j := 7) (t := 9) rfl rfl
    rw [Array.length_toList] at z
    exact z
  obtain ⟨a0_8, len0_8, cap0_8, z0_8, rfl, w0_8, t0_8⟩ := row_of_field Try.underlying22 Try.underlying5 (by kernel_rfl) g0_8
  have s0_8 : len0_8 * 1 ≤ 140737488351232 := sized_ints hz0 (j := 8) (t := 22) rfl rfl Try.underlying22 Try.underlying5 (by kernel_rfl) (by kernel_rfl) t0_8
  obtain ⟨a1, rfl, rfl, rfl, y1⟩ := open_string Try.underlying9 (hval 1 9 v1 rfl rfl) h1
  have w1 : a1.size ≤ 140737488351232 := by
    have z := sized_string hsz (j := 1) (t := 9) rfl rfl
    rw [Array.length_toList] at z
    exact z
  obtain ⟨a2, rfl, rfl, rfl, y2⟩ := open_string Try.underlying9 (hval 2 9 v2 rfl rfl) h2
  have w2 : a2.size ≤ 140737488351232 := by
    have z := sized_string hsz (j := 2) (t := 9) rfl rfl
    rw [Array.length_toList] at z
    exact z
  clear hA0 hval0 hsz0 hsz
  refine (SegLays_any a0_0 a0_1 a0_2 a0_3 a0_4 a0_5 a0_6 a0_7 a0_8 len0_8 cap0_8 _ a1 a2 W (i64_of_wf w0_0) (i64_of_wf w0_1) (i64_of_wf w0_2) (i64_of_wf w0_3) (i64_of_wf w0_4) (i64_of_wf w0_5) (i64_of_wf w0_6) w0_7 (Bts.of_row w0_8 s0_8) w1 w2).mono fun e W' ⟨he, bel⟩ => ?_
  subst he
  exact ⟨_, rfl, _, _, _, [], _, [], hW', trodAll_mk1 (shut_bool Try.underlying4 _), (trodAll_cons_mk (Below.trod laidOut (by kernel_rfl) (of_decide_eq_true (by kernel_rfl)) k0 bel lt0) (trodAll_cons_mk (shut_string Try.underlying9 y1) (trodAll_cons_mk (shut_string Try.underlying9 y2) trodAll_mk0))), rfl, bel.frame _, fun h => by cases h⟩
theorem over : Rows.segLaysRow.holds Try.pinned (OpenSpec.ofChange Rows.segLaysSpec) :=
  OpenClaim.holds_of_wide 3 Try.f3 rfl rfl rfl rfl rfl rfl rfl ⟨rfl, rfl, rfl, rfl, rfl⟩ rfl rfl rfl rfl rfl (by kernel_rfl) Try.func3 (by kernel_rfl)
    (of_decide_eq_true (by kernel_rfl)) (by unfold Func.isWrapper; first | (rw [if_pos (by decide +kernel)]; kernel_rfl) | (rw [if_neg (by decide +kernel)]; exact ⟨rfl, rfl⟩))
    (fun os started H enc _ => lifted os started H enc)
theorem proved : Rows.SegLaysSaid := over
end Go.Proofs.Ytljdkfgnoalgpaa.segLays
namespace Go.Proofs.Ytljdkfgnoalgpaa
theorem segLays_holds : Rows.SegLaysSaid := segLays.proved
#print axioms segLays_holds
end Go.Proofs.Ytljdkfgnoalgpaa

/- The row of DigestOf, out of its walk: for every input the law returns true, and its arguments read as they did. Conditions: none beside the row's own reach. -/
import Derived.Test.YtaooibcihjkhfaaDoorRowB
import Derived.Deep.Matrix
import Derived.Test.YtaooibcihjkhfaaDoorRows
import Derived.Test.YtaooibcihjkhfaaDoorOfAll
import Derived.Test.YtaooibcihjkhfaaDoorRowD
namespace Go.Proofs.YtaooibcihjkhfaaDoor
open Go.ChangeShapes Go.WideShapes Go.ChangeAt Go.RowKit
theorem weights_of_elem {H : Type} {P : Program} {e : TypeId} : ∀ {l : List (DataW H)} {d : DataW H}, d ∈ l → ∀ n ∈ d.weights P e, n ∈ DataW.weightsAll P e l
  | d' :: r, d, hd, n, hn => by
    simp only [DataW.weightsAll, List.mem_append]
    rcases List.mem_cons.1 hd with rfl | h
    · exact Or.inl hn
    · exact Or.inr (weights_of_elem h n hn)
/-- A slice of slices of bytes that came in is read row by row. -/
theorem rws_of_trod {H : Type} {enc : TypeId × Value → H} {P : Program} {W : World} {t e q : TypeId} {a : Option Addr} {len cap : Nat} {d : DataW H} {ps : List MemPlace} {ts : List TypeId} {ds : List (DataW H)} {j : Nat}
    (hsz : (DataW.weightsEach P ts ds).all (· ≤ reachBytes) = true) (ht : ts[j]? = some t) (hd : ds[j]? = some d) (hu : P.underlying t = some (.slice e)) (he : P.underlying e = some (.slice q)) (hq : P.underlying q = some (.int .u8))
    (ce : P.cellsOf e = 1) (cq : P.cellsOf q = 1) (be : P.bytesOf e = 24) (bq : P.bytesOf q = 1)
    (h : DataW.Trod enc P W 0 (fun _ => true) true t (.slice a len cap) d ps) : ∃ ls, Rws W a len cap ls := by
  obtain ⟨fuel, hf⟩ := h
  rcases Go.Deep.open_int_rows hu he hq ce cq hf with ⟨hcs, _⟩ | ⟨x, l, c, A, L, C, Z, hcs, _, hl, hm, hx, hrows⟩
  · simp [Value.cells] at hcs
    obtain ⟨rfl, rfl, rfl⟩ := hcs
    exact ⟨[], rfl, Nat.le_refl _, by omega, fun i hi => absurd hi (Nat.not_lt_zero _)⟩
  · simp [Value.cells] at hcs
    obtain ⟨rfl, rfl, rfl⟩ := hcs
    obtain ⟨hx1, _⟩ := Prod.mk.inj hx
    have hR : reachBytes = 140737488351232 := rfl
    have z := sized_slice hsz ht (by rw [hd, hx1]) hu
    rw [be, hR] at z
    simp only [List.length_map, List.length_range] at z
    refine ⟨(List.range len).map fun r => (Z r).take (L r), by simp, hl, by omega, fun i hi => ?_⟩
    obtain ⟨r0, r1, r2, r3, r4, r5, r6⟩ := hrows i (by omega)
    have eg : ((List.range len).map fun r => (Z r).take (L r)).getD i [] = (Z i).take (L i) := by
      simp [List.getD_eq_getElem?_getD, hi]
    rw [eg]
    refine ⟨x, A i, L i, C i, rfl, r0, ?_⟩
    unfold maxLen at r2
    have hbyt : Byt ((Z i).take (L i)) := byt_take (fun n hn => u8_of_wf (r4 n hn)) _
    cases hA : A i with
    | none =>
      have hC := r5 hA
      have hL : L i = 0 := by omega
      rw [hL, hC]
      simpa using Bts.nil_ none 0 W (by omega)
    | some a' =>
      have hin : Go.Deep.intRow (H := H) .u8 (A i) (L i) (Z i) ∈ (List.range len).map fun r => Go.Deep.intRow (H := H) .u8 (A r) (L r) (Z r) := List.mem_map.2 ⟨i, List.mem_range.2 hi, rfl⟩
      have hw := of_decide_eq_true (List.all_eq_true.1 hsz (((lits (H := H) .u8 ((Z i).take (L i))).length + (lits (H := H) .u8 ((Z i).drop (L i))).length) * P.bytesOf q) (DataW.weights_mem_each ht (by rw [hd, hx1]) _ (by
        simp only [DataW.weights, hu, List.mem_cons, List.mem_append]
        refine Or.inr (Or.inl (weights_of_elem hin _ ?_))
        rw [hA]
        simp [Go.Deep.intRow, DataW.weights, he])))
      rw [bq, hR] at hw
      have hlen : L i ≤ 140737488351232 := by
        simp [lits] at hw
        omega
      obtain ⟨_, hcell⟩ := r6 a' hA
      refine ⟨⟨by rw [List.length_take]; omega, by omega, fun _ => ⟨a', rfl, fun m hm' => ?_⟩⟩, r1, by omega, by omega, hbyt⟩
      rw [hcell m (by omega)]
      simp [List.getD_eq_getElem?_getD, hm']
end Go.Proofs.YtaooibcihjkhfaaDoor

namespace Go.Proofs.YtaooibcihjkhfaaDoor.digestOf
open Go.ChangeShapes Go.WideShapes Go.ChangeAt Go.RowKit
open Go.ChangeMaps (open_string shut_string)
open Go.Proofs.YtaooibcihjkhfaaDoorW.PrintWords (sized_ints)
set_option linter.unusedVariables false
set_option maxRecDepth 100000 in
theorem lifted (os : Os) (started : os.Started) (H : Type) (enc : TypeId × Value → H) :
    ReturnsInHanded {} Tryd.checked os 3 .any (fun w args => (Rows.digestOfSpec.pre enc Tryd.prog Tryd.f3 [] false w args ∧ laidMetH Tryd.prog laidD w) ∧ sizedMet enc Tryd.prog Tryd.f3 (OpenSpec.ofChange Rows.digestOfSpec) false w args) (Rows.digestOfSpec.post enc Tryd.prog Tryd.f3 false true false false) := by
  refine returnsInHanded_of_change_and (C := Tryd.checked) (X := fun w _ => laidMetH Tryd.prog laidD w) (fun _ _ _ hh h => h.of_heap hh) own started (by kernel_rfl) Tryd.func3
    (ChangeSpec.witness_shaped (enc := enc) (C := Tryd.checked) (os := os) (X := fun w _ => laidMetH Tryd.prog laidD w) false (World.doorLaid Tryd.prog 14 os) #[.slice none 0 0] 8 rfl (World.shaped_of_RefB (by kernel_rfl) (by kernel_rfl)) (by kernel_rfl) (by kernel_rfl) (by kernel_rfl) (door_met os _)) ?_
  intro W base args ds gs before hval0 hW hcnd hsz0 hL _
  have hsz : (DataW.weightsEach Tryd.prog (Tryd.f3.params.toList ++ Rows.digestOfSpec.plain.varTypes Tryd.prog) (ds ++ gs)).all (· ≤ reachBytes) = true := hsz0
  have hval : ∀ (j : Nat) t v, Tryd.f3.params[j]? = some t → args[j]? = some v → Value.okWide Tryd.prog W .any base t v := hval0
  have hW' := hW
  obtain ⟨p, q, hA0, hV, rfl, hfz, hnd⟩ := hW
  have hA : DataW.TrodAll enc Tryd.prog W 0 (fun _ => true) true Tryd.f3.params.toList args.toList ds p := hA0
  rw [Tryd.params3] at hA hval hsz
  obtain ⟨v0, vs0, d0, ds0, p0, q0, hargs, rfl, rfl, h0, r0⟩ := trodAll_cons hA
  obtain ⟨rfl, rfl, rfl⟩ := trodAll_nil r0
  obtain rfl : args = #[v0] := by cases args; simp_all
  obtain ⟨rfl, rfl⟩ := trodVars_none hV
  obtain ⟨a0, len0, cap0, rfl⟩ := okWide_slice Tryd.underlying22 (hval 0 22 v0 rfl rfl)
  have k0 := h0
  have lt0 : ∀ x ∈ p0, x.block < W.heap.size := by obtain ⟨m, hm⟩ := k0; exact DataW.trod_lt m _ _ _ hm
  obtain ⟨ls0, w0⟩ := rws_of_trod hsz (j := 0) (t := 22) rfl rfl Tryd.underlying22 Tryd.underlying23 Tryd.underlying5 (by kernel_rfl) (by kernel_rfl) (by kernel_rfl) (by kernel_rfl) h0
  clear hA0 hval0 hsz0 hsz
  refine (DigestOf_any a0 len0 cap0 _ W (tab_of_laid hL) w0).mono fun e W' ⟨he, bel⟩ => ?_
  subst he
  exact ⟨_, rfl, _, _, _, [], _, [], hW', trodAll_mk1 (shut_bool Tryd.underlying4 _), (trodAll_cons_mk (Below.trod laidOut (by kernel_rfl) (of_decide_eq_true (by kernel_rfl)) k0 bel lt0) trodAll_mk0), rfl, bel.frame _, fun h => by cases h⟩
theorem over : Rows.digestOfRow.holds Tryd.pinned (OpenSpec.ofChange Rows.digestOfSpec) :=
  OpenClaim.holds_of_wide 3 Tryd.f3 rfl rfl rfl rfl rfl rfl rfl ⟨rfl, rfl, rfl, rfl, rfl⟩ rfl rfl rfl rfl rfl (by kernel_rfl) Tryd.func3 (by kernel_rfl)
    (of_decide_eq_true (by kernel_rfl)) (by unfold Func.isWrapper; first | (rw [if_pos (by decide +kernel)]; kernel_rfl) | (rw [if_neg (by decide +kernel)]; exact ⟨rfl, rfl⟩))
    (fun os started H enc _ => lifted os started H enc)
theorem card : Rows.DigestOfCardSaid :=
  Claim7.holds_tied_plain_at .later [] [.data] true (true, "c2047b8275ff4aa356a624dec0aa81c70d276b39076714eb5f1ac39e7ad4596d") false
    over (fun _ h => by cases h) (by kernel_rfl) (fun _ h => by cases h) digestOf_row_tie rfl ⟨rfl, rfl⟩ (by kernel_rfl) rfl
    (fun f fn hf hfn => by
      obtain rfl : f = 3 := Option.some.inj ((show Tryd.prog.funcNamed "redoubt/redoubtlaw10.DigestOf" = some 3 by kernel_rfl).symm.trans hf) |>.symm
      obtain rfl : fn = Tryd.f3 := (Option.some.inj (Tryd.func3.symm.trans hfn)).symm
      exact ⟨by kernel_rfl, fun j t ht => by
        rw [Tryd.params3] at ht
        have hm : t ∈ [22] := by simpa using Array.mem_of_getElem? ht
        have hall : ([22].all fun u => !Tryd.prog.wantsStandIn u) = true := by kernel_rfl
        exact (show Tryd.prog.wantsStandIn t = false by simpa using List.all_eq_true.1 hall t hm)⟩)
    (by kernel_rfl)
end Go.Proofs.YtaooibcihjkhfaaDoor.digestOf
namespace Go.Proofs.YtaooibcihjkhfaaDoor
theorem digestOf_holds : Rows.DigestOfCardSaid := digestOf.card
#print axioms digestOf_holds
end Go.Proofs.YtaooibcihjkhfaaDoor

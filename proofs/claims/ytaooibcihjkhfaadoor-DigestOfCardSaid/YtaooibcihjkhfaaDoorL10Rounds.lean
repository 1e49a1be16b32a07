/- DigestRounds holds: constants, a block's words, and a block in a state, are just the document's, or refused. Conditions: the constants are laid. -/
import Derived.Test.YtaooibcihjkhfaaDoorAwake10
import Derived.Test.YtaooibcihjkhfaaDoorDigRefs
namespace Go.Proofs.YtaooibcihjkhfaaDoor
set_option linter.unusedSimpArgs false
set_option linter.unusedVariables false
open Go.RowKit Go.Proofs.YtaooibcihjkhfaaDoorW.PrintWords Go.Proofs.YtaooibcihjkhfaaDoor.PDigestRounds

theorem Bts.toC {w : World} {A : Option Addr} {n c : Nat} {xs : List Int} (h : Bts w A n c xs) : Kd.C (Kd.int .u8) w A n xs := Kd.C_of_reads (d := 0) h.rd
theorem Its.toC {w : World} {A : Option Addr} {n c : Nat} {xs : List Int} (h : Its w A n c xs) : Kd.C (Kd.int .i64) w A n xs := Kd.C_of_reads (d := 0) h.rd
theorem OwnI.ofR {w : World} {base : Nat} {ok : Nat → Prop} {v : Value} {xs : List Int} (h : Kd.R (Kd.int .i64) 3 w base ok v xs) (hb : ∀ x ∈ xs, I64 x) (hm : xs.length ≤ 1000000) : OwnI w base v xs := ⟨Kd.own_of_R h, hm, hb⟩
theorem all32_i64 {l : List Int} (h : All32 l) : ∀ x ∈ l, I64 x := fun x hx => w32_i64 (h x hx)
theorem ref10_Words (B : Option Addr) (m d : Nat) (b : List Int) (w : World) (h : Bts w B m d b) :
    Calls Tryd.prog 15 #[.slice B m d] w (IntsPost (wordsErr m) (wordsS b) w) := by
  obtain rfl := h.len
  refine (redoubtref10_Words.calls 95 B d b _ _ w h.toC h.le (refWords b h.byt 95 (Nat.le_refl _))).mono ?_
  rintro e w' ⟨v, rfl, hR, hB⟩
  have e1 : (if b.length = 64 then (0 : Int) else 1) = wordsErr b.length := rfl
  have O : OwnI w' w.heap.size v (if b.length = 64 then wordsS b else []) := OwnI.ofR hR (by
    split
    · exact all32_i64 (wordsL_w h.byt 64)
    · intro x hx; simp at hx) (by
    split
    · rw [show (wordsS b).length = 64 from wordsL_len b 64]; decide
    · simp)
  obtain ⟨A', n', c', rfl, I⟩ := O.its
  refine ⟨A', n', c', rfl, ?_, hB⟩
  have e2 : (if wordsErr b.length = 0 then wordsS b else []) = (if b.length = 64 then wordsS b else []) := by
    unfold wordsErr
    by_cases q : b.length = 64
    · rw [if_pos q, if_pos q, if_pos rfl]
    · rw [if_neg q, if_neg q, if_neg (by decide)]
  rw [e2]
  exact I
theorem ref10_Round (A : Option Addr) (n c : Nat) (st : List Int) (B : Option Addr) (m d : Nat) (b : List Int) (w : World) (hS : Its w A n c st) (h : Bts w B m d b) (hn : n ≤ 40) :
    Calls Tryd.prog 16 #[.slice A n c, .slice B m d] w (IntsPost (roundErr st m) (addS st b) w) := by
  obtain rfl := h.len
  obtain rfl := hS.len
  refine (redoubtref10_Round.calls 120 A c st B d b _ _ w hS.toC hS.le h.toC h.le (refRound st b hn h.byt 120 (Nat.le_refl _))).mono ?_
  rintro e w' ⟨v, rfl, hR, hB⟩
  have O : OwnI w' w.heap.size v (if roundErr st b.length = 0 then addS st b else []) := OwnI.ofR hR (by
    by_cases q : st.length = 8 ∧ b.length = 64 ∧ st.all okW = true
    · rw [show roundErr st b.length = 0 from if_pos q, if_pos rfl]
      exact all32_i64 (addS_w b (all32_of q.2.2))
    · rw [show roundErr st b.length = 1 from if_neg q, if_neg (by decide)]
      intro x hx; simp at hx) (by
    by_cases q : st.length = 8 ∧ b.length = 64 ∧ st.all okW = true
    · rw [show roundErr st b.length = 0 from if_pos q, if_pos rfl, addS_len b q.1]; decide
    · rw [show roundErr st b.length = 1 from if_neg q, if_neg (by decide)]; simp)
  obtain ⟨A', n', c', rfl, I⟩ := O.its
  exact ⟨A', n', c', rfl, I, hB⟩
theorem ref10_Ints (A : Option Addr) (n c : Nat) (B : Option Addr) (m d : Nat) (xs : List Int) (w : World) (h : Its w A n c xs) (k : Its w B m d xs) (hn : n ≤ 1000) :
    Calls Tryd.prog 17 #[.slice A n c, .slice B m d] w fun e w' => e = .returned (.bool true) ∧ Below w.heap.size w w' := by
  obtain rfl := h.len
  obtain rfl := k.len
  refine (redoubtref10_Ints.calls (xs.length + 1) A c xs B d xs true w h.toC h.le k.toC k.le (refInts xs hn _ (Nat.le_refl _))).mono ?_
  rintro e w' ⟨he, ⟨q, rfl⟩⟩
  exact ⟨he, pw_below_drewN (Below.refl _ _) q⟩
theorem ref10_Constant (x : Int) (w : World) :
    Calls Tryd.prog 18 #[.int .i64 x] w fun e w' => e = .returned (.int .i64 (constS x)) ∧ Below w.heap.size w w' :=
  redoubtref10_Constant.calls x (constS x) w (refConstant x)
theorem ints_len {err : Int} {xs : List Int} {w : World} {A : Option Addr} {n c : Nat} (h : Its w A n c (if err = 0 then xs else [])) (hl : xs.length ≤ 1000) : n ≤ 1000 := by
  have := h.len
  split at this
  · omega
  · simp at this; omega


set_option maxHeartbeats 4000000 in
theorem DigestRounds_any (x : Int) (A : Option Addr) (n c : Nat) (st : List Int) (B : Option Addr) (m d : Nat) (b : List Int) (w : World) (hT : Tab w) (_hx : I64 x) (hS : Its w A n c st) (h : Bts w B m d b) :
    Calls Tryd.prog 6 #[.int .i64 x, .slice A n c, .slice B m d] w fun e w' => e = .returned (.bool true) ∧ Below w.heap.size w w' := by
  by_cases q1 : 40 < n
  · have d1 : decide ((40 : Int) < (n : Int)) = true := decide_eq_true (by omega)
    go_enter Tryd.func6, Tryd.ntmps6
    go_wp2
    go_ret
    exact ⟨rfl, Below.refl _ _⟩
  have d1 : decide ((40 : Int) < (n : Int)) = false := decide_eq_false (by omega)
  by_cases q2 : 300 < m
  · have d2 : decide ((300 : Int) < (m : Int)) = true := decide_eq_true (by omega)
    go_enter Tryd.func6, Tryd.ntmps6
    go_wp2
    go_ret
    exact ⟨rfl, Below.refl _ _⟩
  have d2 : decide ((300 : Int) < (m : Int)) = false := decide_eq_false (by omega)
  have hsl := hS.len
  go_enter Tryd.func6, Tryd.ntmps6
  go_wp2_with (at_builtin; refine hid_stop ?_)
  refine Lib.hid ?_
  have hB0 := below_alloc (Below.refl w.heap.size w) (.cells #[] 3)
  have O0 : OwnI (w.alloc (.cells #[] 3)) w.heap.size (.slice (some ⟨w.heap.size, 0, none⟩) 0 0) [] := ⟨own_lit w w.heap.size 3 .i64 [] (Nat.le_refl _) (by simp), by simp, fun x hx => by simp at hx⟩
  refine append_ownI (w0 := w) w.heap.size rfl (.tmp 25) (.tmp 26) 31 rfl Tryd.underlying31 infoI _ [] st A n c rfl rfl O0 (hS.below hB0).rd hS.rng hB0 hB0.size (by simp; omega) ?_
  intro A1 n1 c1 w1 O1 hn1 hB
  have I1 : Its w1 A1 n1 c1 st := by
    obtain ⟨A', n', c', e, I⟩ := O1.its
    injection e with e1 e2 e3
    subst e1 e2 e3
    exact I
  have hn1' : n1 = n := by have := I1.len; omega
  subst hn1'
  clear O0 O1 hB0 hn1
  replace hS := hS.below hB
  replace h := h.below hB
  obtain ⟨E, hE⟩ : ∃ E, wordsErr m = E := ⟨_, rfl⟩
  obtain ⟨F, hF⟩ : ∃ F, roundErr st m = F := ⟨_, rfl⟩
  have hl1 := wordsL_len b 64
  have hl2 : (if F = 0 then addS st b else []).length ≤ 1000 := by
    split
    · next q =>
      have h8 : st.length = 8 := by
        by_cases q8 : st.length = 8
        · exact q8
        · exfalso
          have e1 : roundErr st m = 1 := if_neg (fun z => q8 z.1)
          omega
      rw [addS_len b h8]; decide
    · simp
  replace hl2 := Lib.hid hl2
  replace hE := Lib.hid hE
  replace hF := Lib.hid hF
  go_wp2_with fail
  refine (ref01_Both _ _ _ [b] _ (Rws.one _ _ 23 rfl h) (by simp; have := h.len; omega)).mono ?_
  rintro e w2 ⟨v2, rfl, o2, hB2⟩
  simp only [List.flatten_cons, List.flatten_nil, List.append_nil] at o2
  obtain ⟨A2, n2, c2, rfl, T⟩ := o2.bts
  obtain rfl : n2 = m := by have := T.len; have := h.len; omega
  clear o2
  replace hB2 := below_step2 (w := w1) (below_alloc (Below.refl _ _) _) hB2
  replace hS := hS.below hB2
  replace h := h.below hB2
  replace I1 := I1.below hB2
  replace hB := below_step2 hB hB2
  clear hB2
  go_wp2_with fail
  refine (dig_Words A2 n2 c2 b w2 T).mono ?_
  rintro e w3 ⟨A3, n3, c3, rfl, I3, hB3⟩
  rw [hE.out] at I3 ⊢
  replace hS := hS.below hB3
  replace h := h.below hB3
  replace I1 := I1.below hB3
  replace T := T.below hB3
  replace hB := below_step2 hB hB3
  clear hB3
  go_wp2_with fail
  refine (ref10_Words B n2 d b w3 h).mono ?_
  rintro e w4 ⟨A4, n4, c4, rfl, I4, hB4⟩
  rw [hE.out] at I4 ⊢
  replace hS := hS.below hB4
  replace h := h.below hB4
  replace I1 := I1.below hB4
  replace T := T.below hB4
  replace I3 := I3.below hB4
  replace hB := below_step2 hB hB4
  clear hB4
  have T4 := hT.below hB
  go_wp2_with fail
  refine (dig_Round A1 n1 c1 st A2 n2 c2 b w4 I1 T T4).mono ?_
  rintro e w5 ⟨A5, n5, c5, rfl, I5, hB5⟩
  rw [hF.out] at I5 ⊢
  clear T4
  replace hS := hS.below hB5
  replace h := h.below hB5
  replace I1 := I1.below hB5
  replace T := T.below hB5
  replace I3 := I3.below hB5
  replace I4 := I4.below hB5
  replace hB := below_step2 hB hB5
  clear hB5
  go_wp2_with fail
  refine (ref10_Round A n1 c st B n2 d b w5 hS h (by omega)).mono ?_
  rintro e w6 ⟨A6, n6, c6, rfl, I6, hB6⟩
  rw [hF.out] at I6 ⊢
  replace hS := hS.below hB6
  replace h := h.below hB6
  replace I1 := I1.below hB6
  replace T := T.below hB6
  replace I3 := I3.below hB6
  replace I4 := I4.below hB6
  replace I5 := I5.below hB6
  replace hB := below_step2 hB hB6
  clear hB6
  have T6 := hT.below hB
  go_wp2_with fail
  refine (awake10 w6 T6).mono ?_
  rintro e w7 ⟨rfl, hB7⟩
  clear T6
  replace hS := hS.below hB7
  replace h := h.below hB7
  replace I1 := I1.below hB7
  replace T := T.below hB7
  replace I3 := I3.below hB7
  replace I4 := I4.below hB7
  replace I5 := I5.below hB7
  replace I6 := I6.below hB7
  replace hB := below_step2 hB hB7
  clear hB7
  go_wp2_with fail
  refine (ref10_Ints A1 n1 c1 A n1 c st w7 I1 hS (by omega)).mono ?_
  rintro e w8 ⟨rfl, hB8⟩
  replace h := h.below hB8
  replace T := T.below hB8
  replace I3 := I3.below hB8
  replace I4 := I4.below hB8
  replace I5 := I5.below hB8
  replace I6 := I6.below hB8
  replace hB := below_step2 hB hB8
  clear hB8
  have T8 := hT.below hB
  have r1 := T.run_string (P := Tryd.prog) 23 9 Tryd.underlying23 Tryd.underlying5 Tryd.underlying9
  have r2 := h.run_string (P := Tryd.prog) 23 9 Tryd.underlying23 Tryd.underlying5 Tryd.underlying9
  go_wp2_with fail
  refine (dig_Constant x w8 T8).mono ?_
  rintro e w' ⟨rfl, rfl⟩
  go_wp2_with fail
  refine (ref10_Constant x w8).mono ?_
  rintro e w9 ⟨rfl, hB9⟩
  clear r1 r2 T8 h T
  replace I3 := I3.below hB9
  replace I4 := I4.below hB9
  replace I5 := I5.below hB9
  replace I6 := I6.below hB9
  replace hB := below_step2 hB hB9
  clear hB9
  generalize constS x = cx
  have l3 := I3.len
  have l4 := I4.len
  have l5 := I5.len
  have l6 := I6.len
  have hlw : (if E = 0 then wordsS b else []).length ≤ 1000 := by
    split
    · rw [show (wordsS b).length = 64 from hl1]; decide
    · simp
  have hlr := hl2.out
  generalize (if E = 0 then wordsS b else []) = ws at I3 I4 l3 l4 hlw
  generalize (if F = 0 then addS st b else []) = rs at I5 I6 l5 l6 hlr
  have m3 : n3 ≤ 1000 := by omega
  have m5 : n5 ≤ 1000 := by omega
  clear l3 l4 l5 l6 hlw hlr hl2 hl1 hE hF hsl
  go_wp2_with fail
  refine (ref10_Ints A3 n3 c3 A4 n4 c4 ws w9 I3 I4 m3).mono ?_
  rintro e w10 ⟨rfl, hB10⟩
  replace I5 := I5.below hB10
  replace I6 := I6.below hB10
  replace hB := below_step2 hB hB10
  clear hB10
  clear I3 I4 m3
  go_wp2_with fail
  refine (ref10_Ints A5 n5 c5 A6 n6 c6 rs w10 I5 I6 m5).mono ?_
  rintro e w11 ⟨rfl, hB11⟩
  replace hB := below_step2 hB hB11
  clear hB11
  clear I5 I6 m5
  go_wp2
  go_ret
  exact ⟨rfl, hB⟩
end Go.Proofs.YtaooibcihjkhfaaDoor

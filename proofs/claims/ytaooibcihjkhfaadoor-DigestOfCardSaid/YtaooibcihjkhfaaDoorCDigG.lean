/- Contracts of the words of a block, and of a round. Conditions: those that each lemma states. -/
import Derived.Test.YtaooibcihjkhfaaDoorCDigF
import Derived.Test.YtaooibcihjkhfaaDoorOwnI
namespace Go.Proofs.YtaooibcihjkhfaaDoor
set_option linter.unusedSimpArgs false
set_option linter.unusedVariables false
open Go.RowKit Go.Proofs.YtaooibcihjkhfaaDoorW.PrintWords

/-- A row of numbers, or none; an error. -/
def IntsPost (err : Int) (xs : List Int) (w : World) (e : Ending) (w' : World) : Prop :=
  ∃ A n c, e = .returned (.tuple #[.slice A n c, .int .i64 err]) ∧ Its w' A n c (if err = 0 then xs else []) ∧ Below w.heap.size w w'
theorem its_nil (w : World) : Its w none 0 0 [] := ⟨⟨rfl, by omega, fun h => absurd h (Nat.lt_irrefl 0)⟩, Nat.le_refl _, by omega, by omega, fun x hx => by simp at hx⟩
theorem w32_i64 {x : Int} (h : W32 x) : I64 x := by unfold W32 at h; unfold I64; omega
def wordsErr (m : Nat) : Int := if m = 64 then 0 else 1
theorem take_snoc (l : List Int) (i : Nat) (h : i < l.length) : l.take (i + 1) = l.take i ++ [l.getD i 0] := by
  rw [List.take_succ_eq_append_getElem h, List.getD_eq_getElem?_getD, List.getElem?_eq_getElem h]
  rfl

set_option maxHeartbeats 2000000 in
set_option maxRecDepth 100000 in
theorem dig_Words (B : Option Addr) (m d : Nat) (b : List Int) (w : World) (h : Bts w B m d b) :
    Calls Tryd.prog 14 #[.slice B m d] w (IntsPost (wordsErr m) (wordsS b) w) := by
  by_cases h64 : m = 64
  case neg =>
    have e : wordsErr m = 1 := if_neg h64
    have d0 : ((m : Int) != 64) = true := bne_iff_ne.mpr (by omega)
    rw [e]
    go_enter Tryd.func14, Tryd.ntmps14
    go_wp2
    go_ret2
    exact ⟨_, _, _, rfl, its_nil _, Below.refl _ _⟩
  subst h64
  have e : wordsErr 64 = 0 := rfl
  rw [e]
  have hl : (wordsS b).length = 64 := wordsL_len b 64
  have hw : All32 (wordsS b) := wordsL_w h.byt 64
  have hwd := Lib.hid (dig_words B d b w h)
  obtain ⟨ws, hws⟩ : ∃ ws, wordsS b = ws := ⟨_, rfl⟩
  rw [hws] at hl hw hwd ⊢
  clear hws
  go_enter Tryd.func14, Tryd.ntmps14
  go_wp2_with fail
  refine hwd.out.mono ?_
  clear hwd
  rintro e w1 ⟨rfl, hB1⟩
  have hix := Lib.hid (fun (k : Nat) (hk : k < 64) (W : World) => indexW 51 64 ws k hk hl Tryd.underlying51 W)
  replace hB1 := Lib.hid hB1
  replace hl := Lib.hid hl
  replace hw := Lib.hid hw
  go_wp2
  go_loopw [12, 4] (fun vi vo wr => ∃ (i : Nat) (A : Option Addr) (n c : Nat), vi = .int .i64 (i : Int) ∧ vo = .slice A n c ∧ i ≤ 64 ∧ Hid (OwnI wr w.heap.size (.slice A n c) (ws.take i)) ∧ Hid (Below w.heap.size w wr)) (fun vi _ _ => (64 - intOf vi).toNat)
  case atStart => exact ⟨0, none, 0, 0, rfl, rfl, by omega, Lib.hid (OwnI.nil_ _ _), hB1⟩
  case round =>
    clear hB1
    obtain ⟨i, A, n, c, rfl, rfl, hi, O, HB⟩ := hrel
    by_cases h0 : i < 64
    · have i0 : (i : Int) < 64 := by omega
      have hixi := fun W => hix.out i h0 W
      have wx := all32_get hw.out i
      have hN : Hid (ws.take (i + 1) = ws.take i ++ [ws.getD i 0]) := Lib.hid (take_snoc ws i (by rw [hl.out]; exact h0))
      have htl : (ws.take i).length = i := by rw [List.length_take, hl.out]; omega
      generalize ws.getD i 0 = x at hixi wx hN
      have wv : IntKind.i64.wrap x = x := IntWalk.i64_in _ (by have := w32_i64 wx; unfold I64 at this; omega)
      go_wp2_with (at_builtin; refine hid_stop ?_)
      refine Lib.hid ?_
      have K := ints_lit wr wr.heap.size 3 [x] rfl (by simp)
      refine append_ownI (w0 := w) w.heap.size rfl (.tmp 15) (.tmp 18) 31 rfl Tryd.underlying31 infoI (.slice A n c) (ws.take i) [x] _ 1 1 rfl rfl (O.out.alloc _) K (fun y hy => by rw [List.mem_singleton] at hy; subst hy; exact w32_i64 wx) (HB.out.alloc HB.out.size _) (by rw [World.size_alloc]; have := HB.out.size; omega) (by omega) ?_
      intro A1 n1 c1 w2 O1 hn1 HB1
      rw [← hN.out] at O1
      replace O1 := Lib.hid O1
      replace HB1 := Lib.hid HB1
      clear O HB K hixi hN wv hn1
      go_wp2
      exact ⟨⟨i + 1, A1, n1, c1, by go_num, rfl, by omega, O1, HB1⟩, by simp [intOf]; omega⟩
    · obtain rfl : i = 64 := by omega
      have e64 : ws.take 64 = ws := List.take_of_length_le (Nat.le_of_eq hl.out)
      rw [e64] at O
      obtain ⟨A', n', c', e, I⟩ := O.out.its
      injection e with e1 e2 e3
      subst e1 e2 e3
      replace I := Lib.hid I
      clear O
      go_wp2
      go_ret2
      exact ⟨_, _, _, rfl, by rw [if_pos rfl]; exact I.out, HB.out⟩
def okW (x : Int) : Bool := decide (0 ≤ x ∧ x ≤ 4294967295)
def roundErr (st : List Int) (m : Nat) : Int := if st.length = 8 ∧ m = 64 ∧ st.all okW = true then 0 else 1
theorem all32_of {l : List Int} (h : l.all okW = true) : All32 l := fun x hx => by
  have q := List.all_eq_true.1 h x hx
  unfold okW at q
  have := of_decide_eq_true q
  exact this
theorem okW_of {l : List Int} (h : ∀ j, j < l.length → W32 (l.getD j 0)) : l.all okW = true := by
  rw [List.all_eq_true]
  intro x hx
  obtain ⟨j, hj, rfl⟩ := List.getElem_of_mem hx
  have := h j hj
  rw [List.getD_eq_getElem?_getD, List.getElem?_eq_getElem hj] at this
  exact decide_eq_true this
theorem okW_not {l : List Int} {j : Nat} (hj : j < l.length) (h : ¬ W32 (l.getD j 0)) : ¬ l.all okW = true := fun q => h (by
  have := all32_of q
  exact all32_get this j)

set_option maxHeartbeats 4000000 in
set_option maxRecDepth 100000 in
theorem dig_Round (A : Option Addr) (n c : Nat) (st : List Int) (B : Option Addr) (m d : Nat) (b : List Int) (w : World) (hS : Its w A n c st) (h : Bts w B m d b) (hT : Tab w) :
    Calls Tryd.prog 13 #[.slice A n c, .slice B m d] w (IntsPost (roundErr st m) (addS st b) w) := by
  have hsl := hS.len
  by_cases h8 : n = 8
  case neg =>
    have e : roundErr st m = 1 := if_neg (fun q => h8 (by omega))
    have d0 : ((n : Int) != 8) = true := bne_iff_ne.mpr (by omega)
    rw [e]
    go_enter Tryd.func13, Tryd.ntmps13
    go_wp2
    go_ret2
    exact ⟨_, _, _, rfl, its_nil _, Below.refl _ _⟩
  by_cases h64 : m = 64
  case neg =>
    have e : roundErr st m = 1 := if_neg (fun q => h64 q.2.1)
    have d0 : ((n : Int) != 8) = false := by rw [h8]; rfl
    have d1 : ((m : Int) != 64) = true := bne_iff_ne.mpr (by omega)
    rw [e]
    clear h8
    go_enter Tryd.func13, Tryd.ntmps13
    go_wp2
    go_ret2
    exact ⟨_, _, _, rfl, its_nil _, Below.refl _ _⟩
  subst h8 h64
  have z := zero8
  have hne := zs8_ne
  have S1 : Hid (Arw (w.alloc (.cells zs8 41)) w.heap.size 41 (laidTo st 0)) := Lib.hid (by rw [laidTo_zero, hsl]; exact Arw.new w 41 zl8)
  have B1 := Lib.hid (below_alloc (Below.refl w.heap.size w) (.cells zs8 41))
  obtain ⟨E, hE⟩ : ∃ E, roundErr st 64 = E := ⟨_, rfl⟩
  rw [hE]
  replace hE := Lib.hid hE
  obtain ⟨vs, hvs⟩ : ∃ vs, addS st b = vs := ⟨_, rfl⟩
  rw [hvs]
  replace hvs := Lib.hid hvs
  go_enter Tryd.func13, Tryd.ntmps13
  go_wp2
  clear hne z
  generalize hg : w.heap.size = g at S1 B1
  go_loopw [22] (fun vi wr => ∃ (i : Nat), vi = .int .i64 (i : Int) ∧ i ≤ 8 ∧ Hid (Arw wr g 41 (laidTo st i)) ∧ Hid (Below g w wr) ∧ Hid (∀ j, j < i → W32 (st.getD j 0))) (fun vi _ => (8 - intOf vi).toNat)
  case atStart => exact ⟨0, rfl, by omega, S1, B1, Lib.hid (fun j hj => absurd hj (Nat.not_lt_zero _))⟩
  case round =>
    clear S1 B1
    obtain ⟨i, rfl, hi, S, HB, hok⟩ := hrel
    by_cases h0 : i < 8
    · have i0 : (i : Int) < 8 := by omega
      have B' : Below w.heap.size w wr := by rw [hg]; exact HB.out
      obtain ⟨ad, rfl, hc⟩ := (hS.below B').at_ i h0
      have hxi := hS.get i h0
      have hsx : Hid (∀ x, st.getD i 0 = x → (laidTo st i).set i x = laidTo st (i + 1)) := Lib.hid (fun x e => by rw [← e]; exact laidTo_set st (by omega))
      by_cases hx : W32 (st.getD i 0)
      · have hok' : Hid (∀ j, j < i + 1 → W32 (st.getD j 0)) := Lib.hid (fun j hj => by
          rcases Nat.lt_or_ge j i with q | q
          · exact hok.out j q
          · obtain rfl : j = i := by omega
            exact hx)
        have cs := S.out.cell i (by rw [laidTo_len _ (by omega)]; omega)
        have fs := S.out.free i
        generalize hxe : st.getD i 0 = x at hc hx hxi
        have hset := Lib.hid (hsx.out x hxe)
        have d2 : decide (x < 0) = false := decide_eq_false (by have := hx.1; omega)
        have d3 : decide (4294967296 ≤ x) = false := decide_eq_false (by have := hx.2; omega)
        have wv : IntKind.u32.wrap x = x := by rw [IntKind.wrap_u32']; have := hx.1; have := hx.2; omega
        replace hxe := Lib.hid hxe
        replace hx := Lib.hid hx
        clear B' hsx
        go_wp2
        have S' := S.out.set i x
        rw [hset.out] at S'
        exact ⟨⟨i + 1, by go_num, by omega, Lib.hid S', Lib.hid (below_set HB.out (by simp) _), hok'⟩, by simp [intOf]; omega⟩
      · have e : E = 1 := by
          rw [← hE.out]
          exact if_neg (fun q => okW_not (l := st) (by omega) hx q.2.2)
        subst e
        generalize hxe : st.getD i 0 = x at hc hx hxi
        replace hxe := Lib.hid hxe
        by_cases hx0 : x < 0
        · have d2 : decide (x < 0) = true := decide_eq_true hx0
          clear hsx hxi
          go_wp2
          go_ret2
          exact ⟨_, _, _, rfl, its_nil _, B'⟩
        · have d2 : decide (x < 0) = false := decide_eq_false hx0
          have d3 : decide (4294967296 ≤ x) = true := decide_eq_true (by unfold W32 at hx; omega)
          clear hsx hxi
          go_wp2
          go_ret2
          exact ⟨_, _, _, rfl, its_nil _, B'⟩
    · obtain rfl : i = 8 := by omega
      rw [show ((8 : Nat) : Int) = 8 from rfl]
      have hall : st.all okW = true := okW_of (fun j hj => hok.out j (by omega))
      have hs32 := all32_of hall
      have e : E = 0 := by rw [← hE.out]; exact if_pos ⟨hsl, rfl, hall⟩
      subst e
      have e8 : laidTo st 8 = st := by have := laidTo_all st; rwa [hsl] at this
      rw [e8] at S
      have B' : Below w.heap.size w wr := by rw [hg]; exact HB.out
      have SB := Lib.hid S.out.blk
      have hsz : Hid ((Tryd.prog.info? 41).map (·.size) = some (cellsW st).size) := Lib.hid (by rw [cellsW_size, hsl]; kernel_rfl)
      have hA := Lib.hid (dig_add st B d b wr hsl hs32 (h.below B') (hT.below B'))
      rw [hvs.out] at hA
      have hal := addS_len b hsl
      have haw := addS_w b hs32
      rw [hvs.out] at hal haw
      replace B' := Lib.hid B'
      clear S HB hok e8 hall hS
      go_wp2_with (refine wpList_load_row rfl 41 _ rfl g rfl 41 (cellsW st) (0, 0) _ SB.out Tryd.underlying41 rfl hsz.out ?_)
      refine hA.out.mono ?_
      rintro e w2 ⟨rfl, hB2⟩
      have B2 := Lib.hid (below_step2 B'.out hB2)
      have hix := Lib.hid (fun (k : Nat) (hk : k < 8) (W : World) => indexW 41 8 vs k hk hal Tryd.underlying41 W)
      replace hal := Lib.hid hal
      replace haw := Lib.hid haw
      clear hA hB2 B' SB
      go_wp2
      go_loopw [41, 9] (fun vi vo wr => ∃ (i : Nat) (A : Option Addr) (n c : Nat), vi = .int .i64 (i : Int) ∧ vo = .slice A n c ∧ i ≤ 8 ∧ Hid (OwnI wr w.heap.size (.slice A n c) (vs.take i)) ∧ Hid (Below w.heap.size w wr)) (fun vi _ _ => (8 - intOf vi).toNat)
      case atStart => exact ⟨0, none, 0, 0, rfl, rfl, by omega, Lib.hid (OwnI.nil_ _ _), B2⟩
      case round =>
        clear B2
        obtain ⟨i, A, n, c, rfl, rfl, hi, O, HB⟩ := hrel
        by_cases h0 : i < 8
        · have i0 : (i : Int) < 8 := by omega
          have hixi := fun W => hix.out i h0 W
          have wx := all32_get haw.out i
          have hN : Hid (vs.take (i + 1) = vs.take i ++ [vs.getD i 0]) := Lib.hid (take_snoc vs i (by rw [hal.out]; exact h0))
          have htl : (vs.take i).length = i := by rw [List.length_take, hal.out]; omega
          generalize vs.getD i 0 = x at hixi wx hN
          have wv : IntKind.i64.wrap x = x := IntWalk.i64_in _ (by have := w32_i64 wx; unfold I64 at this; omega)
          go_wp2_with (at_builtin; refine hid_stop ?_)
          refine Lib.hid ?_
          have K := ints_lit wr wr.heap.size 3 [x] rfl (by simp)
          refine append_ownI (w0 := w) w.heap.size rfl (.tmp 44) (.tmp 47) 31 rfl Tryd.underlying31 infoI (.slice A n c) (vs.take i) [x] _ 1 1 rfl rfl (O.out.alloc _) K (fun y hy => by rw [List.mem_singleton] at hy; subst hy; exact w32_i64 wx) (HB.out.alloc HB.out.size _) (by rw [World.size_alloc]; have := HB.out.size; omega) (by omega) ?_
          intro A1 n1 c1 w3 O1 hn1 HB1
          rw [← hN.out] at O1
          replace O1 := Lib.hid O1
          replace HB1 := Lib.hid HB1
          clear O HB K hixi hN wv hn1
          go_wp2
          exact ⟨⟨i + 1, A1, n1, c1, by go_num, rfl, by omega, O1, HB1⟩, by simp [intOf]; omega⟩
        · obtain rfl : i = 8 := by omega
          have e8 : vs.take 8 = vs := List.take_of_length_le (Nat.le_of_eq hal.out)
          rw [e8] at O
          obtain ⟨A', n', c', e, I⟩ := O.out.its
          injection e with e1 e2 e3
          subst e1 e2 e3
          replace I := Lib.hid I
          clear O
          go_wp2
          go_ret2
          exact ⟨_, _, _, rfl, by rw [if_pos rfl]; exact I.out, HB.out⟩
end Go.Proofs.YtaooibcihjkhfaaDoor

/- DigestOf holds: bytes have just this digest, however they are parted. Conditions: the constants are laid. -/
import Derived.Test.YtaooibcihjkhfaaDoorCBoth
import Derived.Test.YtaooibcihjkhfaaDoorL10More
import Derived.Test.YtaooibcihjkhfaaDoorL10Rounds
namespace Go.Proofs.YtaooibcihjkhfaaDoor
set_option linter.unusedSimpArgs false
set_option linter.unusedVariables false
open Go.RowKit Go.Proofs.YtaooibcihjkhfaaDoorW.PrintWords

theorem infoR : (Tryd.prog.info? 23).map (fun i => (i.zero, i.size, i.bytes)) = some (some (.slice none 0 0), 1, 24) := by kernel_rfl
/-- A row of bytes and a row of rows of bytes, all of the call's own, none in the block of another. -/
structure OwnR (w : World) (base : Nat) (vb vo : Value) (b : List Int) (ls : List (List Int)) (vs : List Value) : Prop where
  ob : OwnB w base vb b
  oo : w.ownsRow base 23 1 vo vs.length vs
  hl : vs.length = ls.length
  el : ∀ i, i < ls.length → OwnB w base (vs.getD i (.slice none 0 0)) (ls.getD i []) ∧ NeRow vb (vs.getD i (.slice none 0 0))
theorem OwnB.other {w w1 : World} {base : Nat} {v : Value} {xs : List Int} (h : OwnB w base v xs) {row : Option Nat} (hg : w.grownBy w1 row) (hne : v.ownBlock = none ∨ v.ownBlock ≠ row) : OwnB w1 base v xs :=
  ⟨own_other h.own hg hne, h.max, h.byt⟩
section
variable {w w1 : World} {base : Nat} {vb vo : Value} {b : List Int} {ls : List (List Int)} {vs : List Value}
theorem OwnR.nil_ (w : World) (base : Nat) : OwnR w base (.slice none 0 0) (.slice none 0 0) [] [] [] :=
  ⟨OwnB.nil_ _ _, own_nil _ _ _ _, rfl, fun i hi => absurd hi (Nat.not_lt_zero _)⟩
theorem OwnR.below (h : OwnR w base vb vo b ls vs) (hb : Below w.heap.size w w1) : OwnR w1 base vb vo b ls vs :=
  ⟨h.ob.below hb, pw_own_below h.oo hb, h.hl, fun i hi => ⟨(h.el i hi).1.below hb, (h.el i hi).2⟩⟩
theorem OwnR.rws (h : OwnR w base vb vo b ls vs) (hm : ls.length ≤ 1000) : ∃ A n c, vo = .slice A n c ∧ n = ls.length ∧ Rws w A n c ls := by
  have ho : w.ownsRow base 23 1 vo vs.length (encs id vs) := by simpa [encs] using h.oo
  obtain ⟨A, c, e, hc, hr⟩ := own_reads_of_le (d := .slice none 0 0) ho
  have hl := h.hl
  refine ⟨A, vs.length, c, e, hl, hl.symm, hc, by omega, fun i hi => ?_⟩
  obtain ⟨ad, ea, hcell⟩ := hr.2.2 (by omega)
  obtain ⟨Ai, ni, ci, ev, hb⟩ := (h.el i (by omega)).1.bts
  refine ⟨ad, Ai, ni, ci, ea, ?_, hb⟩
  rw [hcell i hi, ← ev]
  rfl
end
section
variable {P : Program} {ops : Array Oper} {rest : List Oper} {o : Oper} {a : Act} {Q : Exit → Act → World → Prop}
theorem appendR_b {w0 W : World} (base : Nat) (hgd : o.guard = none) (s x : Operand) (t : TypeId)
    (ho : o.op = .call { callee := .builtin .append, args := #[s, x], argTypes := #[t, t] })
    (ht : P.underlying t = some (.slice 5)) (hinfo : (P.info? 5).map (fun i => (i.zero, i.size, i.bytes)) = some (some (.int .u8 0), 1, 1))
    (v vo : Value) (xs ys : List Int) (ls : List (List Int)) (vs : List Value) (A : Option Addr) (m c : Nat) (hs : a.eval s = v) (hx : a.eval x = .slice A m c)
    (H : OwnR W base v vo xs ls vs) (HR : Bts W A m c ys) (HB : Below base w0 W) (hbase : base ≤ W.heap.size) (hl : xs.length + m ≤ 140737488355328)
    (h : ∀ v1 w1, OwnR w1 base v1 vo (xs ++ ys) ls vs → Below base w0 w1 → wpList P ops Q rest (a.put o.dst v1) w1) :
    wpList P ops Q (o :: rest) a W :=
  print_append_row base hgd s x t 5 .u8 1 ho ht hinfo (by decide) v xs ys A m c hs hx H.ob.own HR.rd HB hbase (by omega) (fun v1 w1 h1 h2 h3 h4 =>
    h v1 w1 ⟨⟨h1, by rw [List.length_append, HR.len]; exact hl, byt_append.2 ⟨H.ob.byt, HR.byt⟩⟩,
      own_other H.oo h3 (ne_other (ne_types H.ob.own H.oo (by decide))), H.hl,
      fun i hi => ⟨(H.el i hi).1.other h3 (ne_other (H.el i hi).2), ne_append (H.el i hi).2 h4 (H.el i hi).1.own⟩⟩ h2)
theorem appendR_o {w0 W : World} (base : Nat) (hgd : o.guard = none) (s x : Operand) (t : TypeId)
    (ho : o.op = .call { callee := .builtin .append, args := #[s, x], argTypes := #[t, t] })
    (ht : P.underlying t = some (.slice 23)) (hinfo : (P.info? 23).map (fun i => (i.zero, i.size, i.bytes)) = some (some (.slice none 0 0), 1, 24))
    (vb vo y : Value) (b ys : List Int) (ls : List (List Int)) (vs : List Value) (g : Nat) (hg : W.heap.size = g) (hs : a.eval s = vo) (hx : a.eval x = .slice (some ⟨g, 0, none⟩) 1 1)
    (H : OwnR W base vb vo b ls vs) (HY : OwnB W base y ys) (hne : NeRow vb y) (HB : Below base w0 W) (hbase : base ≤ W.heap.size) (hl : ls.length ≤ 1000)
    (h : ∀ v1 w1, OwnR w1 base vb v1 b (ls ++ [ys]) (vs ++ [y]) → Below base w0 w1 → wpList P ops Q rest (a.put o.dst v1) w1) :
    wpList P ops Q (o :: rest) a (W.alloc (.cells #[y] 23)) := by
  subst hg
  obtain ⟨Ay, ny, cy, ey, _⟩ := HY.bts
  refine print_append base hgd s x t 23 (.slice none 0 0) 24 ho ht hinfo rfl (by decide) vo vs y hs hx (by rw [ey]; rfl) H.oo HB hbase (by have := H.hl; omega) ?_
  intro v1 w1 hown hB hgr hat
  have nb := ne_other (ne_symm (ne_types H.ob.own H.oo (by decide)))
  refine h v1 w1 ⟨H.ob.other hgr nb, hown, by simp [H.hl], fun i hi => ?_⟩ hB
  have hvl := H.hl
  by_cases q : i < ls.length
  · have e1 : (vs ++ [y]).getD i (.slice none 0 0) = vs.getD i (.slice none 0 0) := by
      simp [List.getD_eq_getElem?_getD, List.getElem?_append_left (show i < vs.length by omega)]
    have e2 : (ls ++ [ys]).getD i [] = ls.getD i [] := by
      simp [List.getD_eq_getElem?_getD, List.getElem?_append_left q]
    rw [e1, e2]
    obtain ⟨k1, k2⟩ := H.el i q
    exact ⟨k1.other hgr (ne_other (ne_types H.oo k1.own (by decide))), k2⟩
  · obtain rfl : i = ls.length := by simp at hi; omega
    have e1 : (vs ++ [y]).getD ls.length (.slice none 0 0) = y := by
      rw [← hvl]; simp [List.getD_eq_getElem?_getD]
    have e2 : (ls ++ [ys]).getD ls.length [] = ys := by
      simp [List.getD_eq_getElem?_getD]
    rw [e1, e2]
    exact ⟨HY.other hgr (ne_other (ne_types H.oo HY.own (by decide))), hne⟩
end
end Go.Proofs.YtaooibcihjkhfaaDoor

namespace Go.Proofs.YtaooibcihjkhfaaDoor
set_option linter.unusedSimpArgs false
set_option linter.unusedVariables false
open Go.RowKit Go.Proofs.YtaooibcihjkhfaaDoorW.PrintWords Go.Proofs.YtaooibcihjkhfaaDoor.PDigestRounds

theorem Its.drop_some {w : World} {ad : Addr} {n c : Nat} {xs : List Int} (h : Its w (some ad) n c xs) (k : Nat) (hk : k ≤ n) (hc : ¬ c = k) : Its w (some (ad.add k)) (n - k) (c - k) (xs.drop k) := by
  have hr := h.rd.drop_ k hk h.le
  rw [if_neg hc] at hr
  exact ⟨hr, Nat.sub_le_sub_right h.le k, Nat.le_trans (Nat.sub_le _ _) h.cap, Nat.le_trans (Nat.sub_le _ _) h.max, fun x hx => h.rng x (List.mem_of_mem_drop hx)⟩
set_option maxHeartbeats 400000 in
theorem ref01_Four (n : Int) (w : World) (h0 : 0 ≤ n) (h1 : n ≤ 4294967295) :
    Calls Tryd.prog 21 #[.int .i64 n] w fun e w' => ∃ v, e = .returned v ∧ OwnB w' w.heap.size v [n / 16777216, n / 65536 % 256, n / 256 % 256, n % 256] ∧ Below w.heap.size w w' := by
  have k := OwnB.lit_at w w.heap.size w.heap.size [n / 16777216, n / 65536 % 256, n / 256 % 256, n % 256] rfl (Nat.le_refl _) (by simp only [byt_cons]; exact ⟨by omega, by omega, by omega, by omega, byt_nil⟩) (by simp)
  have K := Lib.hid k
  clear k
  go_enter Tryd.func21, Tryd.ntmps21
  go_wp2
  go_ret
  exact ⟨_, rfl, K.out, (Below.refl _ _).alloc (Nat.le_refl _) _⟩
set_option maxHeartbeats 8000000 in
set_option maxRecDepth 100000 in
theorem ref10_Of (A : Option Addr) (n c : Nat) (b : List Int) (w : World) (h : Bts w A n c b) (hn : n ≤ 2000) :
    Calls Tryd.prog 10 #[.slice A n c] w fun e w' => ∃ v, e = .returned v ∧ OwnB w' w.heap.size v (digestS b) ∧ Below w.heap.size w w' := by
  have hbl := h.len
  have K := Bts.lit_at w w.heap.size 5 [128] rfl (by decide) (by simp)
  obtain ⟨N8, hN8⟩ : ∃ N8, 8 * n = N8 := ⟨_, rfl⟩
  have e3 : IntKind.i64.wrap (8 * (n : Int)) = (N8 : Int) := by rw [IntWalk.i64_in _ (by omega)]; omega
  replace hN8 := Lib.hid hN8
  go_enter Tryd.func10, Tryd.ntmps10
  go_wp2_with fail
  refine (ref01_Both _ _ _ [b, [128]] _ (Rws.two _ _ 23 (by simp) (h.alloc _) K) (by simp; omega)).mono ?_
  rintro e w2 ⟨v2, rfl, o2, hB2⟩
  have ef : [b, [128]].flatten = b ++ 128 :: List.replicate 0 0 := by simp
  rw [ef] at o2
  replace hB2 := below_step2 (w := w) (below_alloc (below_alloc (Below.refl _ _) _) _) hB2
  have O2 := o2.lower (base' := w.heap.size) (by rw [World.size_alloc, World.size_alloc]; omega)
  obtain ⟨A4, n4, c4, rfl, t4⟩ := o2.bts
  have hn4 : n4 = n + 1 + 0 := by have := t4.len; simp at this; omega
  obtain ⟨Z, hZ⟩ : ∃ Z, (119 - n % 64) % 64 = Z := ⟨_, rfl⟩
  replace O2 := Lib.hid O2
  replace hn4 := Lib.hid hn4
  replace hZ := Lib.hid hZ
  replace hB2 := Lib.hid hB2
  clear t4 o2 K ef
  go_wp2
  go_loopw [3] (fun vt wr => ∃ (z : Nat) (A4 : Option Addr) (n4 c4 : Nat), vt = .slice A4 n4 c4 ∧ Hid (z ≤ Z) ∧ Hid (n4 = n + 1 + z) ∧ Hid (Below w.heap.size w wr) ∧ Hid (OwnB wr w.heap.size (.slice A4 n4 c4) (b ++ 128 :: List.replicate z 0))) (fun vt _ => n + 1 + Z - slenOf vt)
  case atStart => exact ⟨0, A4, n4, c4, rfl, Lib.hid (Nat.zero_le _), hn4, hB2, O2⟩
  case round =>
    clear hB2 O2 hn4
    obtain ⟨z, A4, n4, c4, rfl, hz, hn4, B2, O2⟩ := hrel
    obtain ⟨r, hr⟩ : ∃ r, n4 % 64 = r := ⟨_, rfl⟩
    have hn4b : n4 ≤ 2100 := by have := hz.out; have := hn4.out; have := hZ.out; omega
    have t1 : Int.tmod (n4 : Int) 64 = (r : Int) := by rw [Int.tmod_eq_emod_of_nonneg (by omega)]; omega
    have t2 : (n4 : Int) % 64 = (r : Int) := by omega
    by_cases h0 : z < Z
    · have d5 : ((r : Int) != 56) = true := bne_iff_ne.mpr (by have := hn4.out; have := hZ.out; omega)
      have K := Bts.lit_at wr wr.heap.size 5 [0] rfl (by decide) (by simp)
      have hN : Hid (b ++ 128 :: List.replicate (z + 1) 0 = (b ++ 128 :: List.replicate z 0) ++ [0]) := Lib.hid (by rw [List.replicate_succ']; simp)
      replace hr := Lib.hid hr
      replace h0 := Lib.hid h0
      go_wp2_with (at_builtin; refine hid_stop ?_)
      refine Lib.hid ?_
      refine append_own (w0 := w) w.heap.size rfl (.tmp 18) (.tmp 19) 23 rfl Tryd.underlying23 Tryd.info5' _ _ _ _ _ _ rfl rfl (O2.out.alloc _) K (B2.out.alloc B2.out.size _) (by rw [World.size_alloc]; have := B2.out.size; omega) (by simp; have := hz.out; have := hZ.out; omega) ?_
      intro v1 w1 O1 B1 _
      rw [← hN.out] at O1
      obtain ⟨A5, n5, c5, rfl, t5⟩ := O1.bts
      have hn5 : Hid (n5 = n + 1 + (z + 1)) := Lib.hid (by have := t5.len; simp at this; omega)
      have hz5 : Hid (z + 1 ≤ Z) := Lib.hid (by have := h0.out; omega)
      replace O1 := Lib.hid O1
      replace B1 := Lib.hid B1
      clear t5 O2 B2 K hN d5 t1 t2
      go_wp2
      exact ⟨⟨z + 1, A5, n5, c5, rfl, hz5, hn5, B1, O1⟩, by have := hn5.out; have := hn4.out; have := hz5.out; simp [slenOf]; omega⟩
    · obtain rfl : z = Z := by have := hz.out; omega
      have d5 : ((r : Int) != 56) = false := bne_eq_false_iff_eq.mpr (by have := hn4.out; have := hZ.out; omega)
      have hN8b : N8 ≤ 16000 := by have := hN8.out; omega
      have v1 : Int.tdiv (N8 : Int) 4294967296 = 0 := by rw [Int.tdiv_eq_ediv_of_nonneg (by omega)]; omega
      have v1' : (N8 : Int) / 4294967296 = 0 := by omega
      have v2 : Int.tmod (N8 : Int) 4294967296 = (N8 : Int) := by rw [Int.tmod_eq_emod_of_nonneg (by omega)]; omega
      have v2' : (N8 : Int) % 4294967296 = (N8 : Int) := by omega
      obtain ⟨_, _, _, e, T2⟩ := O2.out.bts
      injection e with x1 x2 x3
      subst x1 x2 x3
      clear O2
      go_wp2_with fail
      refine (ref01_Four _ wr (by omega) (by omega)).mono ?_
      rintro e w3 ⟨v3, rfl, o3, hB3⟩
      obtain ⟨A5, n5, c5, rfl, T3⟩ := o3.bts
      obtain rfl : n5 = 4 := T3.len.symm
      have B3 := below_step2 B2.out hB3
      have T2' := T2.below hB3
      clear T2 o3 hB3 B2
      go_wp2_with fail
      refine (ref01_Four (N8 : Int) w3 (by omega) (by omega)).mono ?_
      rintro e w4 ⟨v4, rfl, o4, hB4⟩
      obtain ⟨A6, n6, c6, rfl, T4⟩ := o4.bts
      obtain rfl : n6 = 4 := T4.len.symm
      have B4 := below_step2 B3 hB4
      have T2 := T2'.below hB4
      have T5 := T3.below hB4
      clear T2' T3 o4 hB4 B3
      go_wp2_with fail
      refine (ref01_Both _ _ _ [_, _, _] _ (Rws.three _ _ 23 rfl T2 T5 T4) (by simp; have := hz.out; have := hZ.out; omega)).mono ?_
      rintro e w5 ⟨v5, rfl, o5, hB5⟩
      have hpad : [b ++ 128 :: List.replicate z 0, [(0 : Int) / 16777216, 0 / 65536 % 256, 0 / 256 % 256, 0 % 256], [(N8 : Int) / 16777216, (N8 : Int) / 65536 % 256, (N8 : Int) / 256 % 256, (N8 : Int) % 256]].flatten = padS b := by
        have hl : lenS n = [0, 0, 0, 0, (N8 : Int) / 16777216, (N8 : Int) / 65536 % 256, (N8 : Int) / 256 % 256, (N8 : Int) % 256] := by
          have := hN8.out
          unfold lenS
          simp only [List.cons.injEq, and_true]
          refine ⟨?_, ?_, ?_, ?_, ?_, ?_, ?_, ?_⟩ <;> omega
        unfold padS tailS
        rw [hbl, hZ.out, hl]
        simp
      rw [hpad] at o5
      obtain ⟨A7, n7, c7, rfl, T7⟩ := o5.bts
      have B5 := below_step2 B4 (below_step2 (below_alloc (Below.refl _ _) _) hB5)
      clear o5 hB5 T2 T5 T4 B4
      go_wp2_with fail
      refine (redoubtref10_Constants.calls K64 w5 refConstants).mono ?_
      rintro e w6 ⟨v6, rfl, hR, hB6⟩
      obtain ⟨A8, n8, c8, rfl, I6⟩ := (OwnI.ofR hR (all32_i64 K64_w) (by decide)).its
      obtain rfl : n8 = 72 := by have := I6.len; rw [K64_len] at this; exact this.symm
      obtain ⟨ad, rfl, _⟩ := I6.at_ 0 (by decide)
      have hc8 := I6.le
      have I8 := I6.drop_some 64 (by decide) (by omega)
      have l1 : (64 : Int) ≤ (c8 : Int) := by omega
      have l2 : ¬ c8 = 64 := by omega
      have T8 := T7.below hB6
      have B6 := below_step2 B5 hB6
      clear hR hB6 T7 B5 I6
      obtain ⟨ps, hps⟩ : ∃ ps, padS b = ps := ⟨_, rfl⟩
      have hn7 : Hid (n7 = n + 1 + z + 8) := Lib.hid (by
        have := T8.len
        unfold padS tailS at this
        simp only [List.length_append, List.length_cons, List.length_replicate, lenS_len, hbl] at this
        have := hZ.out
        omega)
      rw [hps] at T8
      replace hps := Lib.hid hps
      replace T8 := Lib.hid T8
      replace B6 := Lib.hid B6
      have I9 : Hid (Its w6 (some (ad.add 64)) 8 (c8 - 64) (foldS 0 initS ps)) := Lib.hid I8
      have S0 := Lib.hid (Below.refl w6.heap.size w6)
      clear I8 hpad d5 v1 v1' v2 v2' t1 t2 hN8b
      go_wp2
      go_loopw [5, 4] (fun vi vs wr => ∃ (i q : Nat) (A2 : Option Addr) (c2 : Nat), vi = .int .i64 (q : Int) ∧ vs = .slice A2 8 c2 ∧ Hid (q = 64 * i) ∧ Hid (q ≤ n7) ∧ Hid (Its wr A2 8 c2 (foldS i initS ps)) ∧ Hid (Below w6.heap.size w6 wr)) (fun vi _ _ => n7 - (intOf vi).toNat)
      case atStart => exact ⟨0, 0, _, _, rfl, rfl, Lib.hid rfl, Lib.hid (Nat.zero_le _), I9, S0⟩
      case round =>
        clear I9 S0
        obtain ⟨i, q, A2, c2, rfl, rfl, hqi, hq5, I3, S3⟩ := hrel
        by_cases hlt : q < n7
        · have d6 : decide ((q : Int) < (n7 : Int)) = true := decide_eq_true (by omega)
          have hle : q + 64 ≤ n7 := by have := hqi.out; have := hn7.out; have := hZ.out; omega
          have hcle := T8.out.le
          have hn5b : n7 ≤ 2100 := by have := hn7.out; have := hz.out; have := hZ.out; omega
          have e5 : IntKind.i64.wrap ((q : Int) + 64) = ((q + 64 : Nat) : Int) := by rw [IntWalk.i64_in _ (by omega)]; omega
          have j1 : (q : Int) ≤ ((q + 64 : Nat) : Int) := by omega
          have j2 : ((q + 64 : Nat) : Int) ≤ (c7 : Int) := by omega
          have hB5 : Bts wr (Option.map (fun x => x.add q) A7) 64 (c7 - q) ((ps.drop (64 * i)).take 64) := by
            have T := T8.out.below S3.out
            rw [← hqi.out]
            have := (T.drop_any q (by omega) (by omega)).take 64 (by omega)
            exact this
          have sl : (foldS i initS ps).length = 8 := foldS_len _ _ _ initS_len
          have sw : All32 (foldS i initS ps) := foldS_w _ _ _ initS_w
          have hE : roundErr (foldS i initS ps) 64 = 0 := if_pos ⟨sl, rfl, okW_of (fun j _ => all32_get sw j)⟩
          have hql : Hid (q + 64 ≤ n7) := Lib.hid hle
          replace sl := Lib.hid sl
          go_wp2_with fail
          refine (ref10_Round A2 8 c2 (foldS i initS ps) _ 64 _ _ wr I3.out hB5 (by decide)).mono ?_
          rintro e w4 ⟨A6, n6, c6, rfl, I6, hB6⟩
          rw [hE, if_pos rfl, ← foldS_snoc] at I6
          rw [hE]
          obtain rfl : n6 = 8 := by have := I6.len; rw [foldS_len _ _ _ initS_len] at this; exact this.symm
          have S4 := below_step2 S3.out hB6
          replace S4 := Lib.hid S4
          replace I6 := Lib.hid I6
          have hq6 : Hid (q + 64 = 64 * (i + 1)) := Lib.hid (by have := hqi.out; omega)
          clear I3 hB5 hE hB6 S3 sw hcle j1 j2
          go_wp2
          exact ⟨⟨i + 1, q + 64, A6, c6, by go_num, rfl, hq6, hql, I6, S4⟩, by have := hql.out; simp [intOf]; omega⟩
        · obtain rfl : q = n7 := by have := hq5.out; omega
          have d6 : decide ((q : Int) < (q : Int)) = false := decide_eq_false (by omega)
          obtain ⟨J, hJ⟩ : ∃ J, foldS i initS ps = J := ⟨_, rfl⟩
          have hD : Hid (digestS b = outS J) := Lib.hid (by
            have hl : ps.length = q := T8.out.len
            unfold digestS
            rw [hps.out, hl, show q / 64 = i by have := hqi.out; omega, hJ])
          have hJl : Hid (J.length = 8) := Lib.hid (by rw [← hJ]; exact foldS_len _ _ _ initS_len)
          have hJw : Hid (All32 J) := Lib.hid (by rw [← hJ]; exact foldS_w _ _ _ initS_w)
          rw [hJ] at I3
          replace hJ := Lib.hid hJ
          have S4 := Lib.hid (below_step2 B6.out S3.out)
          clear S3 B6 T8 hn7 hq5 hqi hps
          rename World => wx
          have O0 : Hid (OwnB wx wx.heap.size (.slice none 0 0) (outS (J.take 0))) := Lib.hid (OwnB.nil_ _ _)
          have B0 := Lib.hid (Below.refl wx.heap.size wx)
          go_wp2
          go_loopw [9, 8] (fun vi vo wr => ∃ (i : Nat), vi = .int .i64 (i : Int) ∧ i ≤ 8 ∧ Hid (OwnB wr wx.heap.size vo (outS (J.take i))) ∧ Hid (Below wx.heap.size wx wr)) (fun vi _ _ => (8 - intOf vi).toNat)
          case atStart => exact ⟨0, rfl, by omega, O0, B0⟩
          case round =>
            clear O0 B0
            obtain ⟨i, rfl, hi, O, B⟩ := hrel
            by_cases h8 : i < 8
            · have i0 : decide ((i : Int) < 8) = true := decide_eq_true (by omega)
              have k4 : (i : Int) < 8 := by omega
              obtain ⟨aJ, rfl, cJ⟩ := (I3.out.below B.out).at_ i h8
              have hx := all32_get hJw.out i
              have hN : Hid (outS (J.take (i + 1)) = outS (J.take i) ++ [J.getD i 0 / 16777216, J.getD i 0 / 65536 % 256, J.getD i 0 / 256 % 256, J.getD i 0 % 256]) := Lib.hid (by
                rw [take_snoc J i (by rw [hJl.out]; exact h8), outS_snoc, show J.getD i 0 / 16777216 % 256 = J.getD i 0 / 16777216 by have := hx.1; have := hx.2; omega])
              have htl : (outS (J.take i)).length = 4 * i := by rw [outS_len, List.length_take, hJl.out]; omega
              generalize J.getD i 0 = x at cJ hx hN
              go_wp2_with fail
              refine (ref01_Four x wr hx.1 (by have := hx.2; omega)).mono ?_
              rintro e w4 ⟨v4, rfl, o4, hB4⟩
              obtain ⟨A9, n9, c9, rfl, T9⟩ := o4.bts
              obtain rfl : n9 = 4 := T9.len.symm
              have O4 := O.out.below hB4
              have B4 := below_step2 B.out hB4
              clear o4 hB4 cJ
              go_wp2_with (at_builtin; refine hid_stop ?_)
              refine Lib.hid ?_
              refine append_own (w0 := wx) wx.heap.size rfl (.tmp 57) (.tmp 62) 23 rfl Tryd.underlying23 Tryd.info5' _ _ _ _ _ _ rfl rfl O4 T9 B4 B4.size (by omega) ?_
              intro v1 w1 O1 B1 _
              rw [← hN.out] at O1
              replace O1 := Lib.hid O1
              replace B1 := Lib.hid B1
              clear O4 T9 B4 O B hN
              go_wp2
              exact ⟨⟨i + 1, by go_num, by omega, O1, B1⟩, by simp [intOf]; omega⟩
            · obtain rfl : i = 8 := by omega
              have i0 : decide (((8 : Nat) : Int) < 8) = false := by decide
              have e8 : J.take 8 = J := List.take_of_length_le (Nat.le_of_eq hJl.out)
              rw [e8, ← hD.out] at O
              have OF := Lib.hid (O.out.lower (base' := w.heap.size) S4.out.size)
              have BF := Lib.hid (below_step2 S4.out B.out)
              clear O B
              go_wp2
              go_ret
              exact ⟨_, rfl, OF.out, BF.out⟩
end Go.Proofs.YtaooibcihjkhfaaDoor

namespace Go.Proofs.YtaooibcihjkhfaaDoor
set_option linter.unusedSimpArgs false
set_option linter.unusedVariables false
open Go.RowKit Go.Proofs.YtaooibcihjkhfaaDoorW.PrintWords

theorem wpAnyH_other {P : Program} {md : Region.Mode} {ops : Array Oper} {Q : Exit → Act → World → Prop} {S : World → Prop} (S' : World → Prop) (hS : ∀ w, S' w → S w) : ∀ (fuel : Nat) (listed : Array Bool) (a : Act) (w : World), wpAnyH P md ops Q S' fuel listed a w → wpAnyH P md ops Q S fuel listed a w
  | 0, _, _, _, h => h
  | fuel + 1, _, _, _, h => ⟨h.1, fun i hi => wpOp_mono (fun a' w' h' => ⟨hS w' h'.1, wpAnyH_other S' hS fuel _ a' w' h'.2⟩) (h.2 i hi)⟩

set_option maxHeartbeats 8000000 in
set_option maxRecDepth 100000 in
theorem DigestOf_any (A : Option Addr) (n c : Nat) (ls : List (List Int)) (w : World) (hT : Tab w) (h : Rws w A n c ls) :
    Calls Tryd.prog 3 #[.slice A n c] w fun e w' => e = .returned (.bool true) ∧ Below w.heap.size w w' := by
  have hl := h.len
  by_cases q30 : 30 < n
  · have d1 : decide ((30 : Int) < (n : Int)) = true := decide_eq_true (by omega)
    go_enter Tryd.func3, Tryd.ntmps3
    go_wp2
    go_ret
    exact ⟨rfl, Below.refl _ _⟩
  have d1 : decide ((30 : Int) < (n : Int)) = false := decide_eq_false (by omega)
  have B0 := Lib.hid (Below.refl w.heap.size w)
  have O0 := Lib.hid (OwnR.nil_ w w.heap.size)
  have H := Lib.hid h
  replace hT := Lib.hid hT
  have n30 : n ≤ 30 := by omega
  clear h q30
  go_enter Tryd.func3, Tryd.ntmps3
  go_wp2
  go_loopw [5, 3, 4] (fun vi vb vo wr => ∃ (i : Nat) (A2 : Option Addr) (n2 c2 : Nat) (A3 : Option Addr) (n3 c3 : Nat) (vs : List Value), vi = .int .i64 (i : Int) ∧ vb = .slice A2 n2 c2 ∧ vo = .slice A3 n3 c3 ∧ i ≤ n ∧ Hid (n2 ≤ 1400) ∧ Hid (OwnR wr w.heap.size (.slice A2 n2 c2) (.slice A3 n3 c3) (ls.take i).flatten (ls.take i) vs) ∧ Hid (Below w.heap.size w wr)) (fun vi _ _ _ => n - (intOf vi).toNat)
  case atStart => exact ⟨0, none, 0, 0, none, 0, 0, [], rfl, rfl, rfl, Nat.zero_le _, Lib.hid (by omega), O0, B0⟩
  case round =>
    clear B0 O0
    obtain ⟨i, A2, n2, c2, A3, n3, c3, vs, rfl, rfl, rfl, hi, hn2, O, B⟩ := hrel
    have hlen2 : (ls.take i).flatten.length = n2 := by
      obtain ⟨A', n', c', e, T⟩ := O.out.ob.bts
      injection e with e1 e2 e3
      subst e1 e2 e3
      exact T.len
    by_cases h0 : i < n
    · obtain ⟨ad, Ai, ni, ci, rfl, hc, hr⟩ := H.out.at_ i h0
      have i0 : (i : Int) < (n : Int) := by omega
      have hc1 := pw_cell_below B.out hc
      have hr1 := hr.below B.out
      by_cases g4 : 400 < ni
      · have d2 : decide ((400 : Int) < (ni : Int)) = true := decide_eq_true (by omega)
        go_wp2
        go_ret
        exact ⟨rfl, B.out⟩
      have d2 : decide ((400 : Int) < (ni : Int)) = false := decide_eq_false (by omega)
      by_cases g10 : 1000 < n2
      · have d3 : decide ((1000 : Int) < (n2 : Int)) = true := decide_eq_true (by omega)
        go_wp2
        go_ret
        exact ⟨rfl, B.out⟩
      have d3 : decide ((1000 : Int) < (n2 : Int)) = false := decide_eq_false (by omega)
      have hM : Hid (ls.take (i + 1) = ls.take i ++ [ls.getD i []]) := Lib.hid (by
        rw [List.take_succ_eq_append_getElem (by omega)]
        simp [List.getD_eq_getElem?_getD, List.getElem?_eq_getElem (show i < ls.length by omega)])
      have hN : Hid ((ls.take (i + 1)).flatten = (ls.take i).flatten ++ ls.getD i []) := Lib.hid (by rw [hM.out]; simp)
      have htl : (ls.take i).length ≤ 1000 := by rw [List.length_take]; omega
      go_wp2_with (at_builtin; refine hid_stop ?_)
      refine Lib.hid ?_
      refine appendR_b (w0 := w) w.heap.size rfl (.tmp 28) (.tmp 32) 23 rfl Tryd.underlying23 Tryd.info5' _ _ _ _ _ _ _ _ _ rfl rfl O.out hr1 B.out B.out.size (by omega) ?_
      intro v1 w1 O1 B1
      rw [← hN.out] at O1
      obtain ⟨A5, n5, c5, rfl, t5⟩ := O1.ob.bts
      have hn5 : Hid (n5 ≤ 1400) := Lib.hid (by have e := t5.len; rw [hN.out, List.length_append, hr1.len] at e; omega)
      clear hc1 hr1 O B t5 d2 d3 hlen2
      have hc1 := pw_cell_below B1 hc
      have hr1 := hr.below B1
      replace O1 := Lib.hid O1
      replace B1 := Lib.hid B1
      go_wp2_with fail
      refine (ref01_Both _ _ _ [ls.getD i []] _ (Rws.one w1 _ 23 rfl hr1) (by rw [show [ls.getD i []].flatten = ls.getD i [] by simp, hr1.len]; omega)).mono ?_
      rintro e w2 ⟨v2, rfl, o2, hB2⟩
      have ef : [ls.getD i []].flatten = ls.getD i [] := by simp
      rw [ef] at o2
      have OA := O1.out.below (below_alloc (Below.refl _ _) (.cells #[.slice Ai ni ci] 23))
      have hne := ne_symm (ne_below o2.own OA.ob.own)
      have O2 := OA.below hB2
      have B2 := below_step2 B1.out (below_step2 (below_alloc (Below.refl _ _) _) hB2)
      have oy := o2.lower (base' := w.heap.size) (by rw [World.size_alloc]; have := B1.out.size; omega)
      obtain ⟨A6, n6, c6, rfl, _⟩ := o2.bts
      clear o2 OA hB2 O1 B1 hc1 hr1 hc hr
      go_wp2_with (at_builtin; refine hid_stop ?_)
      refine Lib.hid ?_
      refine appendR_o (w0 := w) w.heap.size rfl (.tmp 34) (.tmp 41) 22 rfl Tryd.underlying22 infoR _ _ _ _ _ _ _ _ rfl rfl rfl O2 oy hne B2 B2.size htl ?_
      intro v3 w3 O3 B3
      rw [← hM.out] at O3
      obtain ⟨A7, n7, c7, rfl⟩ : ∃ A n c, v3 = .slice A n c := by
        obtain ⟨A, c, e⟩ := own_slice O3.oo
        exact ⟨_, _, _, e⟩
      replace O3 := Lib.hid O3
      replace B3 := Lib.hid B3
      clear O2 B2 oy hne hM hN htl
      go_wp2
      exact ⟨⟨i + 1, A5, n5, c5, A7, n7, c7, _, by go_num, rfl, rfl, by omega, hn5, O3, B3⟩, by simp [intOf]; omega⟩
    · have i0 : decide ((i : Int) < (n : Int)) = false := decide_eq_false (by omega)
      have i1 : ¬ ((i : Int) < (n : Int)) := by omega
      have et : ls.take i = ls := List.take_of_length_le (by omega)
      rw [et] at O hlen2
      obtain ⟨A', n', c', e, hn', R⟩ := O.out.rws (by omega)
      injection e with e1 e2 e3
      subst e1 e2 e3
      obtain ⟨A', n', c', e, T2⟩ := O.out.ob.bts
      injection e with e1 e2 e3
      subst e1 e2 e3
      obtain rfl : n = n3 := by have := R.len; omega
      clear O et
      have l2 := T2.len
      have lf : ls.flatten.length ≤ 1400 := by have := hn2.out; omega
      have D := Lib.hid (dig_Of _ _ _ ls wr R (hT.out.below B.out) (by omega))
      replace R := Lib.hid R
      replace T2 := Lib.hid T2
      replace lf := Lib.hid lf
      clear l2 hlen2 hn'
      go_wp2_with fail
      refine D.out.mono ?_
      rintro e w4 ⟨A4, n4, c4, rfl, T4, hB4⟩
      have l4 : n4 = 32 := by have := T4.len; rw [digestS_len] at this; exact this.symm
      subst l4
      replace R := Lib.hid (R.out.below hB4)
      replace T2 := Lib.hid (T2.out.below hB4)
      replace T4 := Lib.hid T4
      replace B := Lib.hid (below_step2 B.out hB4)
      have Z4 := Lib.hid (Below.refl w4.heap.size w4)
      clear hB4 D
      go_wp2
      go_loopw [7] (fun vi wr => ∃ (k : Nat), vi = .int .i64 (k : Int) ∧ k ≤ n ∧ Hid (Below w4.heap.size w4 wr)) (fun vi _ => n - (intOf vi).toNat)
      case atStart => exact ⟨0, rfl, Nat.zero_le _, Z4⟩
      case round =>
        clear Z4
        obtain ⟨k, rfl, hk, Z⟩ := hrel
        have BZ := below_step2 B.out Z.out
        by_cases h0 : k < n
        · obtain ⟨ad, Ai, ni, ci, rfl, hc, hr⟩ := H.out.at_ k h0
          obtain ⟨ao, Ao, no, co, rfl, gc, gr⟩ := R.out.at_ k h0
          have k0 : decide ((k : Int) < (n : Int)) = true := decide_eq_true (by omega)
          have k1 : (k : Int) < (n : Int) := by omega
          have bz := below_drew BZ
          have zz := below_drew Z.out
          have u1 := pw_cell_below bz hc
          have u2 := pw_cell_below zz gc
          have u3 := (hr.below bz).run_string (P := Tryd.prog) 23 9 Tryd.underlying23 Tryd.underlying5 Tryd.underlying9
          have u4 := (gr.below zz).run_string (P := Tryd.prog) 23 9 Tryd.underlying23 Tryd.underlying5 Tryd.underlying9
          generalize ls.getD k [] = xs at u3 u4
          clear hc gc hr gr bz zz
          have k1' : Hid (k + 1 ≤ n) := Lib.hid (by omega)
          clear k1
          go_wp2
          go_region_held3 (fun w' => w'.cell? (ad.add k) = some (.slice Ai ni ci) ∧ w'.cell? (ao.add k) = some (.slice Ao no co) ∧ (convert 23 9 (.slice Ai ni ci)).run Tryd.prog w' = .ok (.string (strOfNums xs)) w' ∧ (convert 23 9 (.slice Ao no co)).run Tryd.prog w' = .ok (.string (strOfNums xs)) w')
            (exact ⟨u1, u2, u3, u4⟩) (fail)
          clear u1 u2 u3 u4
          go_wp2
          exact ⟨⟨k + 1, by go_num, k1'.out, Lib.hid (below_drew Z.out)⟩, by simp [intOf]; omega⟩
        · have k0 : decide ((k : Int) < (n : Int)) = false := decide_eq_false (by omega)
          have k1 : ¬ ((k : Int) < (n : Int)) := by omega
          obtain ⟨bs, hbs⟩ : ∃ bs, ls.flatten = bs := ⟨_, rfl⟩
          rw [hbs] at T2 T4 lf
          obtain ⟨ds, hds⟩ : ∃ ds, digestS bs = ds := ⟨_, rfl⟩
          rw [hds] at T4
          have TD := Lib.hid ((T4.out.below Z.out).below (below_drew (Below.refl _ _)))
          have SD := Lib.hid ((T2.out.below Z.out).below (below_drew (Below.refl _ _)))
          have BD := Lib.hid (below_drew BZ)
          have RD := TD.out.run_string (P := Tryd.prog) 23 9 Tryd.underlying23 Tryd.underlying5 Tryd.underlying9
          replace hds := Lib.hid hds
          have n2b : Hid (n2 ≤ 2000) := Lib.hid (by have := hn2.out; omega)
          clear BZ Z T2 T4 B R hbs H
          go_wp2
          refine wp_region_held_drew (S := fun w' => (convert 23 9 (.slice A4 32 c4)).run Tryd.prog w' = .ok (.string (strOfNums ds)) w') (by kernel_rfl) ?_ (fun hHeld => ?_)
          · exact RD
          refine wpAnyH_ready (rs := [0]) (by kernel_rfl) (by simp) ?_
          refine AllReadyH.cons rfl (fun K hK => ?_) AllReadyH.nil
          go_simp
          refine (awake10 _ (hT.out.below BD.out)).mono ?_
          rintro e w7 ⟨rfl, hB7⟩
          have T7 := Lib.hid (TD.out.below hB7)
          have S7 := Lib.hid (SD.out.below hB7)
          have B7 := Lib.hid (below_step2 BD.out hB7)
          have R7 := T7.out.run_string (P := Tryd.prog) 23 9 Tryd.underlying23 Tryd.underlying5 Tryd.underlying9
          clear hB7
          refine hK.out _ _ ?_ (fun hHeld => ?_)
          · exact R7
          clear hK K
          (try simp only [List.getElem_toArray, List.getElem_cons_succ, List.getElem_cons_zero, Act.put, List.setIfInBounds_toArray, List.set_cons_zero, List.set_cons_succ])
          refine wpAnyH_take (i := 1) (v := ?_) rfl (by kernel_rfl) (by kernel_rfl) (by kernel_rfl) (fun _ _ _ h => h) (Or.inl ⟨by rfl, ?_⟩) (by assumption) ?_
          rotate_left 1
          · intro w hSw
            (try dsimp only at hSw)
            go_simp
            all_goals with_reducible rfl
          (try simp only [List.getElem_toArray, List.getElem_cons_succ, List.getElem_cons_zero, Act.put, List.setIfInBounds_toArray, List.set_cons_zero, List.set_cons_succ])
          refine wpAnyH_take (i := 2) (v := ?_) rfl (by kernel_rfl) (by kernel_rfl) (by kernel_rfl) (fun _ _ _ h => h) (Or.inl ⟨by rfl, ?_⟩) (by assumption) ?_
          rotate_left 1
          · intro w hSw
            (try dsimp only at hSw)
            go_simp
            all_goals with_reducible rfl
          (try simp only [List.getElem_toArray, List.getElem_cons_succ, List.getElem_cons_zero, Act.put, List.setIfInBounds_toArray, List.set_cons_zero, List.set_cons_succ])
          refine wpAnyH_take (i := 3) (v := ?_) rfl (by kernel_rfl) (by kernel_rfl) (by kernel_rfl) (fun _ _ _ h => h) (Or.inl ⟨by rfl, ?_⟩) (by assumption) ?_
          rotate_left 1
          · intro w hSw
            (try dsimp only at hSw)
            go_simp
            all_goals with_reducible rfl
          (try simp only [List.getElem_toArray, List.getElem_cons_succ, List.getElem_cons_zero, Act.put, List.setIfInBounds_toArray, List.set_cons_zero, List.set_cons_succ])
          refine wpAnyH_take (i := 4) (v := ?_) rfl (by kernel_rfl) (by kernel_rfl) (by kernel_rfl) (fun _ _ _ h => h) (Or.inl ⟨by rfl, ?_⟩) (by assumption) ?_
          rotate_left 1
          · intro w hSw
            (try dsimp only at hSw)
            go_simp
            all_goals with_reducible rfl
          (try simp only [List.getElem_toArray, List.getElem_cons_succ, List.getElem_cons_zero, Act.put, List.setIfInBounds_toArray, List.set_cons_zero, List.set_cons_succ])
          refine wpAnyH_ready (rs := [5]) (by kernel_rfl) (by simp) ?_
          refine AllReadyH.cons rfl (fun K hK => ?_) AllReadyH.nil
          go_simp
          refine (ref10_Of _ _ _ bs _ S7.out n2b.out).mono ?_
          rintro e w8 ⟨v8, rfl, o8, hB8⟩
          obtain ⟨A8, n8, c8, rfl, t8⟩ := o8.bts
          rw [hds.out] at t8
          have k8 := t8.run_string (P := Tryd.prog) 23 9 Tryd.underlying23 Tryd.underlying5 Tryd.underlying9
          have T8 := Lib.hid (T7.out.below hB8)
          have S8 := Lib.hid (S7.out.below hB8)
          have B8 := Lib.hid (below_step2 B7.out hB8)
          have R8 := T8.out.run_string (P := Tryd.prog) 23 9 Tryd.underlying23 Tryd.underlying5 Tryd.underlying9
          clear hB8 o8 hHeld
          refine hK.out _ _ ?_ (fun hHeld => ?_)
          · exact R8
          clear hK K
          (try simp only [List.getElem_toArray, List.getElem_cons_succ, List.getElem_cons_zero, Act.put, List.setIfInBounds_toArray, List.set_cons_zero, List.set_cons_succ])
          refine wpAnyH_other (fun w' => (convert 23 9 (.slice A4 32 c4)).run Tryd.prog w' = .ok (.string (strOfNums ds)) w' ∧ (convert 23 9 (.slice A8 n8 c8)).run Tryd.prog w' = .ok (.string (strOfNums ds)) w') (fun _ h => h.1) _ _ _ _ ?_
          have hBoth := And.intro hHeld k8
          clear hHeld R7 R8 RD
          refine wpAnyH_take (i := 6) (v := ?_) rfl (by kernel_rfl) (by kernel_rfl) (by kernel_rfl) (fun _ _ _ h => h) (Or.inl ⟨by rfl, ?_⟩) (by assumption) ?_
          rotate_left 1
          · intro w hSw
            (try dsimp only at hSw)
            go_simp
            all_goals with_reducible rfl
          (try simp only [List.getElem_toArray, List.getElem_cons_succ, List.getElem_cons_zero, Act.put, List.setIfInBounds_toArray, List.set_cons_zero, List.set_cons_succ])
          refine wpAnyH_take (i := 7) (v := ?_) rfl (by kernel_rfl) (by kernel_rfl) (by kernel_rfl) (fun _ _ _ h => h) (Or.inl ⟨by rfl, ?_⟩) (by assumption) ?_
          rotate_left 1
          · intro w hSw
            (try dsimp only at hSw)
            go_simp
            all_goals with_reducible rfl
          (try simp only [List.getElem_toArray, List.getElem_cons_succ, List.getElem_cons_zero, Act.put, List.setIfInBounds_toArray, List.set_cons_zero, List.set_cons_succ])
          refine wpAnyH_take (i := 8) (v := ?_) rfl (by kernel_rfl) (by kernel_rfl) (by kernel_rfl) (fun _ _ _ h => h) (Or.inl ⟨by rfl, ?_⟩) (by assumption) ?_
          rotate_left 1
          · intro w hSw
            (try dsimp only at hSw)
            go_simp
            all_goals with_reducible rfl
          (try simp only [List.getElem_toArray, List.getElem_cons_succ, List.getElem_cons_zero, Act.put, List.setIfInBounds_toArray, List.set_cons_zero, List.set_cons_succ])
          refine wpAnyH_take (i := 9) (v := ?_) rfl (by kernel_rfl) (by kernel_rfl) (by kernel_rfl) (fun _ _ _ h => h) (Or.inl ⟨by rfl, ?_⟩) (by assumption) ?_
          rotate_left 1
          · intro w hSw
            (try dsimp only at hSw)
            go_simp
            all_goals with_reducible rfl
          (try simp only [List.getElem_toArray, List.getElem_cons_succ, List.getElem_cons_zero, Act.put, List.setIfInBounds_toArray, List.set_cons_zero, List.set_cons_succ])
          refine wpAnyH_take (i := 10) (v := ?_) rfl (by kernel_rfl) (by kernel_rfl) (by kernel_rfl) (fun _ _ _ h => h) (Or.inl ⟨by rfl, ?_⟩) (by assumption) ?_
          rotate_left 1
          · intro w hSw
            (try dsimp only at hSw)
            go_simp
            all_goals with_reducible rfl
          (try simp only [List.getElem_toArray, List.getElem_cons_succ, List.getElem_cons_zero, Act.put, List.setIfInBounds_toArray, List.set_cons_zero, List.set_cons_succ])
          refine wpAnyH_take (i := 11) (v := ?_) rfl (by kernel_rfl) (by kernel_rfl) (by kernel_rfl) (fun _ _ _ h => h) (Or.inl ⟨by rfl, ?_⟩) (by assumption) ?_
          rotate_left 1
          · intro w hSw
            (try dsimp only at hSw)
            go_simp
            all_goals with_reducible rfl
          (try simp only [List.getElem_toArray, List.getElem_cons_succ, List.getElem_cons_zero, Act.put, List.setIfInBounds_toArray, List.set_cons_zero, List.set_cons_succ])
          refine wpAnyH_take (i := 12) (v := ?_) rfl (by kernel_rfl) (by kernel_rfl) (by kernel_rfl) (fun _ _ _ h => h) (Or.inl ⟨by rfl, ?_⟩) (by assumption) ?_
          rotate_left 1
          · intro w hSw
            (try dsimp only at hSw)
            go_simp
            all_goals with_reducible rfl
          (try simp only [List.getElem_toArray, List.getElem_cons_succ, List.getElem_cons_zero, Act.put, List.setIfInBounds_toArray, List.set_cons_zero, List.set_cons_succ])
          refine wpAnyH_ready (rs := [13]) (by kernel_rfl) (by simp) ?_
          refine AllReadyH.cons rfl (fun K hK => ?_) AllReadyH.nil
          go_simp
          have T8a := T8.out.alloc (.cells #[.slice A2 n2 c2] 23)
          refine hK.out _ _ ?_ (fun hHeld => ?_)
          · exact ⟨T8a.run_string (P := Tryd.prog) 23 9 Tryd.underlying23 Tryd.underlying5 Tryd.underlying9, (t8.alloc _).run_string (P := Tryd.prog) 23 9 Tryd.underlying23 Tryd.underlying5 Tryd.underlying9⟩
          clear hK K
          (try simp only [List.getElem_toArray, List.getElem_cons_succ, List.getElem_cons_zero, Act.put, List.setIfInBounds_toArray, List.set_cons_zero, List.set_cons_succ])
          refine wpAnyH_ready (rs := [14]) (by kernel_rfl) (by simp) ?_
          refine AllReadyH.cons rfl (fun K hK => ?_) AllReadyH.nil
          go_simp
          refine (dig_Of _ _ _ [bs] _ (Rws.one _ _ 23 rfl S8.out) (hT.out.below (below_step2 B8.out (below_alloc (Below.refl _ _) _))) (by rw [show [bs].flatten = bs by simp]; have := lf.out; omega)).mono ?_
          rintro e w9 ⟨A9, n9, c9, rfl, T9, hB9⟩
          have hT8 := T8a.below hB9
          have ht8 := (t8.alloc (.cells #[.slice A2 n2 c2] 23)).below hB9
          replace hB9 := below_step2 (below_alloc (Below.refl _ _) _) hB9
          rw [show [bs].flatten = bs by simp, hds.out] at T9
          have k9 := T9.run_string (P := Tryd.prog) 23 9 Tryd.underlying23 Tryd.underlying5 Tryd.underlying9
          have B9 := Lib.hid (below_step2 B8.out hB9)
          clear hB9 hHeld
          refine hK.out _ _ ?_ (fun hHeld => ?_)
          · exact ⟨hT8.run_string (P := Tryd.prog) 23 9 Tryd.underlying23 Tryd.underlying5 Tryd.underlying9, ht8.run_string (P := Tryd.prog) 23 9 Tryd.underlying23 Tryd.underlying5 Tryd.underlying9⟩
          clear hK K
          (try simp only [List.getElem_toArray, List.getElem_cons_succ, List.getElem_cons_zero, Act.put, List.setIfInBounds_toArray, List.set_cons_zero, List.set_cons_succ])
          clear hBoth
          refine wpAnyH_other (fun w' => ((convert 23 9 (.slice A4 32 c4)).run Tryd.prog w' = .ok (.string (strOfNums ds)) w' ∧ (convert 23 9 (.slice A8 n8 c8)).run Tryd.prog w' = .ok (.string (strOfNums ds)) w') ∧ (convert 23 9 (.slice A9 n9 c9)).run Tryd.prog w' = .ok (.string (strOfNums ds)) w') (fun _ h => h.1) _ _ _ _ ?_
          have hAll := And.intro hHeld k9
          clear hHeld hT8 ht8 k9 T9 T8a t8 k8 T7 T8 TD SD S7 S8 B7 B8 BD
          refine wpAnyH_take (i := 15) (v := ?_) rfl (by kernel_rfl) (by kernel_rfl) (by kernel_rfl) (fun _ _ _ h => h) (Or.inl ⟨by rfl, ?_⟩) (by assumption) ?_
          rotate_left 1
          · intro w hSw
            (try dsimp only at hSw)
            go_simp
            all_goals with_reducible rfl
          (try simp only [List.getElem_toArray, List.getElem_cons_succ, List.getElem_cons_zero, Act.put, List.setIfInBounds_toArray, List.set_cons_zero, List.set_cons_succ])
          refine wpAnyH_take (i := 16) (v := ?_) rfl (by kernel_rfl) (by kernel_rfl) (by kernel_rfl) (fun _ _ _ h => h) (Or.inl ⟨by rfl, ?_⟩) (by assumption) ?_
          rotate_left 1
          · intro w hSw
            (try dsimp only at hSw)
            go_simp
            all_goals with_reducible rfl
          (try simp only [List.getElem_toArray, List.getElem_cons_succ, List.getElem_cons_zero, Act.put, List.setIfInBounds_toArray, List.set_cons_zero, List.set_cons_succ])
          refine wpAnyH_take (i := 17) (v := ?_) rfl (by kernel_rfl) (by kernel_rfl) (by kernel_rfl) (fun _ _ _ h => h) (Or.inl ⟨by rfl, ?_⟩) (by assumption) ?_
          rotate_left 1
          · intro w hSw
            (try dsimp only at hSw)
            go_simp
            all_goals with_reducible rfl
          (try simp only [List.getElem_toArray, List.getElem_cons_succ, List.getElem_cons_zero, Act.put, List.setIfInBounds_toArray, List.set_cons_zero, List.set_cons_succ])
          refine wpAnyH_take (i := 18) (v := ?_) rfl (by kernel_rfl) (by kernel_rfl) (by kernel_rfl) (fun _ _ _ h => h) (Or.inl ⟨by rfl, ?_⟩) (by assumption) ?_
          rotate_left 1
          · intro w hSw
            (try dsimp only at hSw)
            go_simp
            all_goals with_reducible rfl
          (try simp only [List.getElem_toArray, List.getElem_cons_succ, List.getElem_cons_zero, Act.put, List.setIfInBounds_toArray, List.set_cons_zero, List.set_cons_succ])
          refine wpAnyH_take (i := 19) (v := ?_) rfl (by kernel_rfl) (by kernel_rfl) (by kernel_rfl) (fun _ _ _ h => h) (Or.inl ⟨by rfl, ?_⟩) (by assumption) ?_
          rotate_left 1
          · intro w hSw
            (try dsimp only at hSw)
            go_simp
            all_goals with_reducible rfl
          (try simp only [List.getElem_toArray, List.getElem_cons_succ, List.getElem_cons_zero, Act.put, List.setIfInBounds_toArray, List.set_cons_zero, List.set_cons_succ])
          refine wpAnyH_take (i := 20) (v := ?_) rfl (by kernel_rfl) (by kernel_rfl) (by kernel_rfl) (fun _ _ _ h => h) (Or.inl ⟨by rfl, ?_⟩) (by assumption) ?_
          rotate_left 1
          · intro w hSw
            (try dsimp only at hSw)
            go_simp
            all_goals with_reducible rfl
          (try simp only [List.getElem_toArray, List.getElem_cons_succ, List.getElem_cons_zero, Act.put, List.setIfInBounds_toArray, List.set_cons_zero, List.set_cons_succ])
          refine wpAnyH_take (i := 21) (v := ?_) rfl (by kernel_rfl) (by kernel_rfl) (by kernel_rfl) (fun _ _ _ h => h) (Or.inl ⟨by rfl, ?_⟩) (by assumption) ?_
          rotate_left 1
          · intro w hSw
            (try dsimp only at hSw)
            go_simp
            all_goals with_reducible rfl
          (try simp only [List.getElem_toArray, List.getElem_cons_succ, List.getElem_cons_zero, Act.put, List.setIfInBounds_toArray, List.set_cons_zero, List.set_cons_succ])
          refine wpAnyH_take (i := 22) (v := ?_) rfl (by kernel_rfl) (by kernel_rfl) (by kernel_rfl) (fun _ _ _ h => h) (Or.inl ⟨by rfl, ?_⟩) (by assumption) ?_
          rotate_left 1
          · intro w hSw
            (try dsimp only at hSw)
            go_simp
            all_goals with_reducible rfl
          (try simp only [List.getElem_toArray, List.getElem_cons_succ, List.getElem_cons_zero, Act.put, List.setIfInBounds_toArray, List.set_cons_zero, List.set_cons_succ])
          refine wpAnyH_take (i := 23) (v := ?_) rfl (by kernel_rfl) (by kernel_rfl) (by kernel_rfl) (fun _ _ _ h => h) (Or.inl ⟨by rfl, ?_⟩) (by assumption) ?_
          rotate_left 1
          · intro w hSw
            (try dsimp only at hSw)
            go_simp
            all_goals with_reducible rfl
          (try simp only [List.getElem_toArray, List.getElem_cons_succ, List.getElem_cons_zero, Act.put, List.setIfInBounds_toArray, List.set_cons_zero, List.set_cons_succ])
          refine wpAnyH_done (by kernel_rfl) ?_ _
          clear hAll
          go_wp2
          go_ret
          exact ⟨rfl, B9.out⟩
end Go.Proofs.YtaooibcihjkhfaaDoor

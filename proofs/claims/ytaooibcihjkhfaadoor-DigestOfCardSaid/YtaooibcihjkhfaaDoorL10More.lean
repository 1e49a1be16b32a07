/- DigestMore holds: a block more is a round more. Conditions: the constants are laid. -/
import Derived.Test.YtaooibcihjkhfaaDoorAwake10
import Derived.Test.YtaooibcihjkhfaaDoorCDigG
namespace Go.Proofs.YtaooibcihjkhfaaDoor
set_option linter.unusedSimpArgs false
set_option linter.unusedVariables false
open Go.RowKit Go.Proofs.YtaooibcihjkhfaaDoorW.PrintWords

theorem outS_get : ∀ (l : List Int) (i : Nat), i < l.length → (outS l).getD (4 * i) 0 = l.getD i 0 / 16777216 % 256 ∧ (outS l).getD (4 * i + 1) 0 = l.getD i 0 / 65536 % 256 ∧ (outS l).getD (4 * i + 2) 0 = l.getD i 0 / 256 % 256 ∧ (outS l).getD (4 * i + 3) 0 = l.getD i 0 % 256
  | [], i, h => by simp at h
  | x :: r, 0, _ => ⟨rfl, rfl, rfl, rfl⟩
  | x :: r, i + 1, h => by
    have ih := outS_get r i (by simpa using h)
    rw [show 4 * (i + 1) = 4 * i + 4 by omega]
    exact ih
theorem four_back {x : Int} (h : W32 x) : 16777216 * (x / 16777216 % 256) + 65536 * (x / 65536 % 256) + 256 * (x / 256 % 256) + x % 256 = x := by
  unfold W32 at h; omega
theorem more_bad (A : Option Addr) (n c : Nat) (x : Int) (w : World) (h : 600 < n ∨ x < 0 ∨ 9 < x ∨ (n : Int) < 64 * x) :
    Calls Tryd.prog 5 #[.slice A n c, .int .i64 x] w fun e w' => e = .returned (.bool true) ∧ Below w.heap.size w w' := by
  by_cases q1 : 600 < n
  · have d1 : decide ((600 : Int) < (n : Int)) = true := decide_eq_true (by omega)
    go_enter Tryd.func5, Tryd.ntmps5
    go_wp2
    go_ret
    exact ⟨rfl, Below.refl _ _⟩
  have d1 : decide ((600 : Int) < (n : Int)) = false := decide_eq_false (by omega)
  by_cases q2 : x < 0
  · have d2 : decide (x < 0) = true := decide_eq_true q2
    go_enter Tryd.func5, Tryd.ntmps5
    go_wp2
    go_ret
    exact ⟨rfl, Below.refl _ _⟩
  have d2 : decide (x < 0) = false := decide_eq_false q2
  by_cases q3 : 9 < x
  · have d3 : decide (9 < x) = true := decide_eq_true q3
    go_enter Tryd.func5, Tryd.ntmps5
    go_wp2
    go_ret
    exact ⟨rfl, Below.refl _ _⟩
  have d3 : decide (9 < x) = false := decide_eq_false q3
  have e1 : IntKind.i64.wrap (64 * x) = 64 * x := IntWalk.i64_in _ (by omega)
  have d4 : decide ((n : Int) < 64 * x) = true := decide_eq_true (by omega)
  go_enter Tryd.func5, Tryd.ntmps5
  go_wp2
  go_ret
  exact ⟨rfl, Below.refl _ _⟩

theorem Bts.drop_any {w : World} {A : Option Addr} {n c : Nat} {xs : List Int} (h : Bts w A n c xs) (k : Nat) (hk : k ≤ n) (hc : ¬ c = k) : Bts w (Option.map (fun x => x.add k) A) (n - k) (c - k) (xs.drop k) := by
  cases A with
  | some ad => exact h.drop_some k hk hc
  | none =>
    have hn : n = 0 := by
      rcases Nat.eq_zero_or_pos n with q | q
      · exact q
      · obtain ⟨ad, e, _⟩ := h.some_ q
        cases e
    subst hn
    obtain rfl : k = 0 := by omega
    exact h
def slenOf : Value → Nat
  | .slice _ n _ => n
  | _ => 0


set_option maxHeartbeats 8000000 in
set_option maxRecDepth 100000 in
theorem more_good (A : Option Addr) (n c : Nat) (b : List Int) (k : Nat) (w : World) (hT : Tab w) (h : Bts w A n c b) (hn : n ≤ 600) (hk : k ≤ 9) (hkn : 64 * k ≤ n) :
    Calls Tryd.prog 5 #[.slice A n c, .int .i64 (k : Int)] w fun e w' => e = .returned (.bool true) ∧ Below w.heap.size w w' := by
  have d1 : decide ((600 : Int) < (n : Int)) = false := decide_eq_false (by omega)
  have d2 : decide ((k : Int) < 0) = false := decide_eq_false (by omega)
  have d3 : decide (9 < (k : Int)) = false := decide_eq_false (by omega)
  obtain ⟨p, hp⟩ : ∃ p, 64 * k = p := ⟨_, rfl⟩
  have e1 : IntKind.i64.wrap (64 * (k : Int)) = (p : Int) := by rw [show 64 * (k : Int) = (p : Int) by omega]; exact IntWalk.i64_in _ (by omega)
  have d4 : decide ((n : Int) < (p : Int)) = false := decide_eq_false (by omega)
  have d5 : decide (n < p) = false := decide_eq_false (by omega)
  have hpn : p ≤ n := by omega
  replace hp := Lib.hid hp
  have hbl := h.len
  have B0 := Lib.hid (Below.refl w.heap.size w)
  go_enter Tryd.func5, Tryd.ntmps5
  go_wp2
  go_loopw [6, 5] (fun vi vo wr => ∃ (i q : Nat) (A2 : Option Addr) (n2 c2 : Nat), vi = .int .i64 (q : Int) ∧ vo = .slice A2 n2 c2 ∧ i ≤ 8 ∧ Hid (q = 64 + i) ∧ Hid (OwnI wr w.heap.size (.slice A2 n2 c2) (initS.take i)) ∧ Hid (Below w.heap.size w wr)) (fun vi _ _ => (80 - intOf vi).toNat)
  case atStart => exact ⟨0, 64, none, 0, 0, rfl, rfl, by omega, Lib.hid rfl, Lib.hid (OwnI.nil_ _ _), B0⟩
  case round =>
    clear B0
    obtain ⟨i, q, A2, n2, c2, rfl, rfl, hi, hq, O, B⟩ := hrel
    by_cases h8 : i < 8
    · have q72 : decide ((q : Int) < 72) = true := decide_eq_true (by have := hq.out; omega)
      have e2 : IntKind.i64.wrap ((q : Int) + 1) = ((q + 1 : Nat) : Int) := by have := hq.out; rw [IntWalk.i64_in _ (by omega)]; omega
      have hTr := hT.below B.out
      have hcs : constS (q : Int) = K64.getD q 0 := by unfold constS; have := hq.out; rw [if_neg (by omega)]; rfl
      have hxi : K64.getD q 0 = initS.getD i 0 := by unfold initS; rw [hq.out]; simp [List.getD_eq_getElem?_getD]
      have hxw := all32_get initS_w i
      have hN : Hid (initS.take (i + 1) = initS.take i ++ [initS.getD i 0]) := Lib.hid (take_snoc initS i (by rw [initS_len]; exact h8))
      have htl : (initS.take i).length = i := by rw [List.length_take, initS_len]; omega
      go_wp2_with fail
      refine (dig_Constant (q : Int) wr hTr).mono ?_
      rintro e w' ⟨rfl, rfl⟩
      rw [hcs, hxi]
      generalize initS.getD i 0 = x at hxw hN hxi
      clear hTr hcs hxi
      go_wp2_with (at_builtin; refine hid_stop ?_)
      refine Lib.hid ?_
      have K := ints_lit wr wr.heap.size 3 [x] rfl (by simp)
      refine append_ownI (w0 := w) w.heap.size rfl (.tmp 39) (.tmp 41) 31 rfl Tryd.underlying31 infoI (.slice A2 n2 c2) (initS.take i) [x] _ 1 1 rfl rfl (O.out.alloc _) K (fun y hy => by rw [List.mem_singleton] at hy; subst hy; exact w32_i64 hxw) (B.out.alloc B.out.size _) (by rw [World.size_alloc]; have := B.out.size; omega) (by omega) ?_
      intro A3 n3 c3 w3 O3 hn3 B3
      rw [← hN.out] at O3
      replace O3 := Lib.hid O3
      replace B3 := Lib.hid B3
      have hq2 : Hid (q + 1 = 64 + (i + 1)) := Lib.hid (by have := hq.out; omega)
      have hm : Hid (q < 72) := Lib.hid (by have := hq.out; omega)
      clear O B K hN hn3 htl
      go_wp2
      exact ⟨⟨i + 1, q + 1, A3, n3, c3, by go_num, rfl, by omega, hq2, O3, B3⟩, by have := hm.out; simp [intOf]; omega⟩
    · obtain rfl : i = 8 := by omega
      obtain rfl : q = 72 := by have := hq.out; omega
      have e8 : initS.take 8 = initS := List.take_of_length_le (Nat.le_of_eq initS_len)
      rw [e8] at O
      have I0 : Its wr A2 n2 c2 initS := by
        obtain ⟨A', n', c', e, I⟩ := O.out.its
        injection e with e1 e2 e3
        subst e1 e2 e3
        exact I
      have hI0 : n2 = 8 := by have := I0.len; rw [initS_len] at this; exact this.symm
      subst hI0
      clear O e8
      rename World => wx
      have hb := h.below B.out
      have K := Bts.lit_at wx wx.heap.size 5 [128] rfl (by decide) (by simp)
      obtain ⟨N8, hN8⟩ : ∃ N8, 8 * n = N8 := ⟨_, rfl⟩
      have e3 : IntKind.i64.wrap (8 * (n : Int)) = (N8 : Int) := by rw [IntWalk.i64_in _ (by omega)]; omega
      have q72 : decide (((72 : Nat) : Int) < 72) = false := by decide
      replace hN8 := Lib.hid hN8
      go_wp2_with fail
      refine (ref01_Both _ _ _ [b, [128]] _ (Rws.two _ _ 23 (by simp) (hb.alloc _) K) (by simp; omega)).mono ?_
      rintro e w2 ⟨v2, rfl, o2, hB2⟩
      have ef : [b, [128]].flatten = b ++ 128 :: List.replicate 0 0 := by simp
      rw [ef] at o2
      replace hB2 := below_step2 (w := wx) (below_alloc (below_alloc (Below.refl _ _) _) _) hB2
      have O2 := o2.lower (base' := wx.heap.size) (by rw [World.size_alloc, World.size_alloc]; omega)
      obtain ⟨A4, n4, c4, rfl, t4⟩ := o2.bts
      have hn4 : n4 = n + 1 + 0 := by have := t4.len; simp at this; omega
      obtain ⟨Z, hZ⟩ : ∃ Z, (119 - n % 64) % 64 = Z := ⟨_, rfl⟩
      replace O2 := Lib.hid O2
      replace hn4 := Lib.hid hn4
      replace hZ := Lib.hid hZ
      replace hB2 := Lib.hid hB2
      replace I0 := Lib.hid I0
      clear t4 o2 K hb ef q72
      go_wp2
      go_loopw [9] (fun vt wr => ∃ (z : Nat) (A4 : Option Addr) (n4 c4 : Nat), vt = .slice A4 n4 c4 ∧ Hid (z ≤ Z) ∧ Hid (n4 = n + 1 + z) ∧ Hid (Below wx.heap.size wx wr) ∧ Hid (OwnB wr wx.heap.size (.slice A4 n4 c4) (b ++ 128 :: List.replicate z 0))) (fun vt _ => n + 1 + Z - slenOf vt)
      case atStart => exact ⟨0, A4, n4, c4, rfl, Lib.hid (Nat.zero_le _), hn4, hB2, O2⟩
      case round =>
        clear hB2 O2 hn4
        obtain ⟨z, A4, n4, c4, rfl, hz, hn4, B2, O2⟩ := hrel
        obtain ⟨r, hr⟩ : ∃ r, n4 % 64 = r := ⟨_, rfl⟩
        have hn4b : n4 ≤ 700 := by have := hz.out; have := hn4.out; have := hZ.out; omega
        have t1 : Int.tmod (n4 : Int) 64 = (r : Int) := by rw [Int.tmod_eq_emod_of_nonneg (by omega)]; omega
        have t2 : (n4 : Int) % 64 = (r : Int) := by omega
        by_cases h0 : z < Z
        · have d5 : ((r : Int) != 56) = true := bne_iff_ne.mpr (by have := hn4.out; have := hZ.out; omega)
          have K := Bts.lit_at wr wr.heap.size 5 [0] rfl (by decide) (by simp)
          have hN : Hid (b ++ 128 :: List.replicate (z + 1) 0 = (b ++ 128 :: List.replicate z 0) ++ [0]) := Lib.hid (by rw [List.replicate_succ']; simp)
          replace hr := Lib.hid hr
          replace h0 := Lib.hid h0
          go_wp2_with (at_builtin; refine hid_stop ?_)
          refine Lib.hid ?_
          refine append_own (w0 := wx) wx.heap.size rfl (.tmp 54) (.tmp 55) 23 rfl Tryd.underlying23 Tryd.info5' _ _ _ _ _ _ rfl rfl (O2.out.alloc _) K (B2.out.alloc B2.out.size _) (by rw [World.size_alloc]; have := B2.out.size; omega) (by simp; have := hz.out; have := hZ.out; omega) ?_
          intro v1 w1 O1 B1 _
          rw [← hN.out] at O1
          obtain ⟨A5, n5, c5, rfl, t5⟩ := O1.bts
          have hn5 : Hid (n5 = n + 1 + (z + 1)) := Lib.hid (by have := t5.len; simp at this; omega)
          have hz5 : Hid (z + 1 ≤ Z) := Lib.hid (by have := h0.out; omega)
          replace O1 := Lib.hid O1
          replace B1 := Lib.hid B1
          clear t5 O2 B2 K hN d5 t1 t2
          go_wp2
          exact ⟨⟨z + 1, A5, n5, c5, rfl, hz5, hn5, B1, O1⟩, by have := hn5.out; have := hn4.out; have := hz5.out; simp [slenOf]; omega⟩
        · obtain rfl : z = Z := by have := hz.out; omega
          have d5 : ((r : Int) != 56) = false := bne_eq_false_iff_eq.mpr (by have := hn4.out; have := hZ.out; omega)
          obtain ⟨q1, hq1⟩ : ∃ q1, N8 / 256 = q1 := ⟨_, rfl⟩
          obtain ⟨q2, hq2⟩ : ∃ q2, N8 % 256 = q2 := ⟨_, rfl⟩
          have hN8b : N8 ≤ 4800 := by have := hN8.out; omega
          have v1 : Int.tdiv (N8 : Int) 65536 = 0 := by rw [Int.tdiv_eq_ediv_of_nonneg (by omega)]; omega
          have v1' : (N8 : Int) / 65536 = 0 := by omega
          have v2 : Int.tdiv (N8 : Int) 256 = (q1 : Int) := by rw [Int.tdiv_eq_ediv_of_nonneg (by omega)]; omega
          have v2' : (N8 : Int) / 256 = (q1 : Int) := by omega
          have v3 : Int.tmod (q1 : Int) 256 = (q1 : Int) := by rw [Int.tmod_eq_emod_of_nonneg (by omega)]; omega
          have v3' : (q1 : Int) % 256 = (q1 : Int) := by omega
          have v4 : Int.tmod (N8 : Int) 256 = (q2 : Int) := by rw [Int.tmod_eq_emod_of_nonneg (by omega)]; omega
          have v4' : (N8 : Int) % 256 = (q2 : Int) := by omega
          have hpad : Hid (padS b = (b ++ 128 :: List.replicate z 0) ++ [0, 0, 0, 0, 0, 0, (q1 : Int), (q2 : Int)]) := Lib.hid (by
            have hl : lenS n = [0, 0, 0, 0, 0, 0, (q1 : Int), (q2 : Int)] := by
              have := hN8.out
              unfold lenS
              simp only [List.cons.injEq, and_true]
              refine ⟨?_, ?_, ?_, ?_, ?_, ?_, ?_, ?_⟩ <;> omega
            unfold padS tailS
            rw [hbl, hZ.out, hl]
            simp)
          have w1 : IntKind.u8.wrap (q1 : Int) = (q1 : Int) := by rw [IntKind.wrap_u8]; omega
          have w2 : IntKind.u8.wrap (q2 : Int) = (q2 : Int) := by rw [IntKind.wrap_u8]; omega
          have hqb : 0 ≤ (q1 : Int) ∧ (q1 : Int) ≤ 255 ∧ 0 ≤ (q2 : Int) ∧ (q2 : Int) ≤ 255 := by omega
          have K := Bts.lit_at wr wr.heap.size 5 [0, 0, 0, 0, 0, 0, (q1 : Int), (q2 : Int)] rfl (by simp only [byt_cons]; exact ⟨by decide, by decide, by decide, by decide, by decide, by decide, ⟨hqb.1, hqb.2.1⟩, hqb.2.2, byt_nil⟩) (by simp)
          replace hq1 := Lib.hid hq1
          replace hq2 := Lib.hid hq2
          go_wp2_with (at_builtin; refine hid_stop ?_)
          refine Lib.hid ?_
          refine append_own (w0 := wx) wx.heap.size rfl (.tmp 57) (.tmp 68) 23 rfl Tryd.underlying23 Tryd.info5' _ _ _ _ _ _ rfl rfl (O2.out.alloc _) K (B2.out.alloc B2.out.size _) (by rw [World.size_alloc]; have := B2.out.size; omega) (by simp; have := hz.out; have := hZ.out; omega) ?_
          intro v3 w3 O3 B3 _
          rw [← hpad.out] at O3
          obtain ⟨A5, n5, c5, rfl, t5⟩ := O3.bts
          obtain ⟨ps, hps⟩ : ∃ ps, padS b = ps := ⟨_, rfl⟩
          rw [hps] at t5
          have hn5 : Hid (n5 = n + 1 + z + 8) := Lib.hid (by have := t5.len; rw [← hps, hpad.out] at this; simp at this; omega)
          replace B3 : Hid (Below wx.heap.size wx w3) := Lib.hid B3
          have I3 : Hid (Its w3 A2 8 c2 (foldS 0 initS ps)) := Lib.hid (I0.out.below B3.out)
          replace hps := Lib.hid hps
          replace t5 := Lib.hid t5
          clear O3 O2 B2 K hpad d5 v1 v1' v2 v2' v3 v3' v4 v4' w1 w2 t1 t2 I0 hqb hN8b
          have S0 := Lib.hid (Below.refl w3.heap.size w3)
          go_wp2
          go_loopw [10, 5] (fun vi vs wr => ∃ (i q : Nat) (A2 : Option Addr) (c2 : Nat), vi = .int .i64 (q : Int) ∧ vs = .slice A2 8 c2 ∧ Hid (q = 64 * i) ∧ Hid (q ≤ n5) ∧ Hid (Its wr A2 8 c2 (foldS i initS ps)) ∧ Hid (Below w3.heap.size w3 wr)) (fun vi _ _ => n5 - (intOf vi).toNat)
          case atStart => exact ⟨0, 0, A2, c2, rfl, rfl, Lib.hid rfl, Lib.hid (Nat.zero_le _), I3, S0⟩
          case round =>
            clear I3 S0
            obtain ⟨i, q, A2, c2, rfl, rfl, hqi, hq5, I3, S3⟩ := hrel
            by_cases hlt : q < n5
            · have d6 : decide ((q : Int) < (n5 : Int)) = true := decide_eq_true (by omega)
              have hle : q + 64 ≤ n5 := by have := hqi.out; have := hn5.out; have := hZ.out; omega
              have hcle := t5.out.le
              have hn5b : n5 ≤ 700 := by have := hn5.out; have := hz.out; have := hZ.out; omega
              have e5 : IntKind.i64.wrap ((q : Int) + 64) = ((q + 64 : Nat) : Int) := by rw [IntWalk.i64_in _ (by omega)]; omega
              have j1 : (q : Int) ≤ ((q + 64 : Nat) : Int) := by omega
              have j2 : ((q + 64 : Nat) : Int) ≤ (c5 : Int) := by omega
              have hB5 : Bts wr (Option.map (fun x => x.add q) A5) 64 (c5 - q) ((ps.drop (64 * i)).take 64) := by
                obtain ⟨ad, ea, _⟩ := t5.out.some_ (by omega)
                have T := t5.out.below S3.out
                rw [ea] at T ⊢
                rw [← hqi.out]
                exact (T.drop_some q (by omega) (by omega)).take 64 (by omega)
              have sl : (foldS i initS ps).length = 8 := foldS_len _ _ _ initS_len
              have sw : All32 (foldS i initS ps) := foldS_w _ _ _ initS_w
              have hE : roundErr (foldS i initS ps) 64 = 0 := if_pos ⟨sl, rfl, okW_of (fun j _ => all32_get sw j)⟩
              have hTr := hT.below (below_step2 (below_step2 B.out B3.out) S3.out)
              have hql : Hid (q + 64 ≤ n5) := Lib.hid hle
              replace sl := Lib.hid sl
              go_wp2_with fail
              refine (dig_Round A2 8 c2 (foldS i initS ps) _ 64 _ _ wr I3.out hB5 hTr).mono ?_
              rintro e w4 ⟨A6, n6, c6, rfl, I6, hB6⟩
              rw [hE, if_pos rfl, ← foldS_snoc] at I6
              rw [hE]
              obtain rfl : n6 = 8 := by have := I6.len; rw [foldS_len _ _ _ initS_len] at this; exact this.symm
              have S4 := below_step2 S3.out hB6
              replace S4 := Lib.hid S4
              replace I6 := Lib.hid I6
              have hq6 : Hid (q + 64 = 64 * (i + 1)) := Lib.hid (by have := hqi.out; omega)
              have d7 : (((8 : Nat) : Int) != 8) = false := by decide
              clear I3 hB5 hTr hE hB6 S3 sw hcle j1 j2
              go_wp2
              exact ⟨⟨i + 1, q + 64, A6, c6, by go_num, rfl, hq6, hql, I6, S4⟩, by have := hql.out; simp [intOf]; omega⟩
            · obtain rfl : q = n5 := by have := hq5.out; omega
              have d6 : decide ((q : Int) < (q : Int)) = false := decide_eq_false (by omega)
              obtain ⟨J, hJ⟩ : ∃ J, foldS i initS ps = J := ⟨_, rfl⟩
              have hD : Hid (digestS b = outS J) := Lib.hid (by
                have hl : ps.length = q := t5.out.len
                unfold digestS
                rw [hps.out, hl, show q / 64 = i by have := hqi.out; omega, hJ])
              have hJl : Hid (J.length = 8) := Lib.hid (by rw [← hJ]; exact foldS_len _ _ _ initS_len)
              have hJw : Hid (All32 J) := Lib.hid (by rw [← hJ]; exact foldS_w _ _ _ initS_w)
              rw [hJ] at I3
              replace hJ := Lib.hid hJ
              have S4 := Lib.hid (below_step2 (below_step2 B.out B3.out) S3.out)
              clear S3 B3 t5 hn5 hq5 hqi hps
              have ec : p + (n - p) = n := by omega
              by_cases hcp : c = p
              · have hcc := h.le
                obtain rfl : p = c := hcp.symm
                obtain rfl : p = n := by omega
                have j0 : (0 : Int) ≤ (p : Int) := by omega
                have j1 : (p : Int) ≤ (p : Int) := by omega
                have j2 : (p : Int) ≤ (p : Int) := by omega
                have hh := h.below (below_drew S4.out)
                have e0 : b.drop p = [] := List.drop_of_length_le (by omega)
                clear hcp
                go_wp2
                go_region_held3 (fun _ => True) (trivial)
                  (first
                    | (go_at_call 8
                       refine (dig_Of _ _ _ [b.take p, b.drop p] _ (Rws.two _ _ _ rfl (hh.take p (Nat.le_refl _)) (by rw [e0]; first | exact Bts.nil_ A 0 _ (by decide) | (simp only [Nat.sub_self]; exact Bts.nil_ A 0 _ (by decide)))) ((hT.below (below_drew S4.out)).below (below_alloc (Below.refl _ _) _)) (by simp; omega)).mono ?_
                       rintro e w7 ⟨A7, n7, c7, rfl, T7, hB7⟩
                       replace hB7 := below_step2 (below_drew (Below.refl _ _)) (below_step2 (below_alloc (Below.refl _ _) _) hB7)
                       have I7 := Lib.hid (I3.out.below hB7)
                       replace hB7 := Lib.hid (below_step2 S4.out hB7)
                       replace T7 := Lib.hid T7))
                clear I3 S4 hh j0 j1 j2 hcc
                have T8 := T7.out
                rw [show [List.take p b, List.drop p b].flatten = b by simp, hD.out] at T8
                obtain rfl : n7 = 32 := by have := T8.len; rw [outS_len, hJl.out] at this; exact this.symm
                obtain ⟨ad7, rfl, hc7⟩ := T8.some_ (by decide)
                clear T7 hD
                replace T8 := Lib.hid T8
                clear hc7
                have d32 : (((32 : Nat) : Int) != 32) = false := by decide
                go_wp2
                go_loopw [14] (fun vi wr => ∃ (i : Nat), vi = .int .i64 (i : Int) ∧ i ≤ 8 ∧ Hid (Its wr A2 8 c2 J) ∧ Hid (Bts wr (some ad7) 32 c7 (outS J)) ∧ Hid (Below w.heap.size w wr)) (fun vi _ => (8 - intOf vi).toNat)
                case atStart => exact ⟨0, rfl, by omega, I7, T8, hB7⟩
                case round =>
                  clear I7 T8 hB7
                  obtain ⟨i, rfl, hi, I7, T8, B8⟩ := hrel
                  by_cases h8 : i < 8
                  · have i0 : decide ((i : Int) < 8) = true := decide_eq_true (by omega)
                    obtain ⟨q, hq⟩ : ∃ q, 4 * i = q := ⟨_, rfl⟩
                    have f0 : IntKind.i64.wrap (4 * (i : Int)) = (q : Int) := by rw [IntWalk.i64_in _ (by omega)]; omega
                    obtain ⟨q1, hq1⟩ : ∃ x, q + 1 = x := ⟨_, rfl⟩
                    have f1 : IntKind.i64.wrap ((q : Int) + 1) = (q1 : Int) := by rw [IntWalk.i64_in _ (by omega)]; omega
                    obtain ⟨q2, hq2⟩ : ∃ x, q + 2 = x := ⟨_, rfl⟩
                    have f2 : IntKind.i64.wrap ((q : Int) + 2) = (q2 : Int) := by rw [IntWalk.i64_in _ (by omega)]; omega
                    obtain ⟨q3, hq3⟩ : ∃ x, q + 3 = x := ⟨_, rfl⟩
                    have f3 : IntKind.i64.wrap ((q : Int) + 3) = (q3 : Int) := by rw [IntWalk.i64_in _ (by omega)]; omega
                    obtain ⟨a0, ea, c0⟩ := T8.out.at_ q (by omega)
                    cases ea
                    obtain ⟨a0, ea, c1⟩ := T8.out.at_ q1 (by omega)
                    cases ea
                    obtain ⟨a0, ea, c2'⟩ := T8.out.at_ q2 (by omega)
                    cases ea
                    obtain ⟨a0, ea, c3⟩ := T8.out.at_ q3 (by omega)
                    cases ea
                    obtain ⟨aJ, rfl, cJ⟩ := I7.out.at_ i h8
                    have hx := all32_get hJw.out i
                    obtain ⟨g0, g1, g2, g3⟩ := outS_get J i (by rw [hJl.out]; exact h8)
                    rw [hq] at g0 g1 g2 g3
                    rw [hq1] at g1
                    rw [hq2] at g2
                    rw [hq3] at g3
                    rw [g0] at c0
                    rw [g1] at c1
                    rw [g2] at c2'
                    rw [g3] at c3
                    have hb4 := four_back hx
                    generalize J.getD i 0 = x at hx hb4 c0 c1 c2' c3 cJ
                    clear g0 g1 g2 g3
                    obtain ⟨y0, hy0⟩ : ∃ y, x / 16777216 % 256 = y := ⟨_, rfl⟩
                    obtain ⟨y1, hy1⟩ : ∃ y, x / 65536 % 256 = y := ⟨_, rfl⟩
                    obtain ⟨y2, hy2⟩ : ∃ y, x / 256 % 256 = y := ⟨_, rfl⟩
                    obtain ⟨y3, hy3⟩ : ∃ y, x % 256 = y := ⟨_, rfl⟩
                    rw [hy0] at c0
                    rw [hy1] at c1
                    rw [hy2] at c2'
                    rw [hy3] at c3
                    rw [hy0, hy1, hy2, hy3] at hb4
                    have by0 : 0 ≤ y0 ∧ y0 < 256 := by omega
                    have by1 : 0 ≤ y1 ∧ y1 < 256 := by omega
                    have by2 : 0 ≤ y2 ∧ y2 < 256 := by omega
                    have by3 : 0 ≤ y3 ∧ y3 < 256 := by omega
                    have s0 : IntKind.i64.wrap (16777216 * y0) = 16777216 * y0 := IntWalk.i64_in _ (by omega)
                    have s1 : IntKind.i64.wrap (65536 * y1) = 65536 * y1 := IntWalk.i64_in _ (by omega)
                    have s2 : IntKind.i64.wrap (256 * y2) = 256 * y2 := IntWalk.i64_in _ (by omega)
                    have s3 : IntKind.i64.wrap (16777216 * y0 + 65536 * y1) = 16777216 * y0 + 65536 * y1 := IntWalk.i64_in _ (by omega)
                    have s4 : IntKind.i64.wrap (16777216 * y0 + 65536 * y1 + 256 * y2) = 16777216 * y0 + 65536 * y1 + 256 * y2 := IntWalk.i64_in _ (by omega)
                    have s5 : IntKind.i64.wrap (16777216 * y0 + 65536 * y1 + 256 * y2 + y3) = x := by rw [hb4]; have := w32_i64 hx; unfold I64 at this; exact IntWalk.i64_in _ (by omega)
                    have z0 : IntKind.i64.wrap y0 = y0 := IntWalk.i64_in _ (by omega)
                    have z1 : IntKind.i64.wrap y1 = y1 := IntWalk.i64_in _ (by omega)
                    have z2 : IntKind.i64.wrap y2 = y2 := IntWalk.i64_in _ (by omega)
                    have z3 : IntKind.i64.wrap y3 = y3 := IntWalk.i64_in _ (by omega)
                    have k0 : (q : Int) < 32 := by omega
                    have k1 : (q1 : Int) < 32 := by omega
                    have k2 : (q2 : Int) < 32 := by omega
                    have k3 : (q3 : Int) < 32 := by omega
                    have k4 : (i : Int) < 8 := by omega
                    have k5 : q < 32 := by omega
                    have k6 : q1 < 32 := by omega
                    have k7 : q2 < 32 := by omega
                    have k8 : q3 < 32 := by omega
                    replace hq := Lib.hid hq
                    replace hq1 := Lib.hid hq1
                    replace hq2 := Lib.hid hq2
                    replace hq3 := Lib.hid hq3
                    have nx : (x != x) = false := by simp
                    replace hy0 := Lib.hid hy0
                    replace hy1 := Lib.hid hy1
                    replace hy2 := Lib.hid hy2
                    replace hy3 := Lib.hid hy3
                    replace hb4 := Lib.hid hb4
                    go_wp2
                    go_quiet (fail)
                    go_wp2
                    exact ⟨⟨i + 1, by go_num, by omega, Lib.hid (I7.out.below (pw_below_drewN (Below.refl _ _) nq)), Lib.hid (T8.out.drewN nq), Lib.hid (pw_below_drewN B8.out nq)⟩, by simp [intOf]; omega⟩
                  · obtain rfl : i = 8 := by omega
                    have i0 : decide (((8 : Nat) : Int) < 8) = false := by decide
                    go_wp2_with fail
                    refine (awake10 wr (hT.below B8.out)).mono ?_
                    rintro e w9 ⟨rfl, hB9⟩
                    have B9 := Lib.hid (below_step2 B8.out hB9)
                    go_wp2
                    go_ret
                    exact ⟨rfl, B9.out⟩
              · have j0 : (0 : Int) ≤ (p : Int) := by omega
                have hcc := h.le
                have j1 : (p : Int) ≤ (n : Int) := by omega
                have j2 : (p : Int) ≤ (c : Int) := by omega
                have hh := h.below (below_drew S4.out)
                go_wp2
                go_region_held3 (fun _ => True) (trivial)
                  (first
                    | (go_at_call 8
                       refine (dig_Of _ _ _ [b.take p, b.drop p] _ (Rws.two _ _ _ rfl (hh.take p hpn) (hh.drop_any p hpn hcp)) ((hT.below (below_drew S4.out)).below (below_alloc (Below.refl _ _) _)) (by simp; omega)).mono ?_
                       rintro e w7 ⟨A7, n7, c7, rfl, T7, hB7⟩
                       replace hB7 := below_step2 (below_drew (Below.refl _ _)) (below_step2 (below_alloc (Below.refl _ _) _) hB7)
                       have I7 := Lib.hid (I3.out.below hB7)
                       replace hB7 := Lib.hid (below_step2 S4.out hB7)
                       replace T7 := Lib.hid T7))
                clear I3 S4 hh j0 j1 j2 hcc
                have T8 := T7.out
                rw [show [List.take p b, List.drop p b].flatten = b by simp, hD.out] at T8
                obtain rfl : n7 = 32 := by have := T8.len; rw [outS_len, hJl.out] at this; exact this.symm
                obtain ⟨ad7, rfl, hc7⟩ := T8.some_ (by decide)
                clear T7 hD
                replace T8 := Lib.hid T8
                clear hc7
                have d32 : (((32 : Nat) : Int) != 32) = false := by decide
                go_wp2
                go_loopw [14] (fun vi wr => ∃ (i : Nat), vi = .int .i64 (i : Int) ∧ i ≤ 8 ∧ Hid (Its wr A2 8 c2 J) ∧ Hid (Bts wr (some ad7) 32 c7 (outS J)) ∧ Hid (Below w.heap.size w wr)) (fun vi _ => (8 - intOf vi).toNat)
                case atStart => exact ⟨0, rfl, by omega, I7, T8, hB7⟩
                case round =>
                  clear I7 T8 hB7
                  obtain ⟨i, rfl, hi, I7, T8, B8⟩ := hrel
                  by_cases h8 : i < 8
                  · have i0 : decide ((i : Int) < 8) = true := decide_eq_true (by omega)
                    obtain ⟨q, hq⟩ : ∃ q, 4 * i = q := ⟨_, rfl⟩
                    have f0 : IntKind.i64.wrap (4 * (i : Int)) = (q : Int) := by rw [IntWalk.i64_in _ (by omega)]; omega
                    obtain ⟨q1, hq1⟩ : ∃ x, q + 1 = x := ⟨_, rfl⟩
                    have f1 : IntKind.i64.wrap ((q : Int) + 1) = (q1 : Int) := by rw [IntWalk.i64_in _ (by omega)]; omega
                    obtain ⟨q2, hq2⟩ : ∃ x, q + 2 = x := ⟨_, rfl⟩
                    have f2 : IntKind.i64.wrap ((q : Int) + 2) = (q2 : Int) := by rw [IntWalk.i64_in _ (by omega)]; omega
                    obtain ⟨q3, hq3⟩ : ∃ x, q + 3 = x := ⟨_, rfl⟩
                    have f3 : IntKind.i64.wrap ((q : Int) + 3) = (q3 : Int) := by rw [IntWalk.i64_in _ (by omega)]; omega
                    obtain ⟨a0, ea, c0⟩ := T8.out.at_ q (by omega)
                    cases ea
                    obtain ⟨a0, ea, c1⟩ := T8.out.at_ q1 (by omega)
                    cases ea
                    obtain ⟨a0, ea, c2'⟩ := T8.out.at_ q2 (by omega)
                    cases ea
                    obtain ⟨a0, ea, c3⟩ := T8.out.at_ q3 (by omega)
                    cases ea
                    obtain ⟨aJ, rfl, cJ⟩ := I7.out.at_ i h8
                    have hx := all32_get hJw.out i
                    obtain ⟨g0, g1, g2, g3⟩ := outS_get J i (by rw [hJl.out]; exact h8)
                    rw [hq] at g0 g1 g2 g3
                    rw [hq1] at g1
                    rw [hq2] at g2
                    rw [hq3] at g3
                    rw [g0] at c0
                    rw [g1] at c1
                    rw [g2] at c2'
                    rw [g3] at c3
                    have hb4 := four_back hx
                    generalize J.getD i 0 = x at hx hb4 c0 c1 c2' c3 cJ
                    clear g0 g1 g2 g3
                    obtain ⟨y0, hy0⟩ : ∃ y, x / 16777216 % 256 = y := ⟨_, rfl⟩
                    obtain ⟨y1, hy1⟩ : ∃ y, x / 65536 % 256 = y := ⟨_, rfl⟩
                    obtain ⟨y2, hy2⟩ : ∃ y, x / 256 % 256 = y := ⟨_, rfl⟩
                    obtain ⟨y3, hy3⟩ : ∃ y, x % 256 = y := ⟨_, rfl⟩
                    rw [hy0] at c0
                    rw [hy1] at c1
                    rw [hy2] at c2'
                    rw [hy3] at c3
                    rw [hy0, hy1, hy2, hy3] at hb4
                    have by0 : 0 ≤ y0 ∧ y0 < 256 := by omega
                    have by1 : 0 ≤ y1 ∧ y1 < 256 := by omega
                    have by2 : 0 ≤ y2 ∧ y2 < 256 := by omega
                    have by3 : 0 ≤ y3 ∧ y3 < 256 := by omega
                    have s0 : IntKind.i64.wrap (16777216 * y0) = 16777216 * y0 := IntWalk.i64_in _ (by omega)
                    have s1 : IntKind.i64.wrap (65536 * y1) = 65536 * y1 := IntWalk.i64_in _ (by omega)
                    have s2 : IntKind.i64.wrap (256 * y2) = 256 * y2 := IntWalk.i64_in _ (by omega)
                    have s3 : IntKind.i64.wrap (16777216 * y0 + 65536 * y1) = 16777216 * y0 + 65536 * y1 := IntWalk.i64_in _ (by omega)
                    have s4 : IntKind.i64.wrap (16777216 * y0 + 65536 * y1 + 256 * y2) = 16777216 * y0 + 65536 * y1 + 256 * y2 := IntWalk.i64_in _ (by omega)
                    have s5 : IntKind.i64.wrap (16777216 * y0 + 65536 * y1 + 256 * y2 + y3) = x := by rw [hb4]; have := w32_i64 hx; unfold I64 at this; exact IntWalk.i64_in _ (by omega)
                    have z0 : IntKind.i64.wrap y0 = y0 := IntWalk.i64_in _ (by omega)
                    have z1 : IntKind.i64.wrap y1 = y1 := IntWalk.i64_in _ (by omega)
                    have z2 : IntKind.i64.wrap y2 = y2 := IntWalk.i64_in _ (by omega)
                    have z3 : IntKind.i64.wrap y3 = y3 := IntWalk.i64_in _ (by omega)
                    have k0 : (q : Int) < 32 := by omega
                    have k1 : (q1 : Int) < 32 := by omega
                    have k2 : (q2 : Int) < 32 := by omega
                    have k3 : (q3 : Int) < 32 := by omega
                    have k4 : (i : Int) < 8 := by omega
                    have k5 : q < 32 := by omega
                    have k6 : q1 < 32 := by omega
                    have k7 : q2 < 32 := by omega
                    have k8 : q3 < 32 := by omega
                    replace hq := Lib.hid hq
                    replace hq1 := Lib.hid hq1
                    replace hq2 := Lib.hid hq2
                    replace hq3 := Lib.hid hq3
                    have nx : (x != x) = false := by simp
                    replace hy0 := Lib.hid hy0
                    replace hy1 := Lib.hid hy1
                    replace hy2 := Lib.hid hy2
                    replace hy3 := Lib.hid hy3
                    replace hb4 := Lib.hid hb4
                    go_wp2
                    go_quiet (fail)
                    go_wp2
                    exact ⟨⟨i + 1, by go_num, by omega, Lib.hid (I7.out.below (pw_below_drewN (Below.refl _ _) nq)), Lib.hid (T8.out.drewN nq), Lib.hid (pw_below_drewN B8.out nq)⟩, by simp [intOf]; omega⟩
                  · obtain rfl : i = 8 := by omega
                    have i0 : decide (((8 : Nat) : Int) < 8) = false := by decide
                    go_wp2_with fail
                    refine (awake10 wr (hT.below B8.out)).mono ?_
                    rintro e w9 ⟨rfl, hB9⟩
                    have B9 := Lib.hid (below_step2 B8.out hB9)
                    go_wp2
                    go_ret
                    exact ⟨rfl, B9.out⟩
theorem DigestMore_any (A : Option Addr) (n c : Nat) (b : List Int) (x : Int) (w : World) (hT : Tab w) (h : Bts w A n c b) (_hx : I64 x) :
    Calls Tryd.prog 5 #[.slice A n c, .int .i64 x] w fun e w' => e = .returned (.bool true) ∧ Below w.heap.size w w' := by
  by_cases q : 600 < n ∨ x < 0 ∨ 9 < x ∨ (n : Int) < 64 * x
  · exact more_bad A n c x w q
  · obtain ⟨k, rfl⟩ := Int.eq_ofNat_of_zero_le (show 0 ≤ x by omega)
    exact more_good A n c b k w hT h (by omega) (by omega) (by omega)
end Go.Proofs.YtaooibcihjkhfaaDoor

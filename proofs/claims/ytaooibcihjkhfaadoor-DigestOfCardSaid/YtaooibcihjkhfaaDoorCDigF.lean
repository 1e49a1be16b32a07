/- The contract of a digest. Conditions: those that each lemma states. -/
import Derived.Test.YtaooibcihjkhfaaDoorCDigE
namespace Go.Proofs.YtaooibcihjkhfaaDoor
set_option linter.unusedSimpArgs false
set_option linter.unusedVariables false
open Go.RowKit Go.Proofs.YtaooibcihjkhfaaDoorW.PrintWords

/-- A list, as far as it is laid. -/
def laidTo (l : List Int) (i : Nat) : List Int := l.take i ++ List.replicate (l.length - i) 0
theorem laidTo_zero (l : List Int) : laidTo l 0 = List.replicate l.length 0 := by simp [laidTo]
theorem laidTo_all (l : List Int) : laidTo l l.length = l := by simp [laidTo]
theorem laidTo_len (l : List Int) {i : Nat} (h : i ≤ l.length) : (laidTo l i).length = l.length := by simp [laidTo]; omega
theorem laidTo_set (l : List Int) {i : Nat} (h : i < l.length) : (laidTo l i).set i (l.getD i 0) = laidTo l (i + 1) := by
  have hl : (l.take i).length = i := by rw [List.length_take]; omega
  unfold laidTo
  rw [List.set_append_right _ _ (by omega), hl, Nat.sub_self, show l.length - i = (l.length - (i + 1)) + 1 by omega, List.replicate_succ, List.set_cons_zero]
  rw [List.take_succ_eq_append_getElem h, List.append_assoc, List.getD_eq_getElem?_getD, List.getElem?_eq_getElem h]
  rfl
theorem make128 (L : Nat) (h1 : 1 ≤ L) (h2 : L ≤ 64) (W : World) : (Instr.makeSlice 23 (.int .i64 (L : Int)) (.int .i64 128)).run Tryd.prog W = .ok (.slice (some ⟨W.heap.size, 0, none⟩) L 128) (W.alloc (.cells (List.replicate 128 (Value.int .u8 0)).toArray 5)) := by
  obtain ⟨i0, hi0, hz0, hi2, hb0⟩ := info_parts Tryd.info5'
  have h := run_make (P := Tryd.prog) W 23 5 i0 _ Tryd.underlying23 hi0 hz0 .i64 .i64 (L : Int) 128 (by omega) (by omega) (by rw [hb0]; decide) (by omega)
  rw [hi2, show madeCells (Value.int .u8 0).cells (Int.toNat 128 * 1) = (List.replicate 128 (Value.int .u8 0)).toArray by kernel_rfl] at h
  exact h
theorem lenS_get (n k : Nat) (hk : k < 8) : (lenS n).getD k 0 = ((n * 8 / 2 ^ (56 - 8 * k) % 256 : Nat) : Int) := by
  obtain rfl | rfl | rfl | rfl | rfl | rfl | rfl | rfl : k = 0 ∨ k = 1 ∨ k = 2 ∨ k = 3 ∨ k = 4 ∨ k = 5 ∨ k = 6 ∨ k = 7 := by omega
  all_goals (first | rfl | (simp [lenS]))
theorem flat_succ (ls : List (List Int)) {i : Nat} (h : i < ls.length) : (ls.take (i + 1)).flatten = (ls.take i).flatten ++ ls.getD i [] := by
  rw [List.take_succ_eq_append_getElem h, List.flatten_append, List.getD_eq_getElem?_getD, List.getElem?_eq_getElem h]
  simp
theorem flat_le (ls : List (List Int)) (i : Nat) : (ls.take i).flatten.length ≤ ls.flatten.length := by
  have h : ls.flatten = (ls.take i).flatten ++ (ls.drop i).flatten := by rw [← List.flatten_append, List.take_append_drop]
  rw [h, List.length_append]; omega
theorem Eaten.len {m s rest : List Int} (h : Eaten m s rest) : s.length = 8 := by rw [h.state]; exact foldS_len _ _ _ initS_len
theorem Eaten.w {m s rest : List Int} (h : Eaten m s rest) : All32 s := by rw [h.state]; exact foldS_w _ _ _ initS_w
def tl128 : List Int := 128 :: List.replicate 127 0
theorem tl128_byt : Byt tl128 := by intro x hx; unfold tl128 at hx; rw [List.mem_cons, List.mem_replicate] at hx; omega
theorem tl128_take (L : Nat) (h1 : 1 ≤ L) (h2 : L ≤ 64) : tl128.take L = 128 :: List.replicate (L - 1) 0 := by
  obtain ⟨k, rfl⟩ : ∃ k, L = k + 1 := ⟨L - 1, by omega⟩
  unfold tl128
  rw [List.take_succ_cons, List.take_replicate, show min k 127 = k by omega]
  rfl
theorem lenS_len (n : Nat) : (lenS n).length = 8 := rfl

set_option maxHeartbeats 4000000 in
set_option maxRecDepth 100000 in
theorem dig_Of (A : Option Addr) (np cp : Nat) (ls : List (List Int)) (w : World) (hP : Rws w A np cp ls) (hT : Tab w) (hm : ls.flatten.length ≤ 100000) :
    Calls Tryd.prog 8 #[.slice A np cp] w fun e w' => ∃ A' n' c', e = .returned (.slice A' n' c') ∧ Bts w' A' n' c' (digestS ls.flatten) ∧ Below w.heap.size w w' := by
  have z := zero8
  have hne := zs8_ne
  have S1 : Hid (Arw (w.alloc (.cells zs8 41)) w.heap.size 41 (laidTo initS 0)) := Lib.hid (by rw [laidTo_zero]; exact Arw.new w 41 zl8)
  have B1 := Lib.hid (below_alloc (Below.refl w.heap.size w) (.cells zs8 41))
  have hpl := hP.len
  have hpm := hP.max
  go_enter Tryd.func8, Tryd.ntmps8
  go_wp2
  clear hne z
  have Z1 : Hid ((w.alloc (.cells zs8 41)).heap.size = w.heap.size + 1) := Lib.hid (World.size_alloc _ _)
  generalize hg : w.heap.size = g at S1 B1 Z1
  go_loopw [15] (fun vi wr => ∃ (i : Nat), vi = .int .i64 (i : Int) ∧ i ≤ 8 ∧ Hid (Arw wr g 41 (laidTo initS i)) ∧ Hid (Below g w wr) ∧ Hid (wr.heap.size = g + 1)) (fun vi _ => (8 - intOf vi).toNat)
  case atStart => exact ⟨0, rfl, by omega, S1, B1, Z1⟩
  case round =>
    clear S1 B1 Z1
    obtain ⟨i, rfl, hi, S, B, Z⟩ := hrel
    by_cases h0 : i < 8
    · have i0 : (i : Int) < 8 := by omega
      obtain ⟨p, hp⟩ : ∃ p, 64 + i = p := ⟨_, rfl⟩
      have e1 : IntKind.i64.wrap (64 + (i : Int)) = (p : Int) := by rw [← hp]; rw [IntWalk.i64_in _ (by omega)]; omega
      have i1 : (p : Int) < 72 := by omega
      have hTr := hT.below (by rw [hg]; exact B.out)
      have ck := hTr p (by omega)
      have hN : Hid ((laidTo initS i).set i (K64.getD p 0) = laidTo initS (i + 1)) := Lib.hid (by
        rw [← laidTo_set initS (by rw [initS_len]; exact h0), ← hp]
        unfold initS
        simp [List.getD_eq_getElem?_getD])
      have cs := S.out.cell i (by rw [laidTo_len _ (by rw [initS_len]; exact hi), initS_len]; exact h0)
      have fs := S.out.free i
      generalize K64.getD p 0 = kk at ck hN
      clear hTr hp
      go_wp2
      have S' := S.out.set i kk
      rw [hN.out] at S'
      exact ⟨⟨i + 1, by go_num, by omega, Lib.hid S', Lib.hid (below_set B.out (by simp) _), Lib.hid (by simpa [World.setCell] using Z.out)⟩, by simp [intOf]; omega⟩
    · obtain rfl : i = 8 := by omega
      rw [show ((8 : Nat) : Int) = 8 from rfl]
      have e8 : laidTo initS 8 = initS := by have := laidTo_all initS; rwa [initS_len] at this
      rw [e8] at S
      clear e8
      have B' : Below w.heap.size w wr := by rw [hg]; exact B.out
      have hbx : Hid (Eat w (wr.alloc (.cells #[.slice none 0 0] 23)) (g + 1) g (g + 1 + 1) none 0 0 initS) := Lib.hid
        ⟨by rw [← Z.out]; exact blk_new _ _, S.out.alloc _, below_alloc B' _, by omega, by omega, by omega, by omega, by omega, by rw [World.size_alloc, Z.out]; exact Nat.le_refl _⟩
      have hzz := Z.out
      clear S B B'
      go_wp2
      go_loopw [28, 6] (fun vi vn wr => ∃ (i : Nat) (A' : Option Addr) (n' c' : Nat) (s rest : List Int), vi = .int .i64 (i : Int) ∧ vn = .int .i64 (((ls.take i).flatten.length : Nat) : Int) ∧ i ≤ np ∧ Hid (Eat w wr (g + 1) g (g + 1 + 1) A' n' c' s) ∧ Hid (Rst wr (g + 1 + 1) A' n' c' rest) ∧ Hid (Eaten (ls.take i).flatten s rest)) (fun vi _ _ => (np - intOf vi).toNat)
      case atStart => exact ⟨0, none, 0, 0, initS, [], rfl, rfl, by omega, hbx, Lib.hid (Rst.nil _ _), Lib.hid Eaten.nil⟩
      case round =>
        clear hbx hzz Z
        obtain ⟨i, A', n', c', s, rest, rfl, rfl, hi, E, R, hE⟩ := hrel
        by_cases h0 : i < np
        · have i0 : (i : Int) < (np : Int) := by omega
          have hPr := hP.below E.out.bl
          obtain ⟨ad, Ai, ni, ci, rfl, hc, hBi⟩ := hPr.at_ i h0
          have hfs := flat_succ ls (show i < ls.length by omega)
          have hfl := flat_le ls (i + 1)
          have hbl := hBi.len
          rw [hfs, List.length_append, hbl] at hfl
          have hrl := hE.out.rest_len
          have hnl := R.out.len
          obtain ⟨q, hq⟩ : ∃ q, (ls.take i).flatten.length = q := ⟨_, rfl⟩
          have hq2 : (ls.take (i + 1)).flatten.length = q + ni := by rw [hfs, List.length_append, hbl, hq]
          rw [hq] at hfl ⊢
          have e1 : IntKind.i64.wrap ((q : Int) + (ni : Int)) = ((q + ni : Nat) : Int) := by rw [IntWalk.i64_in _ (by omega)]; omega
          replace hq2 := Lib.hid hq2
          replace hfs := Lib.hid hfs
          have hn7 : n' + ni ≤ 140737488355328 := by omega
          clear hPr hfl hbl hrl hnl hq
          go_wp2_with fail
          refine (dig_eat w (g + 1) g (g + 1 + 1) A' n' c' s rest Ai ni ci (ls.getD i []) wr E.out R.out hE.out.len hE.out.w hT hBi hn7).mono ?_
          rintro e w2 ⟨⟨v, rfl⟩, A2, n2, c2, E2, R2⟩
          have hE2 := hE.out.more (ls.getD i [])
          rw [← hfs.out] at hE2
          replace E2 := Lib.hid E2
          replace R2 := Lib.hid R2
          replace hE2 := Lib.hid hE2
          clear E R hE hBi hc
          go_wp2
          exact ⟨⟨i + 1, A2, n2, c2, _, _, by go_num, by rw [hq2.out, Int.natCast_add], by omega, E2, R2, hE2⟩, by simp [intOf]; omega⟩
        · have ei : ls.take i = ls := by rw [List.take_of_length_le (by omega)]
          have i0 : ¬ (i : Int) < (np : Int) := by omega
          have ii : decide ((i : Int) < (np : Int)) = false := decide_eq_false i0
          rw [ei] at hE ⊢
          obtain ⟨ms, hms⟩ : ∃ ms, ls.flatten = ms := ⟨_, rfl⟩
          rw [hms] at hE hm ⊢
          obtain ⟨q, hq⟩ : ∃ q, ms.length = q := ⟨_, rfl⟩
          rw [hq] at hm ⊢
          obtain ⟨L, hL⟩ : ∃ L, 1 + (119 - q % 64) % 64 = L := ⟨_, rfl⟩
          obtain ⟨q64, hq64⟩ : ∃ x, q % 64 = x := ⟨_, rfl⟩
          have t1 : Int.tmod (q : Int) 64 = (q64 : Int) := by rw [Int.tmod_eq_emod_of_nonneg (by omega)]; omega
          have t1' : (q : Int) % 64 = (q64 : Int) := by omega
          have t2 : IntKind.i64.wrap (119 - (q64 : Int)) = 119 - (q64 : Int) := IntWalk.i64_in _ (by omega)
          have t3 : Int.tmod (119 - (q64 : Int)) 64 = (119 - (q64 : Int)) % 64 := Int.tmod_eq_emod_of_nonneg (by omega)
          have t4 : IntKind.i64.wrap (1 + (119 - (q64 : Int)) % 64) = 1 + (119 - (q64 : Int)) % 64 := IntWalk.i64_in _ (by omega)
          have L1 : 1 ≤ L := by omega
          have L2 : L ≤ 64 := by omega
          have LI : (0 : Int) < (L : Int) := by omega
          have hLe : 1 + (119 - (q64 : Int)) % 64 = (L : Int) := by omega
          have mk := make128 L L1 L2
          rw [← hLe] at mk
          replace hLe := Lib.hid hLe
          replace hq64 := Lib.hid hq64
          replace hms := Lib.hid hms
          replace hq := Lib.hid hq
          replace hL := Lib.hid hL
          have hba := E.out.ba
          clear i0
          go_wp2
          generalize hw5 : World.alloc _ _ = w5
          obtain ⟨gt, hgt⟩ : ∃ gt, wr.heap.size = gt := ⟨_, rfl⟩
          rw [hgt] at hba ⊢
          have T5 : Hid (Rst w5 gt (some ⟨gt, 0, none⟩) L 128 (tl128.take L)) := Lib.hid (by rw [← hw5]; exact Rst.cells wr gt gt hgt (Nat.le_refl _) tl128 L 128 rfl tl128_byt (by omega) (by omega))
          have B5 : Hid (Below gt wr w5) := Lib.hid (by rw [← hw5, ← hgt]; exact below_alloc (Below.refl _ _) _)
          have Zg : Hid (gt ≤ w5.heap.size) := Lib.hid (by rw [← hw5, ← hgt, World.size_alloc]; exact Nat.le_succ _)
          clear hw5 mk
          generalize wr = w4 at E R B5 hgt
          have T0 : Hid (tl128.take L ++ (lenS q).take 0 = tl128.take L) := Lib.hid (by simp)
          go_loopw [48, 10] (fun vk vt wr => ∃ (k : Nat) (A2 : Option Addr) (c2 : Nat), vk = .int .i64 (k : Int) ∧ vt = .slice A2 (L + k) c2 ∧ k ≤ 8 ∧ Hid (Rst wr gt A2 (L + k) c2 (tl128.take L ++ (lenS q).take k)) ∧ Hid (Below gt w4 wr) ∧ Hid (gt ≤ wr.heap.size)) (fun vi _ _ => (8 - intOf vi).toNat)
          case atStart => exact ⟨0, _, 128, rfl, rfl, by omega, by rw [T0.out]; exact T5, B5, Zg⟩
          case round =>
            clear T5 B5 Zg T0
            obtain ⟨k, A2, c2, rfl, rfl, hk, T, B, Z⟩ := hrel
            by_cases k8 : k < 8
            · have i0 : (k : Int) < 8 := by omega
              obtain ⟨sh, hsh⟩ : ∃ sh, 56 - 8 * k = sh := ⟨_, rfl⟩
              have e0 : IntKind.u64.wrap (q : Int) = (q : Int) := by rw [IntKind.wrap_u64]; omega
              have e1 : IntKind.u64.wrap ((q : Int) * 8) = (q : Int) * 8 := by rw [IntKind.wrap_u64]; omega
              have e2 : IntKind.i64.wrap (8 * (k : Int)) = 8 * (k : Int) := IntWalk.i64_in _ (by omega)
              have e3 : IntKind.i64.wrap (56 - 8 * (k : Int)) = (sh : Int) := by rw [IntWalk.i64_in _ (by omega)]; omega
              have e4 : (sh : Int) ≤ 64 := by omega
              have e5 : (0 : Int) ≤ (sh : Int) := by omega
              have e6 : min sh 64 = sh := by omega
              have hg8 : Hid ((lenS q).getD k 0 = ((q * 8 / 2 ^ sh % 256 : Nat) : Int)) := Lib.hid (by rw [lenS_get q k k8, hsh])
              replace hsh := Lib.hid hsh
              go_wp2_with (at_builtin; refine hid_stop ?_)
              generalize hx : (q : Int) * 8 / 2 ^ sh % 256 = x
              have hxb : 0 ≤ x ∧ x ≤ 255 := by rw [← hx]; have h1 := Int.emod_nonneg ((q : Int) * 8 / 2 ^ sh) (by decide : (256 : Int) ≠ 0); have h2 := Int.emod_lt_of_pos ((q : Int) * 8 / 2 ^ sh) (by decide : (0 : Int) < 256); omega
              have hxe : Hid ((lenS q).getD k 0 = x) := Lib.hid (by rw [hg8.out, ← hx]; simp)
              have K := Bts.lit_at wr wr.heap.size 5 [x] rfl (by simp only [byt_cons]; exact ⟨hxb, byt_nil⟩) (by simp)
              have T' := T.out.below (below_alloc (Below.refl _ _) (.cells (nums .u8 [x]).toArray 5))
              refine Lib.hid ?_
              refine wp_rst_append (base := gt) rfl (.tmp 51) (.tmp 60) 23 rfl Tryd.underlying23 Tryd.info5' rfl rfl T' K (by rw [World.size_alloc]; have := Z.out; omega) (by simp; omega) ?_
              intro A3 c3 w3 T3 B3
              have T4 : Hid (Rst w3 gt A3 (L + (k + 1)) c3 (tl128.take L ++ (lenS q).take (k + 1))) := Lib.hid (by
                have e : (lenS q).take (k + 1) = (lenS q).take k ++ [x] := by
                  rw [List.take_succ_eq_append_getElem (by rw [lenS_len]; exact k8), ← hxe.out, List.getD_eq_getElem?_getD, List.getElem?_eq_getElem (by rw [lenS_len]; exact k8)]
                  rfl
                rw [e, ← List.append_assoc]
                exact T3)
              have B4 : Hid (Below gt w4 w3) := Lib.hid (B.out.trans (((below_alloc (Below.refl _ _) _).mono Z.out).trans B3))
              have Z4 : Hid (gt ≤ w3.heap.size) := Lib.hid (by have h1 := B3.size; rw [World.size_alloc] at h1; have := Z.out; omega)
              clear T B Z T' K T3 B3 hx hxe hg8 hsh e0 e1 e2 e3 e4 e5 e6
              go_wp2
              exact ⟨⟨k + 1, A3, c3, by go_num, rfl, by omega, T4, B4, Z4⟩, by simp [intOf]; omega⟩
            · obtain rfl : k = 8 := by omega
              have ht8 : tl128.take L ++ (lenS q).take 8 = tailS q := by
                rw [tl128_take L L1 L2, List.take_of_length_le (Nat.le_of_eq (lenS_len q)), List.cons_append]
                unfold tailS
                rw [show (119 - q % 64) % 64 = L - 1 by have := hL.out; omega]
              rw [ht8] at T
              have E6 := E.out.below (B.out.mono hba)
              have R6 := R.out.below (by rw [hgt]; exact B.out)
              have hrl := hE.out.rest_len
              have hnl := R.out.len
              have hT8 : n' + (L + 8) ≤ 140737488355328 := by rw [hq.out] at hrl; omega
              have bT := T.out.bts
              replace E := Lib.hid E6
              replace R := Lib.hid R6
              clear B T E6 R6 Z hrl hnl ht8 hba hgt
              go_wp2_with fail
              refine (dig_eat w (g + 1) g (g + 1 + 1) A' n' c' s rest A2 (L + 8) c2 (tailS q) wr E.out R.out hE.out.len hE.out.w hT bT hT8).mono ?_
              rintro e w6 ⟨⟨v, rfl⟩, A6, n6, c6, E6, R6⟩
              have hE6 := hE.out.more (tailS q)
              have hD : Hid (digestS ms = outS (foldS ((rest ++ tailS q).length / 64) s (rest ++ tailS q))) := Lib.hid (by
                rw [hE6.state]
                unfold digestS padS
                rw [hq.out])
              have hl6 := hE6.len
              have hw6 := hE6.w
              generalize foldS ((rest ++ tailS q).length / 64) s (rest ++ tailS q) = s6 at E6 hE6 hD hl6 hw6
              have SB := Lib.hid E6.st.blk
              have B6 : Hid (Below w.heap.size w w6) := Lib.hid E6.bl
              have hsz : Hid ((Tryd.prog.info? 41).map (·.size) = some (cellsW s6).size) := Lib.hid (by rw [cellsW_size, hl6]; kernel_rfl)
              have hix := Lib.hid (fun (k : Nat) (hk : k < 8) (W : World) => indexW 41 8 s6 k hk hl6 Tryd.underlying41 W)
              replace hl6 := Lib.hid hl6
              replace hw6 := Lib.hid hw6
              clear E R bT hE hE6 E6 R6
              go_wp2_with (refine wpList_load_row rfl 41 _ rfl g rfl 41 (cellsW s6) (0, 0) _ SB.out Tryd.underlying41 rfl hsz.out ?_)
              clear SB hsz
              have Z6 : Hid (w.heap.size ≤ w6.heap.size) := Lib.hid B6.out.size
              go_loopw [67, 12] (fun vi vo wr => ∃ (i A2 : _) (m2 c2 : Nat), vi = .int .i64 ((i : Nat) : Int) ∧ vo = .slice A2 m2 c2 ∧ i ≤ 8 ∧ Hid (m2 = 4 * i) ∧ Hid (Rst wr w.heap.size A2 m2 c2 (outS (s6.take i))) ∧ Hid (Below w.heap.size w wr)) (fun vi _ _ => (8 - intOf vi).toNat)
              case atStart => exact ⟨0, none, 0, 0, rfl, rfl, by omega, Lib.hid rfl, Lib.hid (Rst.nil _ _), B6⟩
              case round =>
                clear B6 Z6
                obtain ⟨i, A2, m2, c2, rfl, rfl, hi, hm2, T, B⟩ := hrel
                by_cases k8 : i < 8
                · have j0 : (i : Int) < 8 := by omega
                  have hixi := fun W => hix.out i k8 W
                  have wx := all32_get hw6.out i
                  have hN : Hid (outS (s6.take (i + 1)) = outS (s6.take i) ++ [s6.getD i 0 / 16777216 % 256, s6.getD i 0 / 65536 % 256, s6.getD i 0 / 256 % 256, s6.getD i 0 % 256]) := Lib.hid (by
                    rw [List.take_succ_eq_append_getElem (by rw [hl6.out]; exact k8), outS_snoc, List.getD_eq_getElem?_getD, List.getElem?_eq_getElem (by rw [hl6.out]; exact k8)]
                    rfl)
                  generalize s6.getD i 0 = x at hixi wx hN
                  go_wp2_with (at_builtin; refine hid_stop ?_)
                  have K := Bts.lit_at wr wr.heap.size 5 [x / 16777216 % 256, x / 65536 % 256, x / 256 % 256, x % 256] rfl (by simp only [byt_cons]; exact ⟨by omega, by omega, by omega, by omega, byt_nil⟩) (by simp)
                  have T' := T.out.below (below_alloc (Below.refl _ _) (.cells (nums .u8 [x / 16777216 % 256, x / 65536 % 256, x / 256 % 256, x % 256]).toArray 5))
                  refine Lib.hid ?_
                  refine wp_rst_append (base := w.heap.size) rfl (.tmp 70) (.tmp 82) 23 rfl Tryd.underlying23 Tryd.info5' rfl rfl T' K (by rw [World.size_alloc]; have := B.out.size; omega) (by have := hm2.out; simp; omega) ?_
                  intro A3 c3 w3 T3 B3
                  rw [← hN.out] at T3
                  have B4 : Hid (Below w.heap.size w w3) := Lib.hid (B.out.trans (((below_alloc (Below.refl _ _) _).mono B.out.size).trans B3))
                  replace T3 := Lib.hid T3
                  clear T B T' K B3 hN hixi
                  go_wp2
                  exact ⟨⟨i + 1, A3, _, c3, by go_num, rfl, by omega, Lib.hid (by have := hm2.out; show m2 + 4 = 4 * (i + 1); omega), T3, B4⟩, by simp [intOf]; omega⟩
                · obtain rfl : i = 8 := by omega
                  rw [List.take_of_length_le (Nat.le_of_eq hl6.out)] at T
                  go_wp2
                  go_ret
                  exact ⟨_, _, _, rfl, by rw [hms.out, hD.out]; exact T.out.bts, B.out⟩
end Go.Proofs.YtaooibcihjkhfaaDoor

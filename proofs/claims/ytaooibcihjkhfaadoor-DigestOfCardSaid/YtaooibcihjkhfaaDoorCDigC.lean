/- The contract of a state with a block in it. Conditions: those that each lemma states. -/
import Derived.Test.YtaooibcihjkhfaaDoorCDigB
import Derived.Laws.CopyOwn
import Derived.Deep.QuietTactic
import Derived.BigQuiet
import Derived.StillTailTactics
namespace Go.Proofs.YtaooibcihjkhfaaDoor
set_option linter.unusedSimpArgs false
set_option linter.unusedVariables false
open Go.RowKit Go.Proofs.YtaooibcihjkhfaaDoorW.PrintWords

theorem quiet_same2 {P : Program} {f : FuncId} {args : Array Value} {w : World} {m n : Nat} {v : Value} (h : Calls P f args (w.drewN (m + n)) fun e w' => e = .returned v ∧ w.drewN (m + n) = w') :
    Calls P f args (w.drewN (m + n)) fun e w'' => e = .returned v ∧ ∃ k, w'' = w.drewN (m + k) := h.mono fun _ _ ⟨he, hm⟩ => ⟨he, n, hm.symm⟩
/-- An element of an array that is no variable. -/
theorem indexW (t n : Nat) (xs : List Int) (k : Nat) (hk : k < n) (hl : xs.length = n) (hu : Tryd.prog.underlying t = some (.array n 39)) (w : World) :
    (Instr.index t (.agg (cellsW xs)) (.int .i64 (k : Int))).run Tryd.prog w = .ok (.int .u32 (xs.getD k 0)) w := by
  have hi : (Tryd.prog.info? 39).map (·.size) = some 1 := by kernel_rfl
  obtain ⟨i0, hi0, hi2⟩ := Option.map_eq_some_iff.1 hi
  have hc := cellsW_get xs k (by omega)
  have h0 : (0 : Int) ≤ (k : Int) ∧ (k : Int) < n := by omega
  simp [Instr.index, asIntOf, Sem.run_bind, run_underlying hu w, sizeOf, typeInfo, hi0, hi2, part, h0, hc, show ¬ n ≤ k by omega]
def zl8 : List Int := List.replicate 8 0
def zs8 : Array Value := cellsW zl8
theorem zs8_ne : zs8 ≠ #[] := by decide +kernel
theorem zero8 (W : World) : (zeroValue 41).run Tryd.prog W = .ok (.agg zs8) W := by
  have h : (Tryd.prog.info? 41).map (·.zero) = some (some (.agg zs8)) := by kernel_rfl
  obtain ⟨i, hi, hz⟩ := Option.map_eq_some_iff.1 h
  simp [zeroValue, typeInfo, Sem.run_bind, hi, hz]
theorem list8 {v : List Int} (h : v.length = 8) : ∃ a0 a1 a2 a3 a4 a5 a6 a7, v = [a0, a1, a2, a3, a4, a5, a6, a7] := by
  match v, h with
  | [a0, a1, a2, a3, a4, a5, a6, a7], _ => exact ⟨_, _, _, _, _, _, _, _, rfl⟩

theorem a32 {a b : Int} (ha : W32 a) (hb : W32 b) : bits .and .u32 a b = ba a b := u32_and a b ha.1 (by have := ha.2; omega) hb.1 (by have := hb.2; omega)
theorem o32 {a b : Int} (ha : W32 a) (hb : W32 b) : bits .or .u32 a b = bo a b := u32_or a b ha.1 (by have := ha.2; omega) hb.1 (by have := hb.2; omega)
theorem copy8 {a0 a1 a2 a3 a4 a5 a6 a7 : Int} (W : World) (gv : Nat) (V : Arw W gv 41 [a0, a1, a2, a3, a4, a5, a6, a7]) :
    (Builtin.copy_ #[56, 56] 3 #[.slice (some ⟨gv, 1, none⟩) 7 7, .slice (some ⟨gv, 0, none⟩) 7 8]).run Tryd.prog W = .ok (goInt 7) (W.setRow gv (cellsW [a0, a0, a1, a2, a3, a4, a5, a6])) := by
  refine (run_copy_row (P := Tryd.prog) W 56 56 3 39 gv 1 7 7 ⟨gv, 0, none⟩ 7 8 (cellsW [a0, a1, a2, a3, a4, a5, a6, a7]) 41 [.int .u32 a0, .int .u32 a1, .int .u32 a2, .int .u32 a3, .int .u32 a4, .int .u32 a5, .int .u32 a6] Tryd.underlying56 (by kernel_rfl) V.blk rfl ?_ (by simp [cellsW]) ?_).trans rfl
  · intro j v hv
    have hj : j < 7 := by have := (List.getElem?_eq_some_iff.1 hv).1; simpa using this
    rw [Addr.add_mid, Nat.zero_add, V.cell j (by simp; omega), ← hv]
    obtain rfl | rfl | rfl | rfl | rfl | rfl | rfl : j = 0 ∨ j = 1 ∨ j = 2 ∨ j = 3 ∨ j = 4 ∨ j = 5 ∨ j = 6 := by omega
    all_goals rfl
  · intro v hv
    simp only [List.mem_cons, List.not_mem_nil, or_false] at hv
    rcases hv with rfl | rfl | rfl | rfl | rfl | rfl | rfl <;> rfl
theorem Tab.set {w : World} (h : Tab w) {p : Addr} (hp : p.block ≠ 0) (v : Value) : Tab (w.setCell p v) := fun i hi => (World.cell?_setCell_other w p ⟨0, i, none⟩ v (fun e => hp (by rw [e]))).trans (h i hi)
theorem if32 : (if IntKind.u32.signed = true then (-1 : Int) else IntKind.u32.max) = 4294967295 := by decide
theorem not32 {a : Int} (ha : W32 a) : bits .xor .u32 4294967295 a = 4294967295 - a := by
  obtain ⟨x, rfl⟩ := Int.eq_ofNat_of_zero_le ha.1
  have hx : x < 4294967296 := by have := ha.2; omega
  rw [show (4294967295 : Int) = ((4294967295 : Nat) : Int) by rfl, u32_xor_nat _ _ (by decide) hx]
  have h1 : 4294967295 ^^^ x = 4294967295 - x := by
    have h2 : (BitVec.allOnes 32 ^^^ BitVec.ofNat 32 x).toNat = 4294967295 ^^^ x := by
      rw [BitVec.toNat_xor, BitVec.toNat_allOnes, BitVec.toNat_ofNat, Nat.mod_eq_of_lt (by omega)]
    rw [← h2, BitVec.allOnes_xor, BitVec.toNat_not, BitVec.toNat_ofNat, Nat.mod_eq_of_lt (by omega)]
  rw [h1]
  omega
theorem t_go {a4 a5 a6 a7 kk ww : Int} (h4 : W32 a4) (h5 : W32 a5) (h6 : W32 a6) (a0 a1 a2 a3 : Int) :
    (((a7 + bits .xor .u32 (bits .xor .u32 (rot a4 6) (rot a4 11)) (rot a4 25) + bits .or .u32 (bits .and .u32 a4 a5) (bits .and .u32 (bits .xor .u32 4294967295 a4) a6) + kk) % 4294967296 + ww) % 4294967296) = tS [a0, a1, a2, a3, a4, a5, a6, a7] kk ww := by
  have r1 := rot_w h4 6 (by omega)
  have r2 := rot_w h4 11 (by omega)
  have r3 := rot_w h4 25 (by omega)
  rw [x32 r1 r2, x32 (bx_w r1 r2) r3, not32 h4, a32 h4 h5, a32 (not_w h4) h6, o32 (ba_w h4) (ba_w (not_w h4))]
  show ((a7 + sm1 a4 + chs a4 a5 a6 + kk) % 4294967296 + ww) % 4294967296 = (a7 + sm1 a4 + chs a4 a5 a6 + kk + ww) % 4294967296
  omega
theorem u_go {a0 a1 a2 : Int} (h0 : W32 a0) (h1 : W32 a1) (h2 : W32 a2) (a3 a4 a5 a6 a7 : Int) :
    (bits .xor .u32 (bits .xor .u32 (rot a0 2) (rot a0 13)) (rot a0 22) + bits .or .u32 (bits .and .u32 a0 (bits .or .u32 a1 a2)) (bits .and .u32 a1 a2)) % 4294967296 = uS [a0, a1, a2, a3, a4, a5, a6, a7] := by
  have r1 := rot_w h0 2 (by omega)
  have r2 := rot_w h0 13 (by omega)
  have r3 := rot_w h0 22 (by omega)
  rw [x32 r1 r2, x32 (bx_w r1 r2) r3, o32 h1 h2, a32 h0 (bo_w h1 h2), a32 h1 h2, o32 (ba_w h0) (ba_w h1)]
  rfl

set_option maxHeartbeats 4000000 in
set_option maxRecDepth 100000 in
theorem dig_add (s : List Int) (A : Option Addr) (c : Nat) (b : List Int) (w : World) (hl : s.length = 8) (hs : All32 s) (h : Bts w A 64 c b) (hT : Tab w) :
    Calls Tryd.prog 20 #[.agg (cellsW s), .slice A 64 c] w fun e w' => e = .returned (.agg (cellsW (addS s b))) ∧ Below w.heap.size w w' := by
  have z := zero8
  have hne := zs8_ne
  have S0 := Lib.hid (Arw.new w 41 s)
  have hsz : (Tryd.prog.info? 41).map (·.size) = some (cellsW s).size := by rw [cellsW_size, hl]; kernel_rfl
  go_enter Tryd.func20, Tryd.ntmps20
  have hoz : (cellsW zl8).size = (cellsW s).size := by rw [cellsW_size, cellsW_size, hl]; rfl
  have hB1 := below_alloc (below_alloc (Below.refl w.heap.size w) (.cells (cellsW s) 41)) (.cells zs8 41)
  have S1 := S0.out.alloc (.cells zs8 41)
  have R1 : Arw ((w.alloc (.cells (cellsW s) 41)).alloc (.cells zs8 41)) (w.heap.size + 1) 41 zl8 := Arw.at_ (w.alloc (.cells (cellsW s) 41)) (w.heap.size + 1) 41 zl8 (by simp)
  have V2 : Arw (((w.alloc (.cells (cellsW s) 41)).alloc (.cells zs8 41)).alloc (.cells zs8 41)) (w.heap.size + 1 + 1) 41 zl8 := Arw.at_ ((w.alloc (.cells (cellsW s) 41)).alloc (.cells zs8 41)) (w.heap.size + 1 + 1) 41 zl8 (by simp)
  have S2 := S1.alloc (.cells zs8 41)
  have R2 := R1.alloc (.cells zs8 41)
  have hB2 := below_alloc hB1 (.cells zs8 41)
  have S3 := Lib.hid (S2.farRow (g' := w.heap.size + 1 + 1) (by omega) (cellsW s))
  have R3 := Lib.hid (R2.farRow (g' := w.heap.size + 1 + 1) (by omega) (cellsW s))
  have V3 := Lib.hid (V2.setRow s)
  have B3 := Lib.hid (below_setRow hB2 (g := w.heap.size + 1 + 1) (by omega) (cellsW s))
  have H3 := Lib.hid (h.below B3.out)
  have T3 := Lib.hid (hT.below B3.out)
  replace S1 := Lib.hid S1.blk
  replace V2 := Lib.hid V2.blk
  replace hsz := Lib.hid hsz
  replace hoz := Lib.hid hoz
  clear S0 R1 S2 R2 hB1 hB2 h hT
  go_wp2_with (first
    | (refine wpList_load_row rfl 41 _ rfl w.heap.size rfl 41 (cellsW s) (0, 0) _ S1.out Tryd.underlying41 rfl hsz.out ?_)
    | (refine wpList_store_row rfl 41 _ _ rfl (w.heap.size + 1 + 1) (cellsW s) rfl rfl 41 (cellsW zl8) V2.out hsz.out hoz.out (cellsW_one _) (hid_stop ?_)))
  change Hid (wpList _ _ _ _ _ ((((w.alloc (.cells (cellsW s) 41)).alloc (.cells zs8 41)).alloc (.cells zs8 41)).setRow (w.heap.size + 1 + 1) (cellsW s)))
  generalize (((w.alloc (.cells (cellsW s) 41)).alloc (.cells zs8 41)).alloc (.cells zs8 41)).setRow (w.heap.size + 1 + 1) (cellsW s) = w3 at S3 R3 V3 B3 H3 T3 ⊢
  refine Lib.hid ?_
  clear S1 V2 z hne hoz
  go_wp2_with fail
  refine (dig_words A c b w3 H3.out).mono ?_
  rintro e w4 ⟨rfl, hB4⟩
  have hWl : (wordsS b).length = 64 := wordsL_len b 64
  have hix := fun (k : Nat) (hk : k < 64) (W : World) => indexW 51 64 (wordsS b) k hk hWl Tryd.underlying51 W
  have hWw : All32 (wordsS b) := wordsL_w H3.out.byt 64
  have hKw := K64_w
  have S4 := Lib.hid (S3.out.below hB4)
  have R4 := Lib.hid (R3.out.below hB4)
  have V4 := Lib.hid (V3.out.below hB4)
  have T4 := Lib.hid (T3.out.below hB4)
  have B4 := Lib.hid (below_step2 B3.out hB4)
  replace hix := Lib.hid hix
  replace hWw := Lib.hid hWw
  replace hKw := Lib.hid hKw
  replace hWl := Lib.hid hWl
  clear hB4 S3 R3 V3 T3 B3 H3
  obtain ⟨g, hg⟩ : ∃ g, w.heap.size = g := ⟨_, rfl⟩
  rw [hg] at S4 R4 V4 B4 ⊢
  go_wp2
  go_loopw [16] (fun vi wr => ∃ (i : Nat), vi = .int .i64 (i : Int) ∧ i ≤ 64 ∧ Hid (Arw wr (g + 1 + 1) 41 (roundsL (wordsS b) s i)) ∧ Hid (Arw wr g 41 s) ∧ Hid (Arw wr (g + 1) 41 zl8) ∧ Hid (Below g w wr) ∧ Hid (Tab wr)) (fun vi _ => (64 - intOf vi).toNat)
  case atStart => exact ⟨0, rfl, by omega, V4, S4, R4, B4, T4⟩
  case round =>
    clear V4 S4 R4 B4 T4
    obtain ⟨i, rfl, hi, V, S, R, B, T⟩ := hrel
    by_cases h0 : i < 64
    · have i0 : (i : Int) < 64 := by omega
      have i2 : (i : Int) < 72 := by omega
      have hixi := fun W => hix.out i h0 W
      have hN : Hid (roundsL (wordsS b) s (i + 1) = stepS (roundsL (wordsS b) s i) (K64.getD i 0) ((wordsS b).getD i 0)) := Lib.hid rfl
      have cK := T.out i (by omega)
      have wK := all32_get hKw.out i
      have wW := all32_get hWw.out i
      have wv := roundsL_w (wordsS b) hs i
      obtain ⟨a0, a1, a2, a3, a4, a5, a6, a7, hv⟩ := list8 (roundsL_len (wordsS b) hl i)
      rw [hv] at V hN wv
      replace hv := Lib.hid hv
      generalize K64.getD i 0 = kk at cK wK hN
      generalize (wordsS b).getD i 0 = ww at hixi wW hN
      have c0 : wr.cell? ⟨g + 1 + 1, 0, none⟩ = some (.int .u32 a0) := V.out.cell 0 (by simp)
      have c1 : wr.cell? ⟨g + 1 + 1, 1, none⟩ = some (.int .u32 a1) := V.out.cell 1 (by simp)
      have c2 : wr.cell? ⟨g + 1 + 1, 2, none⟩ = some (.int .u32 a2) := V.out.cell 2 (by simp)
      have c4 : wr.cell? ⟨g + 1 + 1, 4, none⟩ = some (.int .u32 a4) := V.out.cell 4 (by simp)
      have c5 : wr.cell? ⟨g + 1 + 1, 5, none⟩ = some (.int .u32 a5) := V.out.cell 5 (by simp)
      have c6 : wr.cell? ⟨g + 1 + 1, 6, none⟩ = some (.int .u32 a6) := V.out.cell 6 (by simp)
      have c7 : wr.cell? ⟨g + 1 + 1, 7, none⟩ = some (.int .u32 a7) := V.out.cell 7 (by simp)
      have w0 := wv a0 (by simp)
      have w1 := wv a1 (by simp)
      have w2 := wv a2 (by simp)
      have w3 := wv a3 (by simp)
      have w4 := wv a4 (by simp)
      have w5 := wv a5 (by simp)
      have w6 := wv a6 (by simp)
      have w7 := wv a7 (by simp)
      have N1 : RightAt a4 6 (rot a4 6) := fun w => dig_right a4 6 w w4 (by decide)
      have N2 : RightAt a4 11 (rot a4 11) := fun w => dig_right a4 11 w w4 (by decide)
      have N3 : RightAt a4 25 (rot a4 25) := fun w => dig_right a4 25 w w4 (by decide)
      have N4 : RightAt a0 2 (rot a0 2) := fun w => dig_right a0 2 w w0 (by decide)
      have N5 : RightAt a0 13 (rot a0 13) := fun w => dig_right a0 13 w w0 (by decide)
      have N6 : RightAt a0 22 (rot a0 22) := fun w => dig_right a0 22 w w0 (by decide)
      go_wp2
      go_quiet (fail)
      go_wp2
      go_quiet (first | (go_at_call 28; with_reducible exact quiet_same2 (N1 _)) | (go_at_call 28; with_reducible exact quiet_same2 (N2 _)) | (go_at_call 28; with_reducible exact quiet_same2 (N3 _)))
      rw [if32, t_go w4 w5 w6 a0 a1 a2 a3]
      obtain ⟨t, ht⟩ : ∃ t, tS [a0, a1, a2, a3, a4, a5, a6, a7] kk ww = t := ⟨_, rfl⟩
      rw [ht]
      replace ht := Lib.hid ht
      go_wp2
      go_quiet (first | (go_at_call 28; with_reducible exact quiet_same2 (N4 _)) | (go_at_call 28; with_reducible exact quiet_same2 (N5 _)) | (go_at_call 28; with_reducible exact quiet_same2 (N6 _)))
      rw [u_go w0 w1 w2 a3 a4 a5 a6 a7]
      obtain ⟨u, hu⟩ : ∃ u, uS [a0, a1, a2, a3, a4, a5, a6, a7] = u := ⟨_, rfl⟩
      rw [hu]
      replace hu := Lib.hid hu
      go_wp2
      generalize hwq : World.drewN _ _ = wq
      have Vq : Hid (Arw wq.drew (g + 1 + 1) 41 [a0, a1, a2, a3, a4, a5, a6, a7]) := Lib.hid (by rw [← hwq]; exact (((V.out.drewN _).drewN _).drewN _).drew)
      have Sq : Hid (Arw wq.drew g 41 s) := Lib.hid (by rw [← hwq]; exact (((S.out.drewN _).drewN _).drewN _).drew)
      have Rq : Hid (Arw wq.drew (g + 1) 41 zl8) := Lib.hid (by rw [← hwq]; exact (((R.out.drewN _).drewN _).drewN _).drew)
      have Bq : Hid (Below g w wq.drew) := Lib.hid (by rw [← hwq]; exact below_drew (pw_below_drewN (pw_below_drewN (pw_below_drewN B.out _) _) _))
      have Tq : Hid (Tab wq.drew) := Lib.hid (by rw [← hwq]; exact T.out)
      clear hwq V S R B T c0 c1 c2 c4 c5 c6 c7 N1 N2 N3 N4 N5 N6 cK hixi
      have hcp := copy8 wq.drew (g + 1 + 1) Vq.out
      have Vc := Lib.hid (Vq.out.setRow [a0, a0, a1, a2, a3, a4, a5, a6])
      have Sc := Lib.hid (Sq.out.farRow (g' := g + 1 + 1) (by omega) (cellsW [a0, a0, a1, a2, a3, a4, a5, a6]))
      have Rc := Lib.hid (Rq.out.farRow (g' := g + 1 + 1) (by omega) (cellsW [a0, a0, a1, a2, a3, a4, a5, a6]))
      have Bc := Lib.hid (below_setRow Bq.out (g := g + 1 + 1) (by omega) (cellsW [a0, a0, a1, a2, a3, a4, a5, a6]))
      have Tc : Hid (Tab (wq.drew.setRow (g + 1 + 1) (cellsW [a0, a0, a1, a2, a3, a4, a5, a6]))) := Lib.hid (fun k hk => (cell_setRow_other _ _ _ ⟨0, k, none⟩ (by simp)).trans (Tq.out k hk))
      clear Vq Sq Rq Bq Tq
      go_region_held3 (fun _ => True) (trivial) (fail)
      generalize wq.drew.setRow (g + 1 + 1) (cellsW [a0, a0, a1, a2, a3, a4, a5, a6]) = wc at Vc Sc Rc Bc Tc ⊢
      clear hcp
      have k0 : wc.cell? ⟨g + 1 + 1, 0, none⟩ = some (.int .u32 a0) := Vc.out.cell 0 (by simp)
      have k4 : wc.cell? ⟨g + 1 + 1, 4, none⟩ = some (.int .u32 a3) := Vc.out.cell 4 (by simp)
      have f0 := Vc.out.free 0
      have f4 := Vc.out.free 4
      go_wp2
      have Vf := (Vc.out.set 0 ((t + u) % 4294967296)).set 4 ((a3 + t) % 4294967296)
      have hfin : (([a0, a0, a1, a2, a3, a4, a5, a6].set 0 ((t + u) % 4294967296)).set 4 ((a3 + t) % 4294967296)) = roundsL (wordsS b) s (i + 1) := by
        rw [hN.out]
        unfold stepS
        rw [ht.out, hu.out]
        rfl
      rw [hfin] at Vf
      have hne : g ≠ g + 1 + 1 := by omega
      exact ⟨⟨i + 1, by go_num, by omega, Lib.hid Vf, Lib.hid ((Sc.out.far hne _).far hne _), Lib.hid ((Rc.out.far (by simp) _).far (by simp) _), Lib.hid (below_set (below_set Bc.out (by simp; omega) _) (by simp; omega) _), Lib.hid ((Tc.out.set (by simp) _).set (by simp) _)⟩, by simp [intOf]; omega⟩
    · obtain rfl : i = 64 := by omega
      rw [show ((64 : Nat) : Int) = 64 from rfl]
      have hW8 : Hid ((roundsL (wordsS b) s 64).length = 8) := Lib.hid (roundsL_len _ hl 64)
      have hadd : Hid (sumS s (roundsL (wordsS b) s 64) 8 = addS s b) := Lib.hid rfl
      have hW32 := Lib.hid (roundsL_w (wordsS b) hs 64)
      generalize roundsL (wordsS b) s 64 = v at V hW8 hadd hW32
      go_wp2
      go_loopw [87] (fun vi wr => ∃ (i : Nat), vi = .int .i64 (i : Int) ∧ i ≤ 8 ∧ Hid (Arw wr (g + 1 + 1) 41 (sumS s v i)) ∧ Hid (Arw wr g 41 s) ∧ Hid (Arw wr (g + 1) 41 zl8) ∧ Hid (Below g w wr)) (fun vi _ => (8 - intOf vi).toNat)
      case atStart => exact ⟨0, rfl, by omega, V, S, R, B⟩
      case round =>
        clear V S R B T
        obtain ⟨i, rfl, hi, V, S, R, B⟩ := hrel
        by_cases h0 : i < 8
        · have i0 : (i : Int) < 8 := by omega
          have hlen : (sumS s v i).length = 8 := by rw [sumS_len, hW8.out]
          have cv := V.out.cell i (by omega)
          have fv := V.out.free i
          have cs := S.out.cell i (by omega)
          have hN : Hid (sumS s v (i + 1) = (sumS s v i).set i (m32 ((sumS s v i).getD i 0 + s.getD i 0))) := Lib.hid rfl
          generalize (sumS s v i).getD i 0 = x at cv hN
          generalize s.getD i 0 = y at cs hN
          go_wp2
          go_still_tail 8, (by kernel_rfl)
          change wpList _ _ _ _ _ wr.drew
          replace V := Lib.hid V.out.drew
          replace S := Lib.hid S.out.drew
          replace R := Lib.hid R.out.drew
          replace B := Lib.hid (below_drew B.out)
          replace cv : wr.drew.cell? ⟨g + 1 + 1, i, none⟩ = some (.int .u32 x) := cv
          replace fv : wr.drew.frozen? ⟨g + 1 + 1, i, none⟩ = false := fv
          generalize wr.drew = wd at V S R B cv fv ⊢
          go_wp2
          have Vf := V.out.set i ((x + y) % 4294967296)
          have hfin : (sumS s v i).set i ((x + y) % 4294967296) = sumS s v (i + 1) := hN.out.symm
          rw [hfin] at Vf
          exact ⟨⟨i + 1, by go_num, by omega, Lib.hid Vf, Lib.hid (S.out.far (by simp; omega) _), Lib.hid (R.out.far (by simp) _), Lib.hid (below_set B.out (by simp; omega) _)⟩, by simp [intOf]; omega⟩
        · obtain rfl : i = 8 := by omega
          rw [hadd.out] at V
          have hal : (addS s b).length = 8 := addS_len b hl
          have hi : (Tryd.prog.info? 41).map (·.size) = some (cellsW (addS s b)).size := by rw [cellsW_size, hal, ← hl, ← cellsW_size]; exact hsz.out
          have ho : (cellsW zl8).size = (cellsW (addS s b)).size := by rw [cellsW_size, cellsW_size, hal]; rfl
          have Q := Lib.hid (R.out.setRow (addS s b)).blk
          have OB := Lib.hid V.out.blk
          have RB := Lib.hid R.out.blk
          replace hi := Lib.hid hi
          replace ho := Lib.hid ho
          have HC := Lib.hid (below_setRow B.out (g := g + 1) (by omega) (cellsW (addS s b)))
          clear V S R B hal
          go_wp2_with (first | (refine wpList_load_row rfl 41 _ rfl (g + 1 + 1) rfl 41 (cellsW (addS s b)) (0, 0) _ OB.out Tryd.underlying41 rfl hi.out ?_) | (refine wpList_store_row rfl 41 _ _ rfl (g + 1) (cellsW (addS s b)) rfl rfl 41 (cellsW zl8) RB.out hi.out ho.out (cellsW_one _) ?_))
          refine ret_cell1 rfl rfl Q.out Tryd.underlying41 rfl hi.out ?_
          exact ⟨rfl, by rw [hg]; exact HC.out⟩
end Go.Proofs.YtaooibcihjkhfaaDoor

/- The contract of what eats bytes. Conditions: those that each lemma states. -/
import Derived.Test.YtaooibcihjkhfaaDoorCDigC
import Derived.Test.YtaooibcihjkhfaaDoorRst
import Derived.Test.YtaooibcihjkhfaaDoorCBoth
import Derived.Deep.LoopGhost
namespace Go.Proofs.YtaooibcihjkhfaaDoor
set_option linter.unusedSimpArgs false
set_option linter.unusedVariables false
open Go.RowKit Go.Proofs.YtaooibcihjkhfaaDoorW.PrintWords

theorem foldS_snoc (k : Nat) (s m : List Int) : foldS (k + 1) s m = addS (foldS k s m) ((m.drop (64 * k)).take 64) := by
  rw [foldS_add k 1]; rfl
/-- What lies in memory while a digest is reckoned. -/
structure Eat (w0 w : World) (gr gs base : Nat) (A : Option Addr) (n c : Nat) (s : List Int) : Prop where
  box : w.heap[gr]? = some (.cells #[.slice A n c] 23 (0, 0))
  st : Arw w gs 41 s
  bl : Below w0.heap.size w0 w
  hgr : w0.heap.size ≤ gr
  hgs : w0.heap.size ≤ gs
  ne : gr ≠ gs
  gb : gr < base
  sb : gs < base
  ba : base ≤ w.heap.size
section
variable {w0 w w1 : World} {gr gs base : Nat} {A : Option Addr} {n c : Nat} {s : List Int}
theorem Eat.below (h : Eat w0 w gr gs base A n c s) (hb : Below base w w1) : Eat w0 w1 gr gs base A n c s :=
  ⟨(hb.block gr h.gb).trans h.box, ⟨(hb.block gs h.sb).trans h.st.blk⟩, h.bl.trans (hb.mono (by have := h.hgr; have := h.gb; omega)), h.hgr, h.hgs, h.ne, h.gb, h.sb, Nat.le_trans h.ba hb.size⟩
theorem Eat.step (h : Eat w0 w gr gs base A n c s) (hb : Below w.heap.size w w1) : Eat w0 w1 gr gs base A n c s := h.below (hb.mono h.ba)
theorem Eat.put (h : Eat w0 w gr gs base A n c s) (A' : Option Addr) (n' c' : Nat) : Eat w0 (w.setCell ⟨gr, 0, none⟩ (.slice A' n' c')) gr gs base A' n' c' s :=
  ⟨blk_set h.box 0 _, h.st.far (by have := h.ne; simp; omega) _, below_set h.bl (p := ⟨gr, 0, none⟩) h.hgr _, h.hgr, h.hgs, h.ne, h.gb, h.sb, by have := h.ba; simpa [World.setCell] using this⟩
theorem Eat.state (h : Eat w0 w gr gs base A n c s) (s' : List Int) : Eat w0 (w.setRow gs (cellsW s')) gr gs base A n c s' :=
  ⟨(heap_setRow_far w gs _ gr h.ne).trans h.box, h.st.setRow s', below_setRow h.bl h.hgs _, h.hgr, h.hgs, h.ne, h.gb, h.sb, by rw [setRow_size]; exact h.ba⟩
theorem Eat.cell (h : Eat w0 w gr gs base A n c s) : w.cell? ⟨gr, 0, none⟩ = some (.slice A n c) := blk_cell h.box 0
theorem Eat.free (h : Eat w0 w gr gs base A n c s) : w.frozen? ⟨gr, 0, none⟩ = false := blk_frozen h.box 0
end

set_option maxHeartbeats 4000000 in
set_option maxRecDepth 100000 in
theorem dig_eat (w0 : World) (gr gs base : Nat) (A : Option Addr) (n c : Nat) (s rest : List Int) (B : Option Addr) (m d : Nat) (ys : List Int) (w : World) (h0 : Eat w0 w gr gs base A n c s) (hR : Rst w base A n c rest) (hl : s.length = 8) (hs : All32 s) (hT : Tab w0) (hB : Bts w B m d ys) (hm : n + m ≤ 140737488355328) :
    Calls Tryd.prog 19 #[.slice B m d, .pointer (some ⟨gr, 0, none⟩), .pointer (some ⟨gs, 0, none⟩)] w fun e w' => (∃ v, e = .returned v) ∧ ∃ A' n' c', Eat w0 w' gr gs base A' n' c' (foldS ((rest ++ ys).length / 64) s (rest ++ ys)) ∧ Rst w' base A' n' c' ((rest ++ ys).drop (64 * ((rest ++ ys).length / 64))) := by
  have c0 := h0.cell
  have f0 := h0.free
  have hrl := hR.len
  have hyl := hB.len
  obtain ⟨zs, hz⟩ : ∃ zs, rest ++ ys = zs := ⟨_, rfl⟩
  have hzl : Hid (zs.length = n + m) := Lib.hid (by rw [← hz, List.length_append, hrl, hyl])
  obtain ⟨N, hN⟩ : ∃ N, zs.length / 64 = N := ⟨_, rfl⟩
  rw [hz, hN]
  replace hN := Lib.hid hN
  replace hz := Lib.hid hz
  go_enter Tryd.func19, Tryd.ntmps19
  go_wp2_with (at_builtin; refine hid_stop ?_)
  refine Lib.hid ?_
  refine wp_rst_append (base := base) rfl (.tmp 4) (.tmp 5) 23 rfl Tryd.underlying23 Tryd.info5' rfl rfl hR hB h0.ba hm ?_
  intro A1 c1 w1 hR1 hB1
  rw [hz.out] at hR1
  have E1 := h0.below hB1
  have c1' := E1.cell
  have f1' := E1.free
  have E2 := Lib.hid (E1.put A1 (n + m) c1)
  have R2 := Lib.hid (hR1.far (p := ⟨gr, 0, none⟩) h0.gb (.slice A1 (n + m) c1))
  clear hR hR1 hB hB1 c0 f0 h0 hrl hyl
  have st2 : w1.setCell ⟨gr, 0, none⟩ (.slice A1 (n + m) c1) = w1.setCell ⟨gr, 0, none⟩ (.slice A1 (n + m) c1) := rfl
  clear st2
  go_wp2
  clear c1' f1' E1
  generalize w1.setCell ⟨gr, 0, none⟩ (.slice A1 (n + m) c1) = w2 at E2 R2 ⊢
  have hs2 := Lib.hid hs
  have st0 : Hid (foldS 0 s zs = s) := Lib.hid rfl
  have rt0 : Hid (zs.drop (64 * 0) = zs) := Lib.hid (by simp)
  go_loopg [7] (N + 1) (fun kq _v7 w' => ∃ (k : Nat) (A' : Option Addr) (n' c' : Nat), Aside0 (k + kq = N + 1) ∧ Hid (k ≤ N) ∧ Hid (n' + 64 * k = n + m) ∧ Hid (Eat w0 w' gr gs base A' n' c' (foldS k s zs)) ∧ Hid (Rst w' base A' n' c' (zs.drop (64 * k))))
  case atStart => exact ⟨0, A1, n + m, c1, ⟨by omega⟩, Lib.hid (Nat.zero_le _), Lib.hid (by omega), by rw [st0.out]; exact E2, by rw [rt0.out]; exact R2⟩
  case round =>
    clear E2 R2 st0 rt0
    obtain ⟨k, A', n', c', HK, hk, hn', E, R⟩ := hrel
    cases gk with
    | zero => exact absurd HK.out (by have := hk.out; omega)
    | succ k1 =>
      have c0 := E.out.cell
      have f0 := E.out.free
      by_cases h64 : 64 ≤ n'
      · have d64 : decide ((64 : Int) ≤ (n' : Int)) = true := decide_eq_true (by omega)
        have sl : (foldS k s zs).length = 8 := foldS_len _ _ _ hl
        have sw := foldS_w k s zs hs
        have hle := R.out.le
        have hcap := R.out.cap
        obtain ⟨a0, a1, a2, a3, a4, a5, a6, a7, hv⟩ := list8 sl
        have S := E.out.st
        have hF : Hid (addS (foldS k s zs) ((zs.drop (64 * k)).take 64) = foldS (k + 1) s zs) := Lib.hid (foldS_snoc k s zs).symm
        rw [hv] at S sl sw hF
        have q0 : wr.cell? ⟨gs, 0, none⟩ = some (.int .u32 a0) := S.cell 0 (by simp)
        have q1 : wr.cell? ⟨gs, 1, none⟩ = some (.int .u32 a1) := S.cell 1 (by simp)
        have q2 : wr.cell? ⟨gs, 2, none⟩ = some (.int .u32 a2) := S.cell 2 (by simp)
        have q3 : wr.cell? ⟨gs, 3, none⟩ = some (.int .u32 a3) := S.cell 3 (by simp)
        have q4 : wr.cell? ⟨gs, 4, none⟩ = some (.int .u32 a4) := S.cell 4 (by simp)
        have q5 : wr.cell? ⟨gs, 5, none⟩ = some (.int .u32 a5) := S.cell 5 (by simp)
        have q6 : wr.cell? ⟨gs, 6, none⟩ = some (.int .u32 a6) := S.cell 6 (by simp)
        have q7 : wr.cell? ⟨gs, 7, none⟩ = some (.int .u32 a7) := S.cell 7 (by simp)
        have j1 : (64 : Int) ≤ (c' : Int) := by omega
        replace sl := Lib.hid sl
        replace sw := Lib.hid sw
        clear S
        go_wp2
        go_still_tail 3, (by kernel_rfl)
        change wpList _ _ _ _ _ wr.drew
        replace E := Lib.hid (E.out.step (below_drew (Below.refl _ _)))
        replace R := Lib.hid (R.out.below (below_drew (Below.refl _ _)))
        clear q0 q1 q2 q3 q4 q5 q6 q7 c0 f0
        generalize wr.drew = wd at E R ⊢
        go_wp2_with fail
        refine (dig_add [a0, a1, a2, a3, a4, a5, a6, a7] A' c' _ wd sl.out sw.out (R.out.bts.take 64 h64) (hT.below E.out.bl)).mono ?_
        rintro e w5 ⟨rfl, hB5⟩
        rw [hF.out]
        replace E := Lib.hid (E.out.step hB5)
        replace R := Lib.hid (R.out.below hB5)
        clear hB5
        have hs1 : (Tryd.prog.info? 41).map (·.size) = some (cellsW (foldS (k + 1) s zs)).size := by rw [cellsW_size, foldS_len _ _ _ hl]; kernel_rfl
        have ho1 : (cellsW [a0, a1, a2, a3, a4, a5, a6, a7]).size = (cellsW (foldS (k + 1) s zs)).size := by rw [cellsW_size, cellsW_size, foldS_len _ _ _ hl]; rfl
        have SB : w5.heap[gs]? = some (.cells (cellsW [a0, a1, a2, a3, a4, a5, a6, a7]) 41 (0, 0)) := by rw [← hv]; exact E.out.st.blk
        replace E := Lib.hid (E.out.state (foldS (k + 1) s zs))
        replace R := Lib.hid (R.out.farRow (g := gs) E.out.sb (cellsW (foldS (k + 1) s zs)))
        replace hs1 := Lib.hid hs1
        replace ho1 := Lib.hid ho1
        replace SB := Lib.hid SB
        replace hv := Lib.hid hv
        go_wp2_with (refine wpList_store_row rfl 41 _ _ rfl gs (cellsW (foldS (k + 1) s zs)) rfl rfl 41 (cellsW [a0, a1, a2, a3, a4, a5, a6, a7]) SB.out hs1.out ho1.out (cellsW_one _) (hid_stop ?_))
        change Hid (wpList _ _ _ _ _ (w5.setRow gs (cellsW (foldS (k + 1) s zs))))
        generalize w5.setRow gs (cellsW (foldS (k + 1) s zs)) = w6 at E R ⊢
        refine Lib.hid ?_
        clear SB hs1 ho1
        have c0 := E.out.cell
        have f0 := E.out.free
        have R7 := R.out.drop 64 h64
        rw [List.drop_drop, show 64 * k + 64 = 64 * (k + 1) by omega] at R7
        have E7 := Lib.hid (E.out.put (if c' = 64 then A' else Option.map (fun x => { block := x.block, off := x.off + 64 }) A') (n' - 64) (c' - 64))
        have R8 := Lib.hid (R7.far (p := ⟨gr, 0, none⟩) E.out.gb (.slice (if c' = 64 then A' else Option.map (fun x => { block := x.block, off := x.off + 64 }) A') (n' - 64) (c' - 64)))
        clear R7
        by_cases hc : c' = 64
        · subst hc
          obtain rfl : n' = 64 := by omega
          rw [if_pos rfl, show (64 : Nat) - 64 = 0 from rfl] at E7 R8
          go_wp2
          go_roundg k1
          case measure => omega
          case rel => exact ⟨k + 1, _, _, _, ⟨by have := HK.out; omega⟩, Lib.hid (by have := hn'.out; have := hN.out; have := hzl.out; omega), Lib.hid (by have := hn'.out; omega), E7, R8⟩
        · rw [if_neg hc] at E7 R8
          go_wp2
          go_roundg k1
          case measure => omega
          case rel => exact ⟨k + 1, _, _, _, ⟨by have := HK.out; omega⟩, Lib.hid (by have := hn'.out; have := hN.out; have := hzl.out; omega), Lib.hid (by have := hn'.out; omega), E7, R8⟩
      · have d64 : decide ((64 : Int) ≤ (n' : Int)) = false := decide_eq_false (by omega)
        obtain rfl : k = N := by have := hk.out; have := hn'.out; have := hN.out; have := hzl.out; omega
        go_wp2
        go_end0
        exact ⟨⟨_, rfl⟩, _, _, _, E.out, R.out⟩
end Go.Proofs.YtaooibcihjkhfaaDoor

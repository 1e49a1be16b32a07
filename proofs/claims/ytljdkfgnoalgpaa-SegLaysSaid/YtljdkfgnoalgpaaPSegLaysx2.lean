-- PRINTED BY print.sh 35421559b90ae4d0a3588c463048766b98c2df88dd9212a6774a882060cdf62d: not written by this session
import Derived.Test.YtljdkfgnoalgpaaPSegLaysx0
import Derived.Test.YtljdkfgnoalgpaaPSegLaysx1
namespace Go.Proofs.Ytljdkfgnoalgpaa.PSegLays
open Go.RowKit Go.Proofs.YtljdkfgnoalgpaaW.PrintWords Go.Proofs.YtljdkfgnoalgpaaW.PrintLast Go.Proofs.YtljdkfgnoalgpaaW.PrintMore
attribute [local go_sem] max2_int min2_int max_two min_two max_three min_three max_four min_four   -- for this text's walks alone
set_option linter.unusedVariables false
set_option linter.unusedSimpArgs false

/-! ### redoubtref06_Check: function 11 -/
mutual
def redoubtref06_Check.j0 : Nat → Bool → Int → Int → Int → Int → Int → Int → Int → ByteArray → List Int → Option (Int)
  | 0, _, _, _, _, _, _, _, _, _, _ => none
  | k + 1, x3, x133000, x133001, x133002, x133003, x133004, x133005, x133006, x133007, x133008 => if x3 = true then ((redoubtref06_in.f x133002 4294967295).bind fun t137 => (if t137 = true then ((redoubtref06_in.f x133003 4294967295).bind fun t138 => (if t138 = true then ((redoubtref06_in.f x133004 255).bind fun t139 => (if t139 = true then (if ((x133007.size : Int) % 4) = 0 then (redoubtref06_Check.j1 k (decide ((x133007.size : Int) > 40)) x133000 x133001 x133002 x133003 x133004 x133005 x133006 x133007 x133008) else (redoubtref06_Check.j1 k true x133000 x133001 x133002 x133003 x133004 x133005 x133006 x133007 x133008)) else (redoubtref06_Check.j1 k true x133000 x133001 x133002 x133003 x133004 x133005 x133006 x133007 x133008))) else (redoubtref06_Check.j1 k true x133000 x133001 x133002 x133003 x133004 x133005 x133006 x133007 x133008))) else (redoubtref06_Check.j1 k true x133000 x133001 x133002 x133003 x133004 x133005 x133006 x133007 x133008))) else (redoubtref06_Check.j1 k true x133000 x133001 x133002 x133003 x133004 x133005 x133006 x133007 x133008)
def redoubtref06_Check.j1 : Nat → Bool → Int → Int → Int → Int → Int → Int → Int → ByteArray → List Int → Option (Int)
  | 0, _, _, _, _, _, _, _, _, _, _ => none
  | k + 1, x54, x133000, x133001, x133002, x133003, x133004, x133005, x133006, x133007, x133008 => if x54 = true then (some 1) else (if (wrap64 ((wrap64 (20 + (x133007.size : Int))) + (x133008.length : Int))) > 65535 then (some 2) else (some 0))
end
def redoubtref06_Check.f (k : Nat) (a0_0 : Int) (a0_1 : Int) (a0_2 : Int) (a0_3 : Int) (a0_4 : Int) (a0_5 : Int) (a0_6 : Int) (a0_7 : ByteArray) (l0_8 : List Int) : Option (Int) := (redoubtref06_in.f a0_0 65535).bind fun t133 => (if t133 = true then ((redoubtref06_in.f a0_1 65535).bind fun t134 => (if t134 = true then ((redoubtref06_in.f a0_5 65535).bind fun t135 => (if t135 = true then ((redoubtref06_in.f a0_6 65535).bind fun t136 => (redoubtref06_Check.j0 k t136 a0_0 a0_1 a0_2 a0_3 a0_4 a0_5 a0_6 a0_7 l0_8)) else (redoubtref06_Check.j0 k false a0_0 a0_1 a0_2 a0_3 a0_4 a0_5 a0_6 a0_7 l0_8))) else (redoubtref06_Check.j0 k false a0_0 a0_1 a0_2 a0_3 a0_4 a0_5 a0_6 a0_7 l0_8))) else (redoubtref06_Check.j0 k false a0_0 a0_1 a0_2 a0_3 a0_4 a0_5 a0_6 a0_7 l0_8))
theorem redoubtref06_Check.mono_l : ∀ k, (∀ y0 y1 y2 y3 y4 y5 y6 y7 y8 y9, LeO (redoubtref06_Check.j0 k y0 y1 y2 y3 y4 y5 y6 y7 y8 y9) (redoubtref06_Check.j0 (k + 1) y0 y1 y2 y3 y4 y5 y6 y7 y8 y9)) ∧ (∀ y0 y1 y2 y3 y4 y5 y6 y7 y8 y9, LeO (redoubtref06_Check.j1 k y0 y1 y2 y3 y4 y5 y6 y7 y8 y9) (redoubtref06_Check.j1 (k + 1) y0 y1 y2 y3 y4 y5 y6 y7 y8 y9))
  | 0 => ⟨fun _ _ _ _ _ _ _ _ _ _ r h => by simp [redoubtref06_Check.j0] at h, fun _ _ _ _ _ _ _ _ _ _ r h => by simp [redoubtref06_Check.j1] at h⟩
  | k + 1 => by
    obtain ⟨ih0, ih1⟩ := redoubtref06_Check.mono_l k
    refine ⟨?_, ?_⟩
    · intro y0 y1 y2 y3 y4 y5 y6 y7 y8 y9
      unfold redoubtref06_Check.j0
      repeat' first
      | (with_reducible exact ih0 _ _ _ _ _ _ _ _ _ _)
      | (with_reducible exact ih1 _ _ _ _ _ _ _ _ _ _)
      | (with_reducible exact LeO.refl _)
      | (with_reducible exact LeO.none _)
      | (with_reducible refine LeO.ite ?_ ?_)
      | (with_reducible refine LeO.bind ?_ (fun _ => ?_))
      | exact ih0 _ _ _ _ _ _ _ _ _ _
      | exact ih1 _ _ _ _ _ _ _ _ _ _
      | exact LeO.none _
      | refine LeO.ite ?_ ?_
      | refine LeO.bind ?_ (fun _ => ?_)
    · intro y0 y1 y2 y3 y4 y5 y6 y7 y8 y9
      unfold redoubtref06_Check.j1
      repeat' first
      | (with_reducible exact ih0 _ _ _ _ _ _ _ _ _ _)
      | (with_reducible exact ih1 _ _ _ _ _ _ _ _ _ _)
      | (with_reducible exact LeO.refl _)
      | (with_reducible exact LeO.none _)
      | (with_reducible refine LeO.ite ?_ ?_)
      | (with_reducible refine LeO.bind ?_ (fun _ => ?_))
      | exact ih0 _ _ _ _ _ _ _ _ _ _
      | exact ih1 _ _ _ _ _ _ _ _ _ _
      | exact LeO.none _
      | refine LeO.ite ?_ ?_
      | refine LeO.bind ?_ (fun _ => ?_)
theorem redoubtref06_Check.mono : ∀ a0 a1 a2 a3 a4 a5 a6 a7 a8 k, LeO (redoubtref06_Check.f k a0 a1 a2 a3 a4 a5 a6 a7 a8) (redoubtref06_Check.f (k + 1) a0 a1 a2 a3 a4 a5 a6 a7 a8) := by
  intro a0 a1 a2 a3 a4 a5 a6 a7 a8 k
  obtain ⟨ih0, ih1⟩ := redoubtref06_Check.mono_l k
  unfold redoubtref06_Check.f
  repeat' first
      | (with_reducible exact ih0 _ _ _ _ _ _ _ _ _ _)
      | (with_reducible exact ih1 _ _ _ _ _ _ _ _ _ _)
      | (with_reducible exact LeO.refl _)
      | (with_reducible exact LeO.none _)
      | (with_reducible refine LeO.ite ?_ ?_)
      | (with_reducible refine LeO.bind ?_ (fun _ => ?_))
      | exact ih0 _ _ _ _ _ _ _ _ _ _
      | exact ih1 _ _ _ _ _ _ _ _ _ _
      | exact LeO.none _
      | refine LeO.ite ?_ ?_
      | refine LeO.bind ?_ (fun _ => ?_)
set_option maxHeartbeats 8000000 in
set_option maxRecDepth 100000 in
theorem redoubtref06_Check.calls (k : Nat) (a0_0 : Int) (a0_1 : Int) (a0_2 : Int) (a0_3 : Int) (a0_4 : Int) (a0_5 : Int) (a0_6 : Int) (a0_7 : ByteArray) (A0_8 : Option Addr) (c0_8 : Nat) (l0_8 : List Int) (r : Int) (w : World) (hr0_8 : Kd.C (Kd.int .u8) w A0_8 l0_8.length l0_8) (hc0_8 : l0_8.length ≤ c0_8) (h : redoubtref06_Check.f k a0_0 a0_1 a0_2 a0_3 a0_4 a0_5 a0_6 a0_7 l0_8 = some r) :
    Calls Try.prog 11 #[.agg #[.int .i64 a0_0, .int .i64 a0_1, .int .i64 a0_2, .int .i64 a0_3, .int .i64 a0_4, .int .i64 a0_5, .int .i64 a0_6, .string a0_7, .slice A0_8 l0_8.length c0_8]] w fun e w' => e = .returned (.int .i64 r) ∧ Below w.heap.size w w' := by
  have hu24 := Try.underlying24
  have HR0_8 := Aside0.mk hr0_8
  have HC0_8 := Aside0.mk hc0_8
  clear hr0_8 hc0_8
  have HB := Aside0.mk (Below.refl w.heap.size w)
  have H : ((redoubtref06_in.f a0_0 65535).bind fun t133 => (if t133 = true then ((redoubtref06_in.f a0_1 65535).bind fun t134 => (if t134 = true then ((redoubtref06_in.f a0_5 65535).bind fun t135 => (if t135 = true then ((redoubtref06_in.f a0_6 65535).bind fun t136 => (redoubtref06_Check.j0 k t136 a0_0 a0_1 a0_2 a0_3 a0_4 a0_5 a0_6 a0_7 l0_8)) else (redoubtref06_Check.j0 k false a0_0 a0_1 a0_2 a0_3 a0_4 a0_5 a0_6 a0_7 l0_8))) else (redoubtref06_Check.j0 k false a0_0 a0_1 a0_2 a0_3 a0_4 a0_5 a0_6 a0_7 l0_8))) else (redoubtref06_Check.j0 k false a0_0 a0_1 a0_2 a0_3 a0_4 a0_5 a0_6 a0_7 l0_8))) = some r := h
  clear h
  have HC2 := Aside0.mk H
  clear H
  go_enter Try.func11, Try.ntmps11
  go_upto_region 1 with (first | ((with_reducible refine gate_dst (N := 1) rfl ?_); (try (refine gate_guard (by rfl) ?_; dsimp only)); refine box_event ?hg (N := 1) ?hd (cs := #[.int .i64 a0_0, .int .i64 a0_1, .int .i64 a0_2, .int .i64 a0_3, .int .i64 a0_4, .int .i64 a0_5, .int .i64 a0_6, .string a0_7, .slice A0_8 l0_8.length c0_8]) (t := 24) ?hr ?_; (case hd => rfl); (case hg => rfl); (case hr => first | (go_simp; done) | (go_simp; rfl)); intro gb132 hg w3 hbox hb; have n0_ := Aside0.mk (below_step (by repeat (first | (with_reducible first | exact HB.out | apply below_alloc | apply pw_below_drewN | apply below_drew1) | exact HB.out)) hb); have n1_ := Aside0.mk (hbox); have n2_ := Aside0.mk ((by rw [hg]; exact (below_size (by repeat (first | (with_reducible first | exact HB.out | apply below_alloc | apply pw_below_drewN | apply below_drew1) | exact HB.out))) : w.heap.size ≤ gb132)); have n3_ := Aside0.mk ((by rw [hg]; exact (below_size (by repeat (first | (with_reducible first | exact HB.out | apply below_alloc | apply pw_below_drewN | apply below_drew1) | exact HB.out))) : w.heap.size ≤ gb132)); clear HB; have HB := n0_; have BK132 := n1_; have GW132 := n2_; have GE132 := n3_; clear n0_ n1_ n2_ n3_; clear hb hbox hg))
  (try simp only [Act.put, List.setIfInBounds_toArray, List.set_cons_zero, List.set_cons_succ])
  go_cut [3] (fun v3 wc => ∃ (kq : Nat) (x3_1 : Bool), v3 = .bool x3_1 ∧ Aside0 (redoubtref06_Check.j0 kq x3_1 a0_0 a0_1 a0_2 a0_3 a0_4 a0_5 a0_6 a0_7 l0_8 = some r) ∧ Aside0 (kq ≤ k) ∧ Aside0 (wc.heap[gb132]? = some (.cells #[.int .i64 a0_0, .int .i64 a0_1, .int .i64 a0_2, .int .i64 a0_3, .int .i64 a0_4, .int .i64 a0_5, .int .i64 a0_6, .string a0_7, (.slice A0_8 l0_8.length c0_8)] 24 (0, 0))) ∧ Aside0 (Below w.heap.size w wc))
  case first =>
    have H := HC2.out
    clear HC2
    replace H := Option.bind_eq_some_iff.mp H
    obtain ⟨t133, A40, H⟩ := H
    replace H : (if t133 = true then ((redoubtref06_in.f a0_1 65535).bind fun t134 => (if t134 = true then ((redoubtref06_in.f a0_5 65535).bind fun t135 => (if t135 = true then ((redoubtref06_in.f a0_6 65535).bind fun t136 => (redoubtref06_Check.j0 k t136 a0_0 a0_1 a0_2 a0_3 a0_4 a0_5 a0_6 a0_7 l0_8)) else (redoubtref06_Check.j0 k false a0_0 a0_1 a0_2 a0_3 a0_4 a0_5 a0_6 a0_7 l0_8))) else (redoubtref06_Check.j0 k false a0_0 a0_1 a0_2 a0_3 a0_4 a0_5 a0_6 a0_7 l0_8))) else (redoubtref06_Check.j0 k false a0_0 a0_1 a0_2 a0_3 a0_4 a0_5 a0_6 a0_7 l0_8)) = some r := H
    have A4 := Aside0.mk A40
    clear A40
    by_cases c5 : t133 = true
    · subst c5
      have H1 : ((redoubtref06_in.f a0_1 65535).bind fun t134 => (if t134 = true then ((redoubtref06_in.f a0_5 65535).bind fun t135 => (if t135 = true then ((redoubtref06_in.f a0_6 65535).bind fun t136 => (redoubtref06_Check.j0 k t136 a0_0 a0_1 a0_2 a0_3 a0_4 a0_5 a0_6 a0_7 l0_8)) else (redoubtref06_Check.j0 k false a0_0 a0_1 a0_2 a0_3 a0_4 a0_5 a0_6 a0_7 l0_8))) else (redoubtref06_Check.j0 k false a0_0 a0_1 a0_2 a0_3 a0_4 a0_5 a0_6 a0_7 l0_8))) = some r := by rw [if_pos rfl] at H; exact H
      clear H
      have H := H1
      clear H1
      replace H := Option.bind_eq_some_iff.mp H
      obtain ⟨t134, A60, H⟩ := H
      replace H : (if t134 = true then ((redoubtref06_in.f a0_5 65535).bind fun t135 => (if t135 = true then ((redoubtref06_in.f a0_6 65535).bind fun t136 => (redoubtref06_Check.j0 k t136 a0_0 a0_1 a0_2 a0_3 a0_4 a0_5 a0_6 a0_7 l0_8)) else (redoubtref06_Check.j0 k false a0_0 a0_1 a0_2 a0_3 a0_4 a0_5 a0_6 a0_7 l0_8))) else (redoubtref06_Check.j0 k false a0_0 a0_1 a0_2 a0_3 a0_4 a0_5 a0_6 a0_7 l0_8)) = some r := H
      have A6 := Aside0.mk A60
      clear A60
      by_cases c7 : t134 = true
      · subst c7
        have H1 : ((redoubtref06_in.f a0_5 65535).bind fun t135 => (if t135 = true then ((redoubtref06_in.f a0_6 65535).bind fun t136 => (redoubtref06_Check.j0 k t136 a0_0 a0_1 a0_2 a0_3 a0_4 a0_5 a0_6 a0_7 l0_8)) else (redoubtref06_Check.j0 k false a0_0 a0_1 a0_2 a0_3 a0_4 a0_5 a0_6 a0_7 l0_8))) = some r := by rw [if_pos rfl] at H; exact H
        clear H
        have H := H1
        clear H1
        replace H := Option.bind_eq_some_iff.mp H
        obtain ⟨t135, A80, H⟩ := H
        replace H : (if t135 = true then ((redoubtref06_in.f a0_6 65535).bind fun t136 => (redoubtref06_Check.j0 k t136 a0_0 a0_1 a0_2 a0_3 a0_4 a0_5 a0_6 a0_7 l0_8)) else (redoubtref06_Check.j0 k false a0_0 a0_1 a0_2 a0_3 a0_4 a0_5 a0_6 a0_7 l0_8)) = some r := H
        have A8 := Aside0.mk A80
        clear A80
        by_cases c9 : t135 = true
        · subst c9
          have H1 : ((redoubtref06_in.f a0_6 65535).bind fun t136 => (redoubtref06_Check.j0 k t136 a0_0 a0_1 a0_2 a0_3 a0_4 a0_5 a0_6 a0_7 l0_8)) = some r := by rw [if_pos rfl] at H; exact H
          clear H
          have H := H1
          clear H1
          replace H := Option.bind_eq_some_iff.mp H
          obtain ⟨t136, A100, H⟩ := H
          replace H : (redoubtref06_Check.j0 k t136 a0_0 a0_1 a0_2 a0_3 a0_4 a0_5 a0_6 a0_7 l0_8) = some r := H
          have A10 := Aside0.mk A100
          clear A100
          have H' := Aside0.mk H
          clear H
          have hcz11_0 : w3.cell? ⟨gb132, 0, none⟩ = some (.int .i64 a0_0) := (blk_cell BK132.out 0).trans rfl
          have hcz11_1 : w3.cell? ⟨gb132, 1, none⟩ = some (.int .i64 a0_1) := (blk_cell BK132.out 1).trans rfl
          have hcz11_2 : w3.cell? ⟨gb132, 2, none⟩ = some (.int .i64 a0_2) := (blk_cell BK132.out 2).trans rfl
          have hcz11_3 : w3.cell? ⟨gb132, 3, none⟩ = some (.int .i64 a0_3) := (blk_cell BK132.out 3).trans rfl
          have hcz11_4 : w3.cell? ⟨gb132, 4, none⟩ = some (.int .i64 a0_4) := (blk_cell BK132.out 4).trans rfl
          have hcz11_5 : w3.cell? ⟨gb132, 5, none⟩ = some (.int .i64 a0_5) := (blk_cell BK132.out 5).trans rfl
          have hcz11_6 : w3.cell? ⟨gb132, 6, none⟩ = some (.int .i64 a0_6) := (blk_cell BK132.out 6).trans rfl
          have hcz11_7 : w3.cell? ⟨gb132, 7, none⟩ = some (.string a0_7) := (blk_cell BK132.out 7).trans rfl
          have hcz11_8 : w3.cell? ⟨gb132, 8, none⟩ = some (.slice A0_8 l0_8.length c0_8) := (blk_cell BK132.out 8).trans rfl
          have hfz11_0 := blk_frozen BK132.out 0
          have hfz11_1 := blk_frozen BK132.out 1
          have hfz11_2 := blk_frozen BK132.out 2
          have hfz11_3 := blk_frozen BK132.out 3
          have hfz11_4 := blk_frozen BK132.out 4
          have hfz11_5 := blk_frozen BK132.out 5
          have hfz11_6 := blk_frozen BK132.out 6
          have hfz11_7 := blk_frozen BK132.out 7
          have hfz11_8 := blk_frozen BK132.out 8
          go_wp2_with (first | ((with_reducible refine gate_callee (f := 28) rfl ?_); refine goesL_ (some 6) rfl rfl Try.func28 (by kernel_rfl) rfl #[.int .i64 a0_0, .int .i64 65535] rfl (by (try simp only [List.map_toArray, List.map_cons, List.map_nil]); first | done | rfl | (simp only [List.length_drop, List.length_take]; rfl)) ?_; (with_reducible refine (redoubtref06_in.calls a0_0 65535 true _ A4.out).mono ?_); rintro e w' ⟨rfl, ⟨nd, rfl⟩⟩; refine ⟨_, rfl, ?_⟩) | (go_at_call 28; (with_reducible refine (redoubtref06_in.calls a0_1 65535 true _ A6.out).mono ?_); rintro e w' ⟨rfl, ⟨nd, rfl⟩⟩) | (go_at_call 28; (with_reducible refine (redoubtref06_in.calls a0_5 65535 true _ A8.out).mono ?_); rintro e w' ⟨rfl, ⟨nd, rfl⟩⟩) | (go_at_call 28; (with_reducible refine (redoubtref06_in.calls a0_6 65535 t136 _ A10.out).mono ?_); rintro e w' ⟨rfl, ⟨nd, rfl⟩⟩))
          go_meet
          case rel => exact ⟨_, (t136), (by first | rfl | (simp; done) | (simp [*]; done)), H', ⟨by first | omega | exact Nat.le_refl _⟩, ⟨by (with_reducible repeat (first | refine blk_drewN ?_ _ | refine blk_drew ?_ | refine blk_alloc ?_ _)); exact BK132.out⟩, ⟨by repeat (first | (with_reducible first | exact HB.out | apply below_alloc | apply pw_below_drewN | apply below_drew1 | refine below_set ?_ GE132.out) | exact HB.out)⟩⟩
        · replace c9 := Bool.eq_false_iff.mpr c9
          subst c9
          have H1 : (redoubtref06_Check.j0 k false a0_0 a0_1 a0_2 a0_3 a0_4 a0_5 a0_6 a0_7 l0_8) = some r := by rw [if_neg (show ¬ (false = true) by decide)] at H; exact H
          clear H
          have H := H1
          clear H1
          have H' := Aside0.mk H
          clear H
          have hcz12_0 : w3.cell? ⟨gb132, 0, none⟩ = some (.int .i64 a0_0) := (blk_cell BK132.out 0).trans rfl
          have hcz12_1 : w3.cell? ⟨gb132, 1, none⟩ = some (.int .i64 a0_1) := (blk_cell BK132.out 1).trans rfl
          have hcz12_2 : w3.cell? ⟨gb132, 2, none⟩ = some (.int .i64 a0_2) := (blk_cell BK132.out 2).trans rfl
          have hcz12_3 : w3.cell? ⟨gb132, 3, none⟩ = some (.int .i64 a0_3) := (blk_cell BK132.out 3).trans rfl
          have hcz12_4 : w3.cell? ⟨gb132, 4, none⟩ = some (.int .i64 a0_4) := (blk_cell BK132.out 4).trans rfl
          have hcz12_5 : w3.cell? ⟨gb132, 5, none⟩ = some (.int .i64 a0_5) := (blk_cell BK132.out 5).trans rfl
          have hcz12_6 : w3.cell? ⟨gb132, 6, none⟩ = some (.int .i64 a0_6) := (blk_cell BK132.out 6).trans rfl
          have hcz12_7 : w3.cell? ⟨gb132, 7, none⟩ = some (.string a0_7) := (blk_cell BK132.out 7).trans rfl
          have hcz12_8 : w3.cell? ⟨gb132, 8, none⟩ = some (.slice A0_8 l0_8.length c0_8) := (blk_cell BK132.out 8).trans rfl
          have hfz12_0 := blk_frozen BK132.out 0
          have hfz12_1 := blk_frozen BK132.out 1
          have hfz12_2 := blk_frozen BK132.out 2
          have hfz12_3 := blk_frozen BK132.out 3
          have hfz12_4 := blk_frozen BK132.out 4
          have hfz12_5 := blk_frozen BK132.out 5
          have hfz12_6 := blk_frozen BK132.out 6
          have hfz12_7 := blk_frozen BK132.out 7
          have hfz12_8 := blk_frozen BK132.out 8
          go_wp2_with (first | ((with_reducible refine gate_callee (f := 28) rfl ?_); refine goesL_ (some 6) rfl rfl Try.func28 (by kernel_rfl) rfl #[.int .i64 a0_0, .int .i64 65535] rfl (by (try simp only [List.map_toArray, List.map_cons, List.map_nil]); first | done | rfl | (simp only [List.length_drop, List.length_take]; rfl)) ?_; (with_reducible refine (redoubtref06_in.calls a0_0 65535 true _ A4.out).mono ?_); rintro e w' ⟨rfl, ⟨nd, rfl⟩⟩; refine ⟨_, rfl, ?_⟩) | (go_at_call 28; (with_reducible refine (redoubtref06_in.calls a0_1 65535 true _ A6.out).mono ?_); rintro e w' ⟨rfl, ⟨nd, rfl⟩⟩) | (go_at_call 28; (with_reducible refine (redoubtref06_in.calls a0_5 65535 false _ A8.out).mono ?_); rintro e w' ⟨rfl, ⟨nd, rfl⟩⟩))
          go_meet
          case rel => exact ⟨_, (false), (by first | rfl | (simp; done) | (simp [*]; done)), H', ⟨by first | omega | exact Nat.le_refl _⟩, ⟨by (with_reducible repeat (first | refine blk_drewN ?_ _ | refine blk_drew ?_ | refine blk_alloc ?_ _)); exact BK132.out⟩, ⟨by repeat (first | (with_reducible first | exact HB.out | apply below_alloc | apply pw_below_drewN | apply below_drew1 | refine below_set ?_ GE132.out) | exact HB.out)⟩⟩
      · replace c7 := Bool.eq_false_iff.mpr c7
        subst c7
        have H1 : (redoubtref06_Check.j0 k false a0_0 a0_1 a0_2 a0_3 a0_4 a0_5 a0_6 a0_7 l0_8) = some r := by rw [if_neg (show ¬ (false = true) by decide)] at H; exact H
        clear H
        have H := H1
        clear H1
        have H' := Aside0.mk H
        clear H
        have hcz13_0 : w3.cell? ⟨gb132, 0, none⟩ = some (.int .i64 a0_0) := (blk_cell BK132.out 0).trans rfl
        have hcz13_1 : w3.cell? ⟨gb132, 1, none⟩ = some (.int .i64 a0_1) := (blk_cell BK132.out 1).trans rfl
        have hcz13_2 : w3.cell? ⟨gb132, 2, none⟩ = some (.int .i64 a0_2) := (blk_cell BK132.out 2).trans rfl
        have hcz13_3 : w3.cell? ⟨gb132, 3, none⟩ = some (.int .i64 a0_3) := (blk_cell BK132.out 3).trans rfl
        have hcz13_4 : w3.cell? ⟨gb132, 4, none⟩ = some (.int .i64 a0_4) := (blk_cell BK132.out 4).trans rfl
        have hcz13_5 : w3.cell? ⟨gb132, 5, none⟩ = some (.int .i64 a0_5) := (blk_cell BK132.out 5).trans rfl
        have hcz13_6 : w3.cell? ⟨gb132, 6, none⟩ = some (.int .i64 a0_6) := (blk_cell BK132.out 6).trans rfl
        have hcz13_7 : w3.cell? ⟨gb132, 7, none⟩ = some (.string a0_7) := (blk_cell BK132.out 7).trans rfl
        have hcz13_8 : w3.cell? ⟨gb132, 8, none⟩ = some (.slice A0_8 l0_8.length c0_8) := (blk_cell BK132.out 8).trans rfl
        have hfz13_0 := blk_frozen BK132.out 0
        have hfz13_1 := blk_frozen BK132.out 1
        have hfz13_2 := blk_frozen BK132.out 2
        have hfz13_3 := blk_frozen BK132.out 3
        have hfz13_4 := blk_frozen BK132.out 4
        have hfz13_5 := blk_frozen BK132.out 5
        have hfz13_6 := blk_frozen BK132.out 6
        have hfz13_7 := blk_frozen BK132.out 7
        have hfz13_8 := blk_frozen BK132.out 8
        go_wp2_with (first | ((with_reducible refine gate_callee (f := 28) rfl ?_); refine goesL_ (some 6) rfl rfl Try.func28 (by kernel_rfl) rfl #[.int .i64 a0_0, .int .i64 65535] rfl (by (try simp only [List.map_toArray, List.map_cons, List.map_nil]); first | done | rfl | (simp only [List.length_drop, List.length_take]; rfl)) ?_; (with_reducible refine (redoubtref06_in.calls a0_0 65535 true _ A4.out).mono ?_); rintro e w' ⟨rfl, ⟨nd, rfl⟩⟩; refine ⟨_, rfl, ?_⟩) | (go_at_call 28; (with_reducible refine (redoubtref06_in.calls a0_1 65535 false _ A6.out).mono ?_); rintro e w' ⟨rfl, ⟨nd, rfl⟩⟩))
        go_meet
        case rel => exact ⟨_, (false), (by first | rfl | (simp; done) | (simp [*]; done)), H', ⟨by first | omega | exact Nat.le_refl _⟩, ⟨by (with_reducible repeat (first | refine blk_drewN ?_ _ | refine blk_drew ?_ | refine blk_alloc ?_ _)); exact BK132.out⟩, ⟨by repeat (first | (with_reducible first | exact HB.out | apply below_alloc | apply pw_below_drewN | apply below_drew1 | refine below_set ?_ GE132.out) | exact HB.out)⟩⟩
    · replace c5 := Bool.eq_false_iff.mpr c5
      subst c5
      have H1 : (redoubtref06_Check.j0 k false a0_0 a0_1 a0_2 a0_3 a0_4 a0_5 a0_6 a0_7 l0_8) = some r := by rw [if_neg (show ¬ (false = true) by decide)] at H; exact H
      clear H
      have H := H1
      clear H1
      have H' := Aside0.mk H
      clear H
      have hcz14_0 : w3.cell? ⟨gb132, 0, none⟩ = some (.int .i64 a0_0) := (blk_cell BK132.out 0).trans rfl
      have hcz14_1 : w3.cell? ⟨gb132, 1, none⟩ = some (.int .i64 a0_1) := (blk_cell BK132.out 1).trans rfl
      have hcz14_2 : w3.cell? ⟨gb132, 2, none⟩ = some (.int .i64 a0_2) := (blk_cell BK132.out 2).trans rfl
      have hcz14_3 : w3.cell? ⟨gb132, 3, none⟩ = some (.int .i64 a0_3) := (blk_cell BK132.out 3).trans rfl
      have hcz14_4 : w3.cell? ⟨gb132, 4, none⟩ = some (.int .i64 a0_4) := (blk_cell BK132.out 4).trans rfl
      have hcz14_5 : w3.cell? ⟨gb132, 5, none⟩ = some (.int .i64 a0_5) := (blk_cell BK132.out 5).trans rfl
      have hcz14_6 : w3.cell? ⟨gb132, 6, none⟩ = some (.int .i64 a0_6) := (blk_cell BK132.out 6).trans rfl
      have hcz14_7 : w3.cell? ⟨gb132, 7, none⟩ = some (.string a0_7) := (blk_cell BK132.out 7).trans rfl
      have hcz14_8 : w3.cell? ⟨gb132, 8, none⟩ = some (.slice A0_8 l0_8.length c0_8) := (blk_cell BK132.out 8).trans rfl
      have hfz14_0 := blk_frozen BK132.out 0
      have hfz14_1 := blk_frozen BK132.out 1
      have hfz14_2 := blk_frozen BK132.out 2
      have hfz14_3 := blk_frozen BK132.out 3
      have hfz14_4 := blk_frozen BK132.out 4
      have hfz14_5 := blk_frozen BK132.out 5
      have hfz14_6 := blk_frozen BK132.out 6
      have hfz14_7 := blk_frozen BK132.out 7
      have hfz14_8 := blk_frozen BK132.out 8
      go_wp2_with (first | ((with_reducible refine gate_callee (f := 28) rfl ?_); refine goesL_ (some 6) rfl rfl Try.func28 (by kernel_rfl) rfl #[.int .i64 a0_0, .int .i64 65535] rfl (by (try simp only [List.map_toArray, List.map_cons, List.map_nil]); first | done | rfl | (simp only [List.length_drop, List.length_take]; rfl)) ?_; (with_reducible refine (redoubtref06_in.calls a0_0 65535 false _ A4.out).mono ?_); rintro e w' ⟨rfl, ⟨nd, rfl⟩⟩; refine ⟨_, rfl, ?_⟩))
      go_meet
      case rel => exact ⟨_, (false), (by first | rfl | (simp; done) | (simp [*]; done)), H', ⟨by first | omega | exact Nat.le_refl _⟩, ⟨by (with_reducible repeat (first | refine blk_drewN ?_ _ | refine blk_drew ?_ | refine blk_alloc ?_ _)); exact BK132.out⟩, ⟨by repeat (first | (with_reducible first | exact HB.out | apply below_alloc | apply pw_below_drewN | apply below_drew1 | refine below_set ?_ GE132.out) | exact HB.out)⟩⟩
  case rest =>
    clear HC2
    try clear c1
    try clear c2
    try clear p2
    try clear c5
    try clear c7
    try clear c9
    try clear c11
    try clear hcz11_0
    try clear hcz11_1
    try clear hcz11_2
    try clear hcz11_3
    try clear hcz11_4
    try clear hcz11_5
    try clear hcz11_6
    try clear hcz11_7
    try clear hcz11_8
    try clear hcz12_0
    try clear hcz12_1
    try clear hcz12_2
    try clear hcz12_3
    try clear hcz12_4
    try clear hcz12_5
    try clear hcz12_6
    try clear hcz12_7
    try clear hcz12_8
    try clear hcz13_0
    try clear hcz13_1
    try clear hcz13_2
    try clear hcz13_3
    try clear hcz13_4
    try clear hcz13_5
    try clear hcz13_6
    try clear hcz13_7
    try clear hcz13_8
    try clear hcz14_0
    try clear hcz14_1
    try clear hcz14_2
    try clear hcz14_3
    try clear hcz14_4
    try clear hcz14_5
    try clear hcz14_6
    try clear hcz14_7
    try clear hcz14_8
    try clear hfz11_0
    try clear hfz11_1
    try clear hfz11_2
    try clear hfz11_3
    try clear hfz11_4
    try clear hfz11_5
    try clear hfz11_6
    try clear hfz11_7
    try clear hfz11_8
    try clear hfz12_0
    try clear hfz12_1
    try clear hfz12_2
    try clear hfz12_3
    try clear hfz12_4
    try clear hfz12_5
    try clear hfz12_6
    try clear hfz12_7
    try clear hfz12_8
    try clear hfz13_0
    try clear hfz13_1
    try clear hfz13_2
    try clear hfz13_3
    try clear hfz13_4
    try clear hfz13_5
    try clear hfz13_6
    try clear hfz13_7
    try clear hfz13_8
    try clear hfz14_0
    try clear hfz14_1
    try clear hfz14_2
    try clear hfz14_3
    try clear hfz14_4
    try clear hfz14_5
    try clear hfz14_6
    try clear hfz14_7
    try clear hfz14_8
    obtain ⟨kq, x3_1, rfl, HA, HJ1, BK132, HB⟩ := hcut
    cases kq with
    | zero => exact absurd HA.out (by simp [redoubtref06_Check.j0])
    | succ kj1 =>
      have H := HA.out
      clear HA
      simp only [redoubtref06_Check.j0] at H
      have HC15 := Aside0.mk H
      clear H
      go_upto_region 2 with (fail)
      go_cut [54] (fun v54 wc => ∃ (kq : Nat) (x54_14 : Bool), v54 = .bool x54_14 ∧ Aside0 (redoubtref06_Check.j1 kq x54_14 a0_0 a0_1 a0_2 a0_3 a0_4 a0_5 a0_6 a0_7 l0_8 = some r) ∧ Aside0 (kq ≤ kj1) ∧ Aside0 (wc.heap[gb132]? = some (.cells #[.int .i64 a0_0, .int .i64 a0_1, .int .i64 a0_2, .int .i64 a0_3, .int .i64 a0_4, .int .i64 a0_5, .int .i64 a0_6, .string a0_7, (.slice A0_8 l0_8.length c0_8)] 24 (0, 0))) ∧ Aside0 (Below w.heap.size w wc))
      case first =>
        have H := HC15.out
        clear HC15
        by_cases c16 : x3_1 = true
        · subst c16
          have H1 : ((redoubtref06_in.f a0_2 4294967295).bind fun t137 => (if t137 = true then ((redoubtref06_in.f a0_3 4294967295).bind fun t138 => (if t138 = true then ((redoubtref06_in.f a0_4 255).bind fun t139 => (if t139 = true then (if ((a0_7.size : Int) % 4) = 0 then (redoubtref06_Check.j1 kj1 (decide ((a0_7.size : Int) > 40)) a0_0 a0_1 a0_2 a0_3 a0_4 a0_5 a0_6 a0_7 l0_8) else (redoubtref06_Check.j1 kj1 true a0_0 a0_1 a0_2 a0_3 a0_4 a0_5 a0_6 a0_7 l0_8)) else (redoubtref06_Check.j1 kj1 true a0_0 a0_1 a0_2 a0_3 a0_4 a0_5 a0_6 a0_7 l0_8))) else (redoubtref06_Check.j1 kj1 true a0_0 a0_1 a0_2 a0_3 a0_4 a0_5 a0_6 a0_7 l0_8))) else (redoubtref06_Check.j1 kj1 true a0_0 a0_1 a0_2 a0_3 a0_4 a0_5 a0_6 a0_7 l0_8))) = some r := by rw [if_pos rfl] at H; exact H
          clear H
          have H := H1
          clear H1
          replace H := Option.bind_eq_some_iff.mp H
          obtain ⟨t137, A170, H⟩ := H
          replace H : (if t137 = true then ((redoubtref06_in.f a0_3 4294967295).bind fun t138 => (if t138 = true then ((redoubtref06_in.f a0_4 255).bind fun t139 => (if t139 = true then (if ((a0_7.size : Int) % 4) = 0 then (redoubtref06_Check.j1 kj1 (decide ((a0_7.size : Int) > 40)) a0_0 a0_1 a0_2 a0_3 a0_4 a0_5 a0_6 a0_7 l0_8) else (redoubtref06_Check.j1 kj1 true a0_0 a0_1 a0_2 a0_3 a0_4 a0_5 a0_6 a0_7 l0_8)) else (redoubtref06_Check.j1 kj1 true a0_0 a0_1 a0_2 a0_3 a0_4 a0_5 a0_6 a0_7 l0_8))) else (redoubtref06_Check.j1 kj1 true a0_0 a0_1 a0_2 a0_3 a0_4 a0_5 a0_6 a0_7 l0_8))) else (redoubtref06_Check.j1 kj1 true a0_0 a0_1 a0_2 a0_3 a0_4 a0_5 a0_6 a0_7 l0_8)) = some r := H
          have A17 := Aside0.mk A170
          clear A170
          by_cases c18 : t137 = true
          · subst c18
            have H1 : ((redoubtref06_in.f a0_3 4294967295).bind fun t138 => (if t138 = true then ((redoubtref06_in.f a0_4 255).bind fun t139 => (if t139 = true then (if ((a0_7.size : Int) % 4) = 0 then (redoubtref06_Check.j1 kj1 (decide ((a0_7.size : Int) > 40)) a0_0 a0_1 a0_2 a0_3 a0_4 a0_5 a0_6 a0_7 l0_8) else (redoubtref06_Check.j1 kj1 true a0_0 a0_1 a0_2 a0_3 a0_4 a0_5 a0_6 a0_7 l0_8)) else (redoubtref06_Check.j1 kj1 true a0_0 a0_1 a0_2 a0_3 a0_4 a0_5 a0_6 a0_7 l0_8))) else (redoubtref06_Check.j1 kj1 true a0_0 a0_1 a0_2 a0_3 a0_4 a0_5 a0_6 a0_7 l0_8))) = some r := by rw [if_pos rfl] at H; exact H
            clear H
            have H := H1
            clear H1
            replace H := Option.bind_eq_some_iff.mp H
            obtain ⟨t138, A190, H⟩ := H
            replace H : (if t138 = true then ((redoubtref06_in.f a0_4 255).bind fun t139 => (if t139 = true then (if ((a0_7.size : Int) % 4) = 0 then (redoubtref06_Check.j1 kj1 (decide ((a0_7.size : Int) > 40)) a0_0 a0_1 a0_2 a0_3 a0_4 a0_5 a0_6 a0_7 l0_8) else (redoubtref06_Check.j1 kj1 true a0_0 a0_1 a0_2 a0_3 a0_4 a0_5 a0_6 a0_7 l0_8)) else (redoubtref06_Check.j1 kj1 true a0_0 a0_1 a0_2 a0_3 a0_4 a0_5 a0_6 a0_7 l0_8))) else (redoubtref06_Check.j1 kj1 true a0_0 a0_1 a0_2 a0_3 a0_4 a0_5 a0_6 a0_7 l0_8)) = some r := H
            have A19 := Aside0.mk A190
            clear A190
            by_cases c20 : t138 = true
            · subst c20
              have H1 : ((redoubtref06_in.f a0_4 255).bind fun t139 => (if t139 = true then (if ((a0_7.size : Int) % 4) = 0 then (redoubtref06_Check.j1 kj1 (decide ((a0_7.size : Int) > 40)) a0_0 a0_1 a0_2 a0_3 a0_4 a0_5 a0_6 a0_7 l0_8) else (redoubtref06_Check.j1 kj1 true a0_0 a0_1 a0_2 a0_3 a0_4 a0_5 a0_6 a0_7 l0_8)) else (redoubtref06_Check.j1 kj1 true a0_0 a0_1 a0_2 a0_3 a0_4 a0_5 a0_6 a0_7 l0_8))) = some r := by rw [if_pos rfl] at H; exact H
              clear H
              have H := H1
              clear H1
              replace H := Option.bind_eq_some_iff.mp H
              obtain ⟨t139, A210, H⟩ := H
              replace H : (if t139 = true then (if ((a0_7.size : Int) % 4) = 0 then (redoubtref06_Check.j1 kj1 (decide ((a0_7.size : Int) > 40)) a0_0 a0_1 a0_2 a0_3 a0_4 a0_5 a0_6 a0_7 l0_8) else (redoubtref06_Check.j1 kj1 true a0_0 a0_1 a0_2 a0_3 a0_4 a0_5 a0_6 a0_7 l0_8)) else (redoubtref06_Check.j1 kj1 true a0_0 a0_1 a0_2 a0_3 a0_4 a0_5 a0_6 a0_7 l0_8)) = some r := H
              have A21 := Aside0.mk A210
              clear A210
              by_cases c22 : t139 = true
              · subst c22
                have H1 : (if ((a0_7.size : Int) % 4) = 0 then (redoubtref06_Check.j1 kj1 (decide ((a0_7.size : Int) > 40)) a0_0 a0_1 a0_2 a0_3 a0_4 a0_5 a0_6 a0_7 l0_8) else (redoubtref06_Check.j1 kj1 true a0_0 a0_1 a0_2 a0_3 a0_4 a0_5 a0_6 a0_7 l0_8)) = some r := by rw [if_pos rfl] at H; exact H
                clear H
                have H := H1
                clear H1
                by_cases c23 : ((a0_7.size : Int) % 4) = 0
                · rw [if_pos c23] at H
                  have c23b0 : (((a0_7.size : Int) % 4) == 0) = true := beq_iff_eq.mpr c23
                  have c23b1 : (((a0_7.size : Int) % 4) != 0) = false := bne_eq_false_iff_eq.mpr c23
                  clear c23
                  (first | rw [c23b0] | (simp only [i64_w, i32_w]; rw [c23b0]) | skip)
                  have H' := Aside0.mk H
                  clear H
                  have hcz24_0 : wc.cell? ⟨gb132, 0, none⟩ = some (.int .i64 a0_0) := (blk_cell BK132.out 0).trans rfl
                  have hcz24_1 : wc.cell? ⟨gb132, 1, none⟩ = some (.int .i64 a0_1) := (blk_cell BK132.out 1).trans rfl
                  have hcz24_2 : wc.cell? ⟨gb132, 2, none⟩ = some (.int .i64 a0_2) := (blk_cell BK132.out 2).trans rfl
                  have hcz24_3 : wc.cell? ⟨gb132, 3, none⟩ = some (.int .i64 a0_3) := (blk_cell BK132.out 3).trans rfl
                  have hcz24_4 : wc.cell? ⟨gb132, 4, none⟩ = some (.int .i64 a0_4) := (blk_cell BK132.out 4).trans rfl
                  have hcz24_5 : wc.cell? ⟨gb132, 5, none⟩ = some (.int .i64 a0_5) := (blk_cell BK132.out 5).trans rfl
                  have hcz24_6 : wc.cell? ⟨gb132, 6, none⟩ = some (.int .i64 a0_6) := (blk_cell BK132.out 6).trans rfl
                  have hcz24_7 : wc.cell? ⟨gb132, 7, none⟩ = some (.string a0_7) := (blk_cell BK132.out 7).trans rfl
                  have hcz24_8 : wc.cell? ⟨gb132, 8, none⟩ = some (.slice A0_8 l0_8.length c0_8) := (blk_cell BK132.out 8).trans rfl
                  have hfz24_0 := blk_frozen BK132.out 0
                  have hfz24_1 := blk_frozen BK132.out 1
                  have hfz24_2 := blk_frozen BK132.out 2
                  have hfz24_3 := blk_frozen BK132.out 3
                  have hfz24_4 := blk_frozen BK132.out 4
                  have hfz24_5 := blk_frozen BK132.out 5
                  have hfz24_6 := blk_frozen BK132.out 6
                  have hfz24_7 := blk_frozen BK132.out 7
                  have hfz24_8 := blk_frozen BK132.out 8
                  go_wp2_with (first | (go_at_call 28; (with_reducible refine (redoubtref06_in.calls a0_2 4294967295 true _ A17.out).mono ?_); rintro e w' ⟨rfl, ⟨nd, rfl⟩⟩) | (go_at_call 28; (with_reducible refine (redoubtref06_in.calls a0_3 4294967295 true _ A19.out).mono ?_); rintro e w' ⟨rfl, ⟨nd, rfl⟩⟩) | (go_at_call 28; (with_reducible refine (redoubtref06_in.calls a0_4 255 true _ A21.out).mono ?_); rintro e w' ⟨rfl, ⟨nd, rfl⟩⟩))
                  go_meet
                  case rel => exact ⟨_, (decide ((a0_7.size : Int) > 40)), (by first | rfl | (simp; done) | (simp [*]; done)), H', ⟨by have := HJ1.out; first | omega | exact Nat.le_refl _⟩, ⟨by (with_reducible repeat (first | refine blk_drewN ?_ _ | refine blk_drew ?_ | refine blk_alloc ?_ _)); exact BK132.out⟩, ⟨by repeat (first | (with_reducible first | exact HB.out | apply below_alloc | apply pw_below_drewN | apply below_drew1 | refine below_set ?_ GE132.out) | exact HB.out)⟩⟩
                · rw [if_neg c23] at H
                  have c23b0 : (((a0_7.size : Int) % 4) == 0) = false := beq_eq_false_iff_ne.mpr c23
                  have c23b1 : (((a0_7.size : Int) % 4) != 0) = true := bne_iff_ne.mpr c23
                  (first | rw [c23b0] | (simp only [i64_w, i32_w]; rw [c23b0]) | skip)
                  have H' := Aside0.mk H
                  clear H
                  have hcz25_0 : wc.cell? ⟨gb132, 0, none⟩ = some (.int .i64 a0_0) := (blk_cell BK132.out 0).trans rfl
                  have hcz25_1 : wc.cell? ⟨gb132, 1, none⟩ = some (.int .i64 a0_1) := (blk_cell BK132.out 1).trans rfl
                  have hcz25_2 : wc.cell? ⟨gb132, 2, none⟩ = some (.int .i64 a0_2) := (blk_cell BK132.out 2).trans rfl
                  have hcz25_3 : wc.cell? ⟨gb132, 3, none⟩ = some (.int .i64 a0_3) := (blk_cell BK132.out 3).trans rfl
                  have hcz25_4 : wc.cell? ⟨gb132, 4, none⟩ = some (.int .i64 a0_4) := (blk_cell BK132.out 4).trans rfl
                  have hcz25_5 : wc.cell? ⟨gb132, 5, none⟩ = some (.int .i64 a0_5) := (blk_cell BK132.out 5).trans rfl
                  have hcz25_6 : wc.cell? ⟨gb132, 6, none⟩ = some (.int .i64 a0_6) := (blk_cell BK132.out 6).trans rfl
                  have hcz25_7 : wc.cell? ⟨gb132, 7, none⟩ = some (.string a0_7) := (blk_cell BK132.out 7).trans rfl
                  have hcz25_8 : wc.cell? ⟨gb132, 8, none⟩ = some (.slice A0_8 l0_8.length c0_8) := (blk_cell BK132.out 8).trans rfl
                  have hfz25_0 := blk_frozen BK132.out 0
                  have hfz25_1 := blk_frozen BK132.out 1
                  have hfz25_2 := blk_frozen BK132.out 2
                  have hfz25_3 := blk_frozen BK132.out 3
                  have hfz25_4 := blk_frozen BK132.out 4
                  have hfz25_5 := blk_frozen BK132.out 5
                  have hfz25_6 := blk_frozen BK132.out 6
                  have hfz25_7 := blk_frozen BK132.out 7
                  have hfz25_8 := blk_frozen BK132.out 8
                  go_wp2_with (first | (go_at_call 28; (with_reducible refine (redoubtref06_in.calls a0_2 4294967295 true _ A17.out).mono ?_); rintro e w' ⟨rfl, ⟨nd, rfl⟩⟩) | (go_at_call 28; (with_reducible refine (redoubtref06_in.calls a0_3 4294967295 true _ A19.out).mono ?_); rintro e w' ⟨rfl, ⟨nd, rfl⟩⟩) | (go_at_call 28; (with_reducible refine (redoubtref06_in.calls a0_4 255 true _ A21.out).mono ?_); rintro e w' ⟨rfl, ⟨nd, rfl⟩⟩))
                  go_meet
                  case rel => exact ⟨_, (true), (by first | rfl | (simp; done) | (simp [*]; done)), H', ⟨by have := HJ1.out; first | omega | exact Nat.le_refl _⟩, ⟨by (with_reducible repeat (first | refine blk_drewN ?_ _ | refine blk_drew ?_ | refine blk_alloc ?_ _)); exact BK132.out⟩, ⟨by repeat (first | (with_reducible first | exact HB.out | apply below_alloc | apply pw_below_drewN | apply below_drew1 | refine below_set ?_ GE132.out) | exact HB.out)⟩⟩
              · replace c22 := Bool.eq_false_iff.mpr c22
                subst c22
                have H1 : (redoubtref06_Check.j1 kj1 true a0_0 a0_1 a0_2 a0_3 a0_4 a0_5 a0_6 a0_7 l0_8) = some r := by rw [if_neg (show ¬ (false = true) by decide)] at H; exact H
                clear H
                have H := H1
                clear H1
                have H' := Aside0.mk H
                clear H
                have hcz26_0 : wc.cell? ⟨gb132, 0, none⟩ = some (.int .i64 a0_0) := (blk_cell BK132.out 0).trans rfl
                have hcz26_1 : wc.cell? ⟨gb132, 1, none⟩ = some (.int .i64 a0_1) := (blk_cell BK132.out 1).trans rfl
                have hcz26_2 : wc.cell? ⟨gb132, 2, none⟩ = some (.int .i64 a0_2) := (blk_cell BK132.out 2).trans rfl
                have hcz26_3 : wc.cell? ⟨gb132, 3, none⟩ = some (.int .i64 a0_3) := (blk_cell BK132.out 3).trans rfl
                have hcz26_4 : wc.cell? ⟨gb132, 4, none⟩ = some (.int .i64 a0_4) := (blk_cell BK132.out 4).trans rfl
                have hcz26_5 : wc.cell? ⟨gb132, 5, none⟩ = some (.int .i64 a0_5) := (blk_cell BK132.out 5).trans rfl
                have hcz26_6 : wc.cell? ⟨gb132, 6, none⟩ = some (.int .i64 a0_6) := (blk_cell BK132.out 6).trans rfl
                have hcz26_7 : wc.cell? ⟨gb132, 7, none⟩ = some (.string a0_7) := (blk_cell BK132.out 7).trans rfl
                have hcz26_8 : wc.cell? ⟨gb132, 8, none⟩ = some (.slice A0_8 l0_8.length c0_8) := (blk_cell BK132.out 8).trans rfl
                have hfz26_0 := blk_frozen BK132.out 0
                have hfz26_1 := blk_frozen BK132.out 1
                have hfz26_2 := blk_frozen BK132.out 2
                have hfz26_3 := blk_frozen BK132.out 3
                have hfz26_4 := blk_frozen BK132.out 4
                have hfz26_5 := blk_frozen BK132.out 5
                have hfz26_6 := blk_frozen BK132.out 6
                have hfz26_7 := blk_frozen BK132.out 7
                have hfz26_8 := blk_frozen BK132.out 8
                go_wp2_with (first | (go_at_call 28; (with_reducible refine (redoubtref06_in.calls a0_2 4294967295 true _ A17.out).mono ?_); rintro e w' ⟨rfl, ⟨nd, rfl⟩⟩) | (go_at_call 28; (with_reducible refine (redoubtref06_in.calls a0_3 4294967295 true _ A19.out).mono ?_); rintro e w' ⟨rfl, ⟨nd, rfl⟩⟩) | (go_at_call 28; (with_reducible refine (redoubtref06_in.calls a0_4 255 false _ A21.out).mono ?_); rintro e w' ⟨rfl, ⟨nd, rfl⟩⟩))
                go_meet
                case rel => exact ⟨_, (true), (by first | rfl | (simp; done) | (simp [*]; done)), H', ⟨by have := HJ1.out; first | omega | exact Nat.le_refl _⟩, ⟨by (with_reducible repeat (first | refine blk_drewN ?_ _ | refine blk_drew ?_ | refine blk_alloc ?_ _)); exact BK132.out⟩, ⟨by repeat (first | (with_reducible first | exact HB.out | apply below_alloc | apply pw_below_drewN | apply below_drew1 | refine below_set ?_ GE132.out) | exact HB.out)⟩⟩
            · replace c20 := Bool.eq_false_iff.mpr c20
              subst c20
              have H1 : (redoubtref06_Check.j1 kj1 true a0_0 a0_1 a0_2 a0_3 a0_4 a0_5 a0_6 a0_7 l0_8) = some r := by rw [if_neg (show ¬ (false = true) by decide)] at H; exact H
              clear H
              have H := H1
              clear H1
              have H' := Aside0.mk H
              clear H
              have hcz27_0 : wc.cell? ⟨gb132, 0, none⟩ = some (.int .i64 a0_0) := (blk_cell BK132.out 0).trans rfl
              have hcz27_1 : wc.cell? ⟨gb132, 1, none⟩ = some (.int .i64 a0_1) := (blk_cell BK132.out 1).trans rfl
              have hcz27_2 : wc.cell? ⟨gb132, 2, none⟩ = some (.int .i64 a0_2) := (blk_cell BK132.out 2).trans rfl
              have hcz27_3 : wc.cell? ⟨gb132, 3, none⟩ = some (.int .i64 a0_3) := (blk_cell BK132.out 3).trans rfl
              have hcz27_4 : wc.cell? ⟨gb132, 4, none⟩ = some (.int .i64 a0_4) := (blk_cell BK132.out 4).trans rfl
              have hcz27_5 : wc.cell? ⟨gb132, 5, none⟩ = some (.int .i64 a0_5) := (blk_cell BK132.out 5).trans rfl
              have hcz27_6 : wc.cell? ⟨gb132, 6, none⟩ = some (.int .i64 a0_6) := (blk_cell BK132.out 6).trans rfl
              have hcz27_7 : wc.cell? ⟨gb132, 7, none⟩ = some (.string a0_7) := (blk_cell BK132.out 7).trans rfl
              have hcz27_8 : wc.cell? ⟨gb132, 8, none⟩ = some (.slice A0_8 l0_8.length c0_8) := (blk_cell BK132.out 8).trans rfl
              have hfz27_0 := blk_frozen BK132.out 0
              have hfz27_1 := blk_frozen BK132.out 1
              have hfz27_2 := blk_frozen BK132.out 2
              have hfz27_3 := blk_frozen BK132.out 3
              have hfz27_4 := blk_frozen BK132.out 4
              have hfz27_5 := blk_frozen BK132.out 5
              have hfz27_6 := blk_frozen BK132.out 6
              have hfz27_7 := blk_frozen BK132.out 7
              have hfz27_8 := blk_frozen BK132.out 8
              go_wp2_with (first | (go_at_call 28; (with_reducible refine (redoubtref06_in.calls a0_2 4294967295 true _ A17.out).mono ?_); rintro e w' ⟨rfl, ⟨nd, rfl⟩⟩) | (go_at_call 28; (with_reducible refine (redoubtref06_in.calls a0_3 4294967295 false _ A19.out).mono ?_); rintro e w' ⟨rfl, ⟨nd, rfl⟩⟩))
              go_meet
              case rel => exact ⟨_, (true), (by first | rfl | (simp; done) | (simp [*]; done)), H', ⟨by have := HJ1.out; first | omega | exact Nat.le_refl _⟩, ⟨by (with_reducible repeat (first | refine blk_drewN ?_ _ | refine blk_drew ?_ | refine blk_alloc ?_ _)); exact BK132.out⟩, ⟨by repeat (first | (with_reducible first | exact HB.out | apply below_alloc | apply pw_below_drewN | apply below_drew1 | refine below_set ?_ GE132.out) | exact HB.out)⟩⟩
          · replace c18 := Bool.eq_false_iff.mpr c18
            subst c18
            have H1 : (redoubtref06_Check.j1 kj1 true a0_0 a0_1 a0_2 a0_3 a0_4 a0_5 a0_6 a0_7 l0_8) = some r := by rw [if_neg (show ¬ (false = true) by decide)] at H; exact H
            clear H
            have H := H1
            clear H1
            have H' := Aside0.mk H
            clear H
            have hcz28_0 : wc.cell? ⟨gb132, 0, none⟩ = some (.int .i64 a0_0) := (blk_cell BK132.out 0).trans rfl
            have hcz28_1 : wc.cell? ⟨gb132, 1, none⟩ = some (.int .i64 a0_1) := (blk_cell BK132.out 1).trans rfl
            have hcz28_2 : wc.cell? ⟨gb132, 2, none⟩ = some (.int .i64 a0_2) := (blk_cell BK132.out 2).trans rfl
            have hcz28_3 : wc.cell? ⟨gb132, 3, none⟩ = some (.int .i64 a0_3) := (blk_cell BK132.out 3).trans rfl
            have hcz28_4 : wc.cell? ⟨gb132, 4, none⟩ = some (.int .i64 a0_4) := (blk_cell BK132.out 4).trans rfl
            have hcz28_5 : wc.cell? ⟨gb132, 5, none⟩ = some (.int .i64 a0_5) := (blk_cell BK132.out 5).trans rfl
            have hcz28_6 : wc.cell? ⟨gb132, 6, none⟩ = some (.int .i64 a0_6) := (blk_cell BK132.out 6).trans rfl
            have hcz28_7 : wc.cell? ⟨gb132, 7, none⟩ = some (.string a0_7) := (blk_cell BK132.out 7).trans rfl
            have hcz28_8 : wc.cell? ⟨gb132, 8, none⟩ = some (.slice A0_8 l0_8.length c0_8) := (blk_cell BK132.out 8).trans rfl
            have hfz28_0 := blk_frozen BK132.out 0
            have hfz28_1 := blk_frozen BK132.out 1
            have hfz28_2 := blk_frozen BK132.out 2
            have hfz28_3 := blk_frozen BK132.out 3
            have hfz28_4 := blk_frozen BK132.out 4
            have hfz28_5 := blk_frozen BK132.out 5
            have hfz28_6 := blk_frozen BK132.out 6
            have hfz28_7 := blk_frozen BK132.out 7
            have hfz28_8 := blk_frozen BK132.out 8
            go_wp2_with (first | (go_at_call 28; (with_reducible refine (redoubtref06_in.calls a0_2 4294967295 false _ A17.out).mono ?_); rintro e w' ⟨rfl, ⟨nd, rfl⟩⟩))
            go_meet
            case rel => exact ⟨_, (true), (by first | rfl | (simp; done) | (simp [*]; done)), H', ⟨by have := HJ1.out; first | omega | exact Nat.le_refl _⟩, ⟨by (with_reducible repeat (first | refine blk_drewN ?_ _ | refine blk_drew ?_ | refine blk_alloc ?_ _)); exact BK132.out⟩, ⟨by repeat (first | (with_reducible first | exact HB.out | apply below_alloc | apply pw_below_drewN | apply below_drew1 | refine below_set ?_ GE132.out) | exact HB.out)⟩⟩
        · replace c16 := Bool.eq_false_iff.mpr c16
          subst c16
          have H1 : (redoubtref06_Check.j1 kj1 true a0_0 a0_1 a0_2 a0_3 a0_4 a0_5 a0_6 a0_7 l0_8) = some r := by rw [if_neg (show ¬ (false = true) by decide)] at H; exact H
          clear H
          have H := H1
          clear H1
          have H' := Aside0.mk H
          clear H
          go_wp2
          go_meet
          case rel => exact ⟨_, (true), (by first | rfl | (simp; done) | (simp [*]; done)), H', ⟨by have := HJ1.out; first | omega | exact Nat.le_refl _⟩, ⟨by (with_reducible repeat (first | refine blk_drewN ?_ _ | refine blk_drew ?_ | refine blk_alloc ?_ _)); exact BK132.out⟩, ⟨by repeat (first | (with_reducible first | exact HB.out | apply below_alloc | apply pw_below_drewN | apply below_drew1 | refine below_set ?_ GE132.out) | exact HB.out)⟩⟩
      case rest =>
        clear HC15
        try clear c1
        try clear c2
        try clear p2
        try clear c5
        try clear c7
        try clear c9
        try clear c11
        try clear c16
        try clear c18
        try clear c20
        try clear c22
        try clear c23
        try clear c23b0
        try clear c23b1
        try clear c28
        try clear hcz11_0
        try clear hcz11_1
        try clear hcz11_2
        try clear hcz11_3
        try clear hcz11_4
        try clear hcz11_5
        try clear hcz11_6
        try clear hcz11_7
        try clear hcz11_8
        try clear hcz12_0
        try clear hcz12_1
        try clear hcz12_2
        try clear hcz12_3
        try clear hcz12_4
        try clear hcz12_5
        try clear hcz12_6
        try clear hcz12_7
        try clear hcz12_8
        try clear hcz13_0
        try clear hcz13_1
        try clear hcz13_2
        try clear hcz13_3
        try clear hcz13_4
        try clear hcz13_5
        try clear hcz13_6
        try clear hcz13_7
        try clear hcz13_8
        try clear hcz14_0
        try clear hcz14_1
        try clear hcz14_2
        try clear hcz14_3
        try clear hcz14_4
        try clear hcz14_5
        try clear hcz14_6
        try clear hcz14_7
        try clear hcz14_8
        try clear hcz24_0
        try clear hcz24_1
        try clear hcz24_2
        try clear hcz24_3
        try clear hcz24_4
        try clear hcz24_5
        try clear hcz24_6
        try clear hcz24_7
        try clear hcz24_8
        try clear hcz25_0
        try clear hcz25_1
        try clear hcz25_2
        try clear hcz25_3
        try clear hcz25_4
        try clear hcz25_5
        try clear hcz25_6
        try clear hcz25_7
        try clear hcz25_8
        try clear hcz26_0
        try clear hcz26_1
        try clear hcz26_2
        try clear hcz26_3
        try clear hcz26_4
        try clear hcz26_5
        try clear hcz26_6
        try clear hcz26_7
        try clear hcz26_8
        try clear hcz27_0
        try clear hcz27_1
        try clear hcz27_2
        try clear hcz27_3
        try clear hcz27_4
        try clear hcz27_5
        try clear hcz27_6
        try clear hcz27_7
        try clear hcz27_8
        try clear hcz28_0
        try clear hcz28_1
        try clear hcz28_2
        try clear hcz28_3
        try clear hcz28_4
        try clear hcz28_5
        try clear hcz28_6
        try clear hcz28_7
        try clear hcz28_8
        try clear hfz11_0
        try clear hfz11_1
        try clear hfz11_2
        try clear hfz11_3
        try clear hfz11_4
        try clear hfz11_5
        try clear hfz11_6
        try clear hfz11_7
        try clear hfz11_8
        try clear hfz12_0
        try clear hfz12_1
        try clear hfz12_2
        try clear hfz12_3
        try clear hfz12_4
        try clear hfz12_5
        try clear hfz12_6
        try clear hfz12_7
        try clear hfz12_8
        try clear hfz13_0
        try clear hfz13_1
        try clear hfz13_2
        try clear hfz13_3
        try clear hfz13_4
        try clear hfz13_5
        try clear hfz13_6
        try clear hfz13_7
        try clear hfz13_8
        try clear hfz14_0
        try clear hfz14_1
        try clear hfz14_2
        try clear hfz14_3
        try clear hfz14_4
        try clear hfz14_5
        try clear hfz14_6
        try clear hfz14_7
        try clear hfz14_8
        try clear hfz24_0
        try clear hfz24_1
        try clear hfz24_2
        try clear hfz24_3
        try clear hfz24_4
        try clear hfz24_5
        try clear hfz24_6
        try clear hfz24_7
        try clear hfz24_8
        try clear hfz25_0
        try clear hfz25_1
        try clear hfz25_2
        try clear hfz25_3
        try clear hfz25_4
        try clear hfz25_5
        try clear hfz25_6
        try clear hfz25_7
        try clear hfz25_8
        try clear hfz26_0
        try clear hfz26_1
        try clear hfz26_2
        try clear hfz26_3
        try clear hfz26_4
        try clear hfz26_5
        try clear hfz26_6
        try clear hfz26_7
        try clear hfz26_8
        try clear hfz27_0
        try clear hfz27_1
        try clear hfz27_2
        try clear hfz27_3
        try clear hfz27_4
        try clear hfz27_5
        try clear hfz27_6
        try clear hfz27_7
        try clear hfz27_8
        try clear hfz28_0
        try clear hfz28_1
        try clear hfz28_2
        try clear hfz28_3
        try clear hfz28_4
        try clear hfz28_5
        try clear hfz28_6
        try clear hfz28_7
        try clear hfz28_8
        try clear p2
        obtain ⟨kq, x54_14, rfl, HA, HJ14, BK132, HB⟩ := hcut
        cases kq with
        | zero => exact absurd HA.out (by simp [redoubtref06_Check.j1])
        | succ kj14 =>
          have H := HA.out
          clear HA
          simp only [redoubtref06_Check.j1] at H
          by_cases c29 : x54_14 = true
          · subst c29
            have H1 : (some 1) = some r := by rw [if_pos rfl] at H; exact H
            clear H
            have H := H1
            clear H1
            obtain rfl := Option.some.inj H
            go_wp2
            go_ret
            exact ⟨by first | rfl | (simp [errW_none, errW_some] <;> rfl) | (simp [*, errW_none, errW_some] <;> rfl), by repeat (first | (with_reducible first | exact HB.out | apply below_alloc | apply pw_below_drewN | apply below_drew1 | refine below_set ?_ GE132.out) | exact HB.out)⟩
          · replace c29 := Bool.eq_false_iff.mpr c29
            subst c29
            have H1 : (if (wrap64 ((wrap64 (20 + (a0_7.size : Int))) + (l0_8.length : Int))) > 65535 then (some 2) else (some 0)) = some r := by rw [if_neg (show ¬ (false = true) by decide)] at H; exact H
            clear H
            have H := H1
            clear H1
            by_cases c30 : (wrap64 ((wrap64 (20 + (a0_7.size : Int))) + (l0_8.length : Int))) > 65535
            · rw [if_pos c30] at H
              have c30b0 : decide (65535 < (wrap64 ((wrap64 (20 + (a0_7.size : Int))) + (l0_8.length : Int)))) = true := decide_eq_true c30
              clear c30
              obtain rfl := Option.some.inj H
              have hcz31_0 : wc.cell? ⟨gb132, 0, none⟩ = some (.int .i64 a0_0) := (blk_cell BK132.out 0).trans rfl
              have hcz31_1 : wc.cell? ⟨gb132, 1, none⟩ = some (.int .i64 a0_1) := (blk_cell BK132.out 1).trans rfl
              have hcz31_2 : wc.cell? ⟨gb132, 2, none⟩ = some (.int .i64 a0_2) := (blk_cell BK132.out 2).trans rfl
              have hcz31_3 : wc.cell? ⟨gb132, 3, none⟩ = some (.int .i64 a0_3) := (blk_cell BK132.out 3).trans rfl
              have hcz31_4 : wc.cell? ⟨gb132, 4, none⟩ = some (.int .i64 a0_4) := (blk_cell BK132.out 4).trans rfl
              have hcz31_5 : wc.cell? ⟨gb132, 5, none⟩ = some (.int .i64 a0_5) := (blk_cell BK132.out 5).trans rfl
              have hcz31_6 : wc.cell? ⟨gb132, 6, none⟩ = some (.int .i64 a0_6) := (blk_cell BK132.out 6).trans rfl
              have hcz31_7 : wc.cell? ⟨gb132, 7, none⟩ = some (.string a0_7) := (blk_cell BK132.out 7).trans rfl
              have hcz31_8 : wc.cell? ⟨gb132, 8, none⟩ = some (.slice A0_8 l0_8.length c0_8) := (blk_cell BK132.out 8).trans rfl
              have hfz31_0 := blk_frozen BK132.out 0
              have hfz31_1 := blk_frozen BK132.out 1
              have hfz31_2 := blk_frozen BK132.out 2
              have hfz31_3 := blk_frozen BK132.out 3
              have hfz31_4 := blk_frozen BK132.out 4
              have hfz31_5 := blk_frozen BK132.out 5
              have hfz31_6 := blk_frozen BK132.out 6
              have hfz31_7 := blk_frozen BK132.out 7
              have hfz31_8 := blk_frozen BK132.out 8
              go_wp2
              go_ret
              exact ⟨by first | rfl | (simp [errW_none, errW_some] <;> rfl) | (simp [*, errW_none, errW_some] <;> rfl), by repeat (first | (with_reducible first | exact HB.out | apply below_alloc | apply pw_below_drewN | apply below_drew1 | refine below_set ?_ GE132.out) | exact HB.out)⟩
            · rw [if_neg c30] at H
              have c30b0 : decide (65535 < (wrap64 ((wrap64 (20 + (a0_7.size : Int))) + (l0_8.length : Int)))) = false := decide_eq_false c30
              clear c30
              obtain rfl := Option.some.inj H
              have hcz32_0 : wc.cell? ⟨gb132, 0, none⟩ = some (.int .i64 a0_0) := (blk_cell BK132.out 0).trans rfl
              have hcz32_1 : wc.cell? ⟨gb132, 1, none⟩ = some (.int .i64 a0_1) := (blk_cell BK132.out 1).trans rfl
              have hcz32_2 : wc.cell? ⟨gb132, 2, none⟩ = some (.int .i64 a0_2) := (blk_cell BK132.out 2).trans rfl
              have hcz32_3 : wc.cell? ⟨gb132, 3, none⟩ = some (.int .i64 a0_3) := (blk_cell BK132.out 3).trans rfl
              have hcz32_4 : wc.cell? ⟨gb132, 4, none⟩ = some (.int .i64 a0_4) := (blk_cell BK132.out 4).trans rfl
              have hcz32_5 : wc.cell? ⟨gb132, 5, none⟩ = some (.int .i64 a0_5) := (blk_cell BK132.out 5).trans rfl
              have hcz32_6 : wc.cell? ⟨gb132, 6, none⟩ = some (.int .i64 a0_6) := (blk_cell BK132.out 6).trans rfl
              have hcz32_7 : wc.cell? ⟨gb132, 7, none⟩ = some (.string a0_7) := (blk_cell BK132.out 7).trans rfl
              have hcz32_8 : wc.cell? ⟨gb132, 8, none⟩ = some (.slice A0_8 l0_8.length c0_8) := (blk_cell BK132.out 8).trans rfl
              have hfz32_0 := blk_frozen BK132.out 0
              have hfz32_1 := blk_frozen BK132.out 1
              have hfz32_2 := blk_frozen BK132.out 2
              have hfz32_3 := blk_frozen BK132.out 3
              have hfz32_4 := blk_frozen BK132.out 4
              have hfz32_5 := blk_frozen BK132.out 5
              have hfz32_6 := blk_frozen BK132.out 6
              have hfz32_7 := blk_frozen BK132.out 7
              have hfz32_8 := blk_frozen BK132.out 8
              go_wp2
              go_ret
              exact ⟨by first | rfl | (simp [errW_none, errW_some] <;> rfl) | (simp [*, errW_none, errW_some] <;> rfl), by repeat (first | (with_reducible first | exact HB.out | apply below_alloc | apply pw_below_drewN | apply below_drew1 | refine below_set ?_ GE132.out) | exact HB.out)⟩

/-! ### redoubtref06_Same: function 13 -/
def redoubtref06_Same.f (a0_0 : Int) (a0_1 : Int) (a0_2 : Int) (a0_3 : Int) (a0_4 : Int) (a0_5 : Int) (a0_6 : Int) (a0_7 : ByteArray) (l0_8 : List Int) (a1_0 : Int) (a1_1 : Int) (a1_2 : Int) (a1_3 : Int) (a1_4 : Int) (a1_5 : Int) (a1_6 : Int) (a1_7 : ByteArray) (l1_8 : List Int) : Option (Bool) := if a0_0 = a1_0 then (if a0_1 = a1_1 then (if a0_2 = a1_2 then (if a0_3 = a1_3 then (if a0_4 = a1_4 then (if a0_5 = a1_5 then (if a0_6 = a1_6 then (if a0_7.toList = a1_7.toList then (some ((strOfNums l0_8).toList == (strOfNums l1_8).toList)) else (some false)) else (some false)) else (some false)) else (some false)) else (some false)) else (some false)) else (some false)) else (some false)
set_option maxHeartbeats 8000000 in
set_option maxRecDepth 100000 in
theorem redoubtref06_Same.calls (a0_0 : Int) (a0_1 : Int) (a0_2 : Int) (a0_3 : Int) (a0_4 : Int) (a0_5 : Int) (a0_6 : Int) (a0_7 : ByteArray) (A0_8 : Option Addr) (c0_8 : Nat) (l0_8 : List Int) (a1_0 : Int) (a1_1 : Int) (a1_2 : Int) (a1_3 : Int) (a1_4 : Int) (a1_5 : Int) (a1_6 : Int) (a1_7 : ByteArray) (A1_8 : Option Addr) (c1_8 : Nat) (l1_8 : List Int) (r : Bool) (w : World) (hr0_8 : Kd.C (Kd.int .u8) w A0_8 l0_8.length l0_8) (hc0_8 : l0_8.length ≤ c0_8) (hr1_8 : Kd.C (Kd.int .u8) w A1_8 l1_8.length l1_8) (hc1_8 : l1_8.length ≤ c1_8) (h : redoubtref06_Same.f a0_0 a0_1 a0_2 a0_3 a0_4 a0_5 a0_6 a0_7 l0_8 a1_0 a1_1 a1_2 a1_3 a1_4 a1_5 a1_6 a1_7 l1_8 = some r) :
    Calls Try.prog 13 #[.agg #[.int .i64 a0_0, .int .i64 a0_1, .int .i64 a0_2, .int .i64 a0_3, .int .i64 a0_4, .int .i64 a0_5, .int .i64 a0_6, .string a0_7, .slice A0_8 l0_8.length c0_8], .agg #[.int .i64 a1_0, .int .i64 a1_1, .int .i64 a1_2, .int .i64 a1_3, .int .i64 a1_4, .int .i64 a1_5, .int .i64 a1_6, .string a1_7, .slice A1_8 l1_8.length c1_8]] w fun e w' => e = .returned (.bool r) ∧ Below w.heap.size w w' := by
  have hu24 := Try.underlying24
  have HR0_8 := Aside0.mk hr0_8
  have HC0_8 := Aside0.mk hc0_8
  clear hr0_8 hc0_8
  have HR1_8 := Aside0.mk hr1_8
  have HC1_8 := Aside0.mk hc1_8
  clear hr1_8 hc1_8
  have HB := Aside0.mk (Below.refl w.heap.size w)
  have H : (if a0_0 = a1_0 then (if a0_1 = a1_1 then (if a0_2 = a1_2 then (if a0_3 = a1_3 then (if a0_4 = a1_4 then (if a0_5 = a1_5 then (if a0_6 = a1_6 then (if a0_7.toList = a1_7.toList then (some ((strOfNums l0_8).toList == (strOfNums l1_8).toList)) else (some false)) else (some false)) else (some false)) else (some false)) else (some false)) else (some false)) else (some false)) else (some false)) = some r := h
  clear h
  by_cases c3 : a0_0 = a1_0
  · rw [if_pos c3] at H
    have c3b0 : (a0_0 == a1_0) = true := beq_iff_eq.mpr c3
    have c3b1 : (a0_0 != a1_0) = false := bne_eq_false_iff_eq.mpr c3
    clear c3
    by_cases c4 : a0_1 = a1_1
    · rw [if_pos c4] at H
      have c4b0 : (a0_1 == a1_1) = true := beq_iff_eq.mpr c4
      have c4b1 : (a0_1 != a1_1) = false := bne_eq_false_iff_eq.mpr c4
      clear c4
      by_cases c5 : a0_2 = a1_2
      · rw [if_pos c5] at H
        have c5b0 : (a0_2 == a1_2) = true := beq_iff_eq.mpr c5
        have c5b1 : (a0_2 != a1_2) = false := bne_eq_false_iff_eq.mpr c5
        clear c5
        by_cases c6 : a0_3 = a1_3
        · rw [if_pos c6] at H
          have c6b0 : (a0_3 == a1_3) = true := beq_iff_eq.mpr c6
          have c6b1 : (a0_3 != a1_3) = false := bne_eq_false_iff_eq.mpr c6
          clear c6
          by_cases c7 : a0_4 = a1_4
          · rw [if_pos c7] at H
            have c7b0 : (a0_4 == a1_4) = true := beq_iff_eq.mpr c7
            have c7b1 : (a0_4 != a1_4) = false := bne_eq_false_iff_eq.mpr c7
            clear c7
            by_cases c8 : a0_5 = a1_5
            · rw [if_pos c8] at H
              have c8b0 : (a0_5 == a1_5) = true := beq_iff_eq.mpr c8
              have c8b1 : (a0_5 != a1_5) = false := bne_eq_false_iff_eq.mpr c8
              clear c8
              by_cases c9 : a0_6 = a1_6
              · rw [if_pos c9] at H
                have c9b0 : (a0_6 == a1_6) = true := beq_iff_eq.mpr c9
                have c9b1 : (a0_6 != a1_6) = false := bne_eq_false_iff_eq.mpr c9
                clear c9
                by_cases c10 : a0_7.toList = a1_7.toList
                · rw [if_pos c10] at H
                  have c10b0 : (a0_7.toList == a1_7.toList) = true := beq_iff_eq.mpr c10
                  have c10b1 : (a0_7.toList != a1_7.toList) = false := bne_eq_false_iff_eq.mpr c10
                  clear c10
                  obtain rfl := Option.some.inj H
                  go_enter Try.func13, Try.ntmps13
                  go_wp2_with (first | ((with_reducible refine gate_dst (N := 2) rfl ?_); refine box_event ?hg (N := 2) ?hd (cs := #[.int .i64 a0_0, .int .i64 a0_1, .int .i64 a0_2, .int .i64 a0_3, .int .i64 a0_4, .int .i64 a0_5, .int .i64 a0_6, .string a0_7, .slice A0_8 l0_8.length c0_8]) (t := 24) ?hr ?_; (case hd => rfl); (case hg => rfl); (case hr => first | (go_simp; done) | (go_simp; rfl)); intro gb140 hg w11 hbox hb; have n0_ := Aside0.mk (below_step (by repeat (first | (with_reducible first | exact HB.out | apply below_alloc | apply pw_below_drewN | apply below_drew1) | exact HB.out)) hb); have n1_ := Aside0.mk (hbox); have n2_ := Aside0.mk ((by rw [hg]; exact (below_size (by repeat (first | (with_reducible first | exact HB.out | apply below_alloc | apply pw_below_drewN | apply below_drew1) | exact HB.out))) : w.heap.size ≤ gb140)); have n3_ := Aside0.mk ((by rw [hg]; exact (below_size (by repeat (first | (with_reducible first | exact HB.out | apply below_alloc | apply pw_below_drewN | apply below_drew1) | exact HB.out))) : w.heap.size ≤ gb140)); clear HB; have HB := n0_; have BK140 := n1_; have GW140 := n2_; have GE140 := n3_; clear n0_ n1_ n2_ n3_; clear hb hbox hg) | ((with_reducible refine gate_dst (N := 3) rfl ?_); refine box_event ?hg (N := 3) ?hd (cs := #[.int .i64 a1_0, .int .i64 a1_1, .int .i64 a1_2, .int .i64 a1_3, .int .i64 a1_4, .int .i64 a1_5, .int .i64 a1_6, .string a1_7, .slice A1_8 l1_8.length c1_8]) (t := 24) ?hr ?_; (case hd => rfl); (case hg => rfl); (case hr => first | (go_simp; done) | (go_simp; rfl)); intro gb141 hg w12 hbox hb; have n0_ := Aside0.mk (blk_below (g := gb140) (o := .cells #[.int .i64 a0_0, .int .i64 a0_1, .int .i64 a0_2, .int .i64 a0_3, .int .i64 a0_4, .int .i64 a0_5, .int .i64 a0_6, .string a0_7, .slice A0_8 l0_8.length c0_8] 24 (0, 0)) (by (with_reducible repeat (first | refine blk_drewN ?_ _ | refine blk_drew ?_ | refine blk_alloc ?_ _)); exact BK140.out) hb); have n1_ := Aside0.mk (below_step (by repeat (first | (with_reducible first | exact HB.out | apply below_alloc | apply pw_below_drewN | apply below_drew1 | refine below_set ?_ GE140.out) | exact HB.out)) hb); have n2_ := Aside0.mk (hbox); have n3_ := Aside0.mk ((by rw [hg]; exact (below_size (by repeat (first | (with_reducible first | exact HB.out | apply below_alloc | apply pw_below_drewN | apply below_drew1 | refine below_set ?_ GE140.out) | exact HB.out))) : w.heap.size ≤ gb141)); have n4_ := Aside0.mk ((by rw [hg]; exact (below_size (by repeat (first | (with_reducible first | exact HB.out | apply below_alloc | apply pw_below_drewN | apply below_drew1 | refine below_set ?_ GE140.out) | exact HB.out))) : w.heap.size ≤ gb141)); have n5_ := Aside0.mk ((by rw [hg]; exact Nat.ne_of_lt (blk_lt (g := gb140) (o := .cells #[.int .i64 a0_0, .int .i64 a0_1, .int .i64 a0_2, .int .i64 a0_3, .int .i64 a0_4, .int .i64 a0_5, .int .i64 a0_6, .string a0_7, .slice A0_8 l0_8.length c0_8] 24 (0, 0)) (by (with_reducible repeat (first | refine blk_drewN ?_ _ | refine blk_drew ?_ | refine blk_alloc ?_ _)); exact BK140.out)) : gb140 ≠ gb141)); have n6_ := Aside0.mk ((by rw [hg]; exact Nat.ne_of_gt (blk_lt (g := gb140) (o := .cells #[.int .i64 a0_0, .int .i64 a0_1, .int .i64 a0_2, .int .i64 a0_3, .int .i64 a0_4, .int .i64 a0_5, .int .i64 a0_6, .string a0_7, .slice A0_8 l0_8.length c0_8] 24 (0, 0)) (by (with_reducible repeat (first | refine blk_drewN ?_ _ | refine blk_drew ?_ | refine blk_alloc ?_ _)); exact BK140.out)) : gb141 ≠ gb140)); clear BK140; clear HB; have BK140 := n0_; have HB := n1_; have BK141 := n2_; have GW141 := n3_; have GE141 := n4_; have NB140_141 := n5_; have NB141_140 := n6_; clear n0_ n1_ n2_ n3_ n4_ n5_ n6_; clear hb hbox hg; have hnb13 := NB140_141.out; have hnc13 := NB141_140.out; have hcz14_0 : w12.cell? ⟨gb140, 0, none⟩ = some (.int .i64 a0_0) := (blk_cell BK140.out 0).trans rfl; have hcz14_1 : w12.cell? ⟨gb140, 1, none⟩ = some (.int .i64 a0_1) := (blk_cell BK140.out 1).trans rfl; have hcz14_2 : w12.cell? ⟨gb140, 2, none⟩ = some (.int .i64 a0_2) := (blk_cell BK140.out 2).trans rfl; have hcz14_3 : w12.cell? ⟨gb140, 3, none⟩ = some (.int .i64 a0_3) := (blk_cell BK140.out 3).trans rfl; have hcz14_4 : w12.cell? ⟨gb140, 4, none⟩ = some (.int .i64 a0_4) := (blk_cell BK140.out 4).trans rfl; have hcz14_5 : w12.cell? ⟨gb140, 5, none⟩ = some (.int .i64 a0_5) := (blk_cell BK140.out 5).trans rfl; have hcz14_6 : w12.cell? ⟨gb140, 6, none⟩ = some (.int .i64 a0_6) := (blk_cell BK140.out 6).trans rfl; have hcz14_7 : w12.cell? ⟨gb140, 7, none⟩ = some (.string a0_7) := (blk_cell BK140.out 7).trans rfl; have hcz14_8 : w12.cell? ⟨gb140, 8, none⟩ = some (.slice A0_8 l0_8.length c0_8) := (blk_cell BK140.out 8).trans rfl; have hfz14_0 := blk_frozen BK140.out 0; have hfz14_1 := blk_frozen BK140.out 1; have hfz14_2 := blk_frozen BK140.out 2; have hfz14_3 := blk_frozen BK140.out 3; have hfz14_4 := blk_frozen BK140.out 4; have hfz14_5 := blk_frozen BK140.out 5; have hfz14_6 := blk_frozen BK140.out 6; have hfz14_7 := blk_frozen BK140.out 7; have hfz14_8 := blk_frozen BK140.out 8; have hcz15_0 : w12.cell? ⟨gb141, 0, none⟩ = some (.int .i64 a1_0) := (blk_cell BK141.out 0).trans rfl; have hcz15_1 : w12.cell? ⟨gb141, 1, none⟩ = some (.int .i64 a1_1) := (blk_cell BK141.out 1).trans rfl; have hcz15_2 : w12.cell? ⟨gb141, 2, none⟩ = some (.int .i64 a1_2) := (blk_cell BK141.out 2).trans rfl; have hcz15_3 : w12.cell? ⟨gb141, 3, none⟩ = some (.int .i64 a1_3) := (blk_cell BK141.out 3).trans rfl; have hcz15_4 : w12.cell? ⟨gb141, 4, none⟩ = some (.int .i64 a1_4) := (blk_cell BK141.out 4).trans rfl; have hcz15_5 : w12.cell? ⟨gb141, 5, none⟩ = some (.int .i64 a1_5) := (blk_cell BK141.out 5).trans rfl; have hcz15_6 : w12.cell? ⟨gb141, 6, none⟩ = some (.int .i64 a1_6) := (blk_cell BK141.out 6).trans rfl; have hcz15_7 : w12.cell? ⟨gb141, 7, none⟩ = some (.string a1_7) := (blk_cell BK141.out 7).trans rfl; have hcz15_8 : w12.cell? ⟨gb141, 8, none⟩ = some (.slice A1_8 l1_8.length c1_8) := (blk_cell BK141.out 8).trans rfl; have hfz15_0 := blk_frozen BK141.out 0; have hfz15_1 := blk_frozen BK141.out 1; have hfz15_2 := blk_frozen BK141.out 2; have hfz15_3 := blk_frozen BK141.out 3; have hfz15_4 := blk_frozen BK141.out 4; have hfz15_5 := blk_frozen BK141.out 5; have hfz15_6 := blk_frozen BK141.out 6; have hfz15_7 := blk_frozen BK141.out 7; have hfz15_8 := blk_frozen BK141.out 8; have hcv16 := Kd.C_string (P := Try.prog) (A := A0_8) (c := c0_8) Try.underlying22 Try.underlying5 Try.underlying9 (Kd.C_below HR0_8.out HB.out); have hcv17 := Kd.C_string (P := Try.prog) (A := A1_8) (c := c1_8) Try.underlying22 Try.underlying5 Try.underlying9 (Kd.C_below HR1_8.out HB.out)))
                  go_ret
                  exact ⟨by first | rfl | (simp [errW_none, errW_some] <;> rfl) | (simp [*, errW_none, errW_some] <;> rfl), by repeat (first | (with_reducible first | exact HB.out | apply below_alloc | apply pw_below_drewN | apply below_drew1 | refine below_set ?_ GE140.out | refine below_set ?_ GE141.out) | exact HB.out)⟩
                · rw [if_neg c10] at H
                  have c10b0 : (a0_7.toList == a1_7.toList) = false := beq_eq_false_iff_ne.mpr c10
                  have c10b1 : (a0_7.toList != a1_7.toList) = true := bne_iff_ne.mpr c10
                  obtain rfl := Option.some.inj H
                  go_enter Try.func13, Try.ntmps13
                  go_wp2_with (first | ((with_reducible refine gate_dst (N := 2) rfl ?_); refine box_event ?hg (N := 2) ?hd (cs := #[.int .i64 a0_0, .int .i64 a0_1, .int .i64 a0_2, .int .i64 a0_3, .int .i64 a0_4, .int .i64 a0_5, .int .i64 a0_6, .string a0_7, .slice A0_8 l0_8.length c0_8]) (t := 24) ?hr ?_; (case hd => rfl); (case hg => rfl); (case hr => first | (go_simp; done) | (go_simp; rfl)); intro gb140 hg w18 hbox hb; have n0_ := Aside0.mk (below_step (by repeat (first | (with_reducible first | exact HB.out | apply below_alloc | apply pw_below_drewN | apply below_drew1) | exact HB.out)) hb); have n1_ := Aside0.mk (hbox); have n2_ := Aside0.mk ((by rw [hg]; exact (below_size (by repeat (first | (with_reducible first | exact HB.out | apply below_alloc | apply pw_below_drewN | apply below_drew1) | exact HB.out))) : w.heap.size ≤ gb140)); have n3_ := Aside0.mk ((by rw [hg]; exact (below_size (by repeat (first | (with_reducible first | exact HB.out | apply below_alloc | apply pw_below_drewN | apply below_drew1) | exact HB.out))) : w.heap.size ≤ gb140)); clear HB; have HB := n0_; have BK140 := n1_; have GW140 := n2_; have GE140 := n3_; clear n0_ n1_ n2_ n3_; clear hb hbox hg) | ((with_reducible refine gate_dst (N := 3) rfl ?_); refine box_event ?hg (N := 3) ?hd (cs := #[.int .i64 a1_0, .int .i64 a1_1, .int .i64 a1_2, .int .i64 a1_3, .int .i64 a1_4, .int .i64 a1_5, .int .i64 a1_6, .string a1_7, .slice A1_8 l1_8.length c1_8]) (t := 24) ?hr ?_; (case hd => rfl); (case hg => rfl); (case hr => first | (go_simp; done) | (go_simp; rfl)); intro gb141 hg w19 hbox hb; have n0_ := Aside0.mk (blk_below (g := gb140) (o := .cells #[.int .i64 a0_0, .int .i64 a0_1, .int .i64 a0_2, .int .i64 a0_3, .int .i64 a0_4, .int .i64 a0_5, .int .i64 a0_6, .string a0_7, .slice A0_8 l0_8.length c0_8] 24 (0, 0)) (by (with_reducible repeat (first | refine blk_drewN ?_ _ | refine blk_drew ?_ | refine blk_alloc ?_ _)); exact BK140.out) hb); have n1_ := Aside0.mk (below_step (by repeat (first | (with_reducible first | exact HB.out | apply below_alloc | apply pw_below_drewN | apply below_drew1 | refine below_set ?_ GE140.out) | exact HB.out)) hb); have n2_ := Aside0.mk (hbox); have n3_ := Aside0.mk ((by rw [hg]; exact (below_size (by repeat (first | (with_reducible first | exact HB.out | apply below_alloc | apply pw_below_drewN | apply below_drew1 | refine below_set ?_ GE140.out) | exact HB.out))) : w.heap.size ≤ gb141)); have n4_ := Aside0.mk ((by rw [hg]; exact (below_size (by repeat (first | (with_reducible first | exact HB.out | apply below_alloc | apply pw_below_drewN | apply below_drew1 | refine below_set ?_ GE140.out) | exact HB.out))) : w.heap.size ≤ gb141)); have n5_ := Aside0.mk ((by rw [hg]; exact Nat.ne_of_lt (blk_lt (g := gb140) (o := .cells #[.int .i64 a0_0, .int .i64 a0_1, .int .i64 a0_2, .int .i64 a0_3, .int .i64 a0_4, .int .i64 a0_5, .int .i64 a0_6, .string a0_7, .slice A0_8 l0_8.length c0_8] 24 (0, 0)) (by (with_reducible repeat (first | refine blk_drewN ?_ _ | refine blk_drew ?_ | refine blk_alloc ?_ _)); exact BK140.out)) : gb140 ≠ gb141)); have n6_ := Aside0.mk ((by rw [hg]; exact Nat.ne_of_gt (blk_lt (g := gb140) (o := .cells #[.int .i64 a0_0, .int .i64 a0_1, .int .i64 a0_2, .int .i64 a0_3, .int .i64 a0_4, .int .i64 a0_5, .int .i64 a0_6, .string a0_7, .slice A0_8 l0_8.length c0_8] 24 (0, 0)) (by (with_reducible repeat (first | refine blk_drewN ?_ _ | refine blk_drew ?_ | refine blk_alloc ?_ _)); exact BK140.out)) : gb141 ≠ gb140)); clear BK140; clear HB; have BK140 := n0_; have HB := n1_; have BK141 := n2_; have GW141 := n3_; have GE141 := n4_; have NB140_141 := n5_; have NB141_140 := n6_; clear n0_ n1_ n2_ n3_ n4_ n5_ n6_; clear hb hbox hg; have hnb20 := NB140_141.out; have hnc20 := NB141_140.out; have hcz21_0 : w19.cell? ⟨gb140, 0, none⟩ = some (.int .i64 a0_0) := (blk_cell BK140.out 0).trans rfl; have hcz21_1 : w19.cell? ⟨gb140, 1, none⟩ = some (.int .i64 a0_1) := (blk_cell BK140.out 1).trans rfl; have hcz21_2 : w19.cell? ⟨gb140, 2, none⟩ = some (.int .i64 a0_2) := (blk_cell BK140.out 2).trans rfl; have hcz21_3 : w19.cell? ⟨gb140, 3, none⟩ = some (.int .i64 a0_3) := (blk_cell BK140.out 3).trans rfl; have hcz21_4 : w19.cell? ⟨gb140, 4, none⟩ = some (.int .i64 a0_4) := (blk_cell BK140.out 4).trans rfl; have hcz21_5 : w19.cell? ⟨gb140, 5, none⟩ = some (.int .i64 a0_5) := (blk_cell BK140.out 5).trans rfl; have hcz21_6 : w19.cell? ⟨gb140, 6, none⟩ = some (.int .i64 a0_6) := (blk_cell BK140.out 6).trans rfl; have hcz21_7 : w19.cell? ⟨gb140, 7, none⟩ = some (.string a0_7) := (blk_cell BK140.out 7).trans rfl; have hcz21_8 : w19.cell? ⟨gb140, 8, none⟩ = some (.slice A0_8 l0_8.length c0_8) := (blk_cell BK140.out 8).trans rfl; have hfz21_0 := blk_frozen BK140.out 0; have hfz21_1 := blk_frozen BK140.out 1; have hfz21_2 := blk_frozen BK140.out 2; have hfz21_3 := blk_frozen BK140.out 3; have hfz21_4 := blk_frozen BK140.out 4; have hfz21_5 := blk_frozen BK140.out 5; have hfz21_6 := blk_frozen BK140.out 6; have hfz21_7 := blk_frozen BK140.out 7; have hfz21_8 := blk_frozen BK140.out 8; have hcz22_0 : w19.cell? ⟨gb141, 0, none⟩ = some (.int .i64 a1_0) := (blk_cell BK141.out 0).trans rfl; have hcz22_1 : w19.cell? ⟨gb141, 1, none⟩ = some (.int .i64 a1_1) := (blk_cell BK141.out 1).trans rfl; have hcz22_2 : w19.cell? ⟨gb141, 2, none⟩ = some (.int .i64 a1_2) := (blk_cell BK141.out 2).trans rfl; have hcz22_3 : w19.cell? ⟨gb141, 3, none⟩ = some (.int .i64 a1_3) := (blk_cell BK141.out 3).trans rfl; have hcz22_4 : w19.cell? ⟨gb141, 4, none⟩ = some (.int .i64 a1_4) := (blk_cell BK141.out 4).trans rfl; have hcz22_5 : w19.cell? ⟨gb141, 5, none⟩ = some (.int .i64 a1_5) := (blk_cell BK141.out 5).trans rfl; have hcz22_6 : w19.cell? ⟨gb141, 6, none⟩ = some (.int .i64 a1_6) := (blk_cell BK141.out 6).trans rfl; have hcz22_7 : w19.cell? ⟨gb141, 7, none⟩ = some (.string a1_7) := (blk_cell BK141.out 7).trans rfl; have hcz22_8 : w19.cell? ⟨gb141, 8, none⟩ = some (.slice A1_8 l1_8.length c1_8) := (blk_cell BK141.out 8).trans rfl; have hfz22_0 := blk_frozen BK141.out 0; have hfz22_1 := blk_frozen BK141.out 1; have hfz22_2 := blk_frozen BK141.out 2; have hfz22_3 := blk_frozen BK141.out 3; have hfz22_4 := blk_frozen BK141.out 4; have hfz22_5 := blk_frozen BK141.out 5; have hfz22_6 := blk_frozen BK141.out 6; have hfz22_7 := blk_frozen BK141.out 7; have hfz22_8 := blk_frozen BK141.out 8))
                  go_ret
                  exact ⟨by first | rfl | (simp [errW_none, errW_some] <;> rfl) | (simp [*, errW_none, errW_some] <;> rfl), by repeat (first | (with_reducible first | exact HB.out | apply below_alloc | apply pw_below_drewN | apply below_drew1 | refine below_set ?_ GE140.out | refine below_set ?_ GE141.out) | exact HB.out)⟩
              · rw [if_neg c9] at H
                have c9b0 : (a0_6 == a1_6) = false := beq_eq_false_iff_ne.mpr c9
                have c9b1 : (a0_6 != a1_6) = true := bne_iff_ne.mpr c9
                obtain rfl := Option.some.inj H
                go_enter Try.func13, Try.ntmps13
                go_wp2_with (first | ((with_reducible refine gate_dst (N := 2) rfl ?_); refine box_event ?hg (N := 2) ?hd (cs := #[.int .i64 a0_0, .int .i64 a0_1, .int .i64 a0_2, .int .i64 a0_3, .int .i64 a0_4, .int .i64 a0_5, .int .i64 a0_6, .string a0_7, .slice A0_8 l0_8.length c0_8]) (t := 24) ?hr ?_; (case hd => rfl); (case hg => rfl); (case hr => first | (go_simp; done) | (go_simp; rfl)); intro gb140 hg w23 hbox hb; have n0_ := Aside0.mk (below_step (by repeat (first | (with_reducible first | exact HB.out | apply below_alloc | apply pw_below_drewN | apply below_drew1) | exact HB.out)) hb); have n1_ := Aside0.mk (hbox); have n2_ := Aside0.mk ((by rw [hg]; exact (below_size (by repeat (first | (with_reducible first | exact HB.out | apply below_alloc | apply pw_below_drewN | apply below_drew1) | exact HB.out))) : w.heap.size ≤ gb140)); have n3_ := Aside0.mk ((by rw [hg]; exact (below_size (by repeat (first | (with_reducible first | exact HB.out | apply below_alloc | apply pw_below_drewN | apply below_drew1) | exact HB.out))) : w.heap.size ≤ gb140)); clear HB; have HB := n0_; have BK140 := n1_; have GW140 := n2_; have GE140 := n3_; clear n0_ n1_ n2_ n3_; clear hb hbox hg) | ((with_reducible refine gate_dst (N := 3) rfl ?_); refine box_event ?hg (N := 3) ?hd (cs := #[.int .i64 a1_0, .int .i64 a1_1, .int .i64 a1_2, .int .i64 a1_3, .int .i64 a1_4, .int .i64 a1_5, .int .i64 a1_6, .string a1_7, .slice A1_8 l1_8.length c1_8]) (t := 24) ?hr ?_; (case hd => rfl); (case hg => rfl); (case hr => first | (go_simp; done) | (go_simp; rfl)); intro gb141 hg w24 hbox hb; have n0_ := Aside0.mk (blk_below (g := gb140) (o := .cells #[.int .i64 a0_0, .int .i64 a0_1, .int .i64 a0_2, .int .i64 a0_3, .int .i64 a0_4, .int .i64 a0_5, .int .i64 a0_6, .string a0_7, .slice A0_8 l0_8.length c0_8] 24 (0, 0)) (by (with_reducible repeat (first | refine blk_drewN ?_ _ | refine blk_drew ?_ | refine blk_alloc ?_ _)); exact BK140.out) hb); have n1_ := Aside0.mk (below_step (by repeat (first | (with_reducible first | exact HB.out | apply below_alloc | apply pw_below_drewN | apply below_drew1 | refine below_set ?_ GE140.out) | exact HB.out)) hb); have n2_ := Aside0.mk (hbox); have n3_ := Aside0.mk ((by rw [hg]; exact (below_size (by repeat (first | (with_reducible first | exact HB.out | apply below_alloc | apply pw_below_drewN | apply below_drew1 | refine below_set ?_ GE140.out) | exact HB.out))) : w.heap.size ≤ gb141)); have n4_ := Aside0.mk ((by rw [hg]; exact (below_size (by repeat (first | (with_reducible first | exact HB.out | apply below_alloc | apply pw_below_drewN | apply below_drew1 | refine below_set ?_ GE140.out) | exact HB.out))) : w.heap.size ≤ gb141)); have n5_ := Aside0.mk ((by rw [hg]; exact Nat.ne_of_lt (blk_lt (g := gb140) (o := .cells #[.int .i64 a0_0, .int .i64 a0_1, .int .i64 a0_2, .int .i64 a0_3, .int .i64 a0_4, .int .i64 a0_5, .int .i64 a0_6, .string a0_7, .slice A0_8 l0_8.length c0_8] 24 (0, 0)) (by (with_reducible repeat (first | refine blk_drewN ?_ _ | refine blk_drew ?_ | refine blk_alloc ?_ _)); exact BK140.out)) : gb140 ≠ gb141)); have n6_ := Aside0.mk ((by rw [hg]; exact Nat.ne_of_gt (blk_lt (g := gb140) (o := .cells #[.int .i64 a0_0, .int .i64 a0_1, .int .i64 a0_2, .int .i64 a0_3, .int .i64 a0_4, .int .i64 a0_5, .int .i64 a0_6, .string a0_7, .slice A0_8 l0_8.length c0_8] 24 (0, 0)) (by (with_reducible repeat (first | refine blk_drewN ?_ _ | refine blk_drew ?_ | refine blk_alloc ?_ _)); exact BK140.out)) : gb141 ≠ gb140)); clear BK140; clear HB; have BK140 := n0_; have HB := n1_; have BK141 := n2_; have GW141 := n3_; have GE141 := n4_; have NB140_141 := n5_; have NB141_140 := n6_; clear n0_ n1_ n2_ n3_ n4_ n5_ n6_; clear hb hbox hg; have hnb25 := NB140_141.out; have hnc25 := NB141_140.out; have hcz26_0 : w24.cell? ⟨gb140, 0, none⟩ = some (.int .i64 a0_0) := (blk_cell BK140.out 0).trans rfl; have hcz26_1 : w24.cell? ⟨gb140, 1, none⟩ = some (.int .i64 a0_1) := (blk_cell BK140.out 1).trans rfl; have hcz26_2 : w24.cell? ⟨gb140, 2, none⟩ = some (.int .i64 a0_2) := (blk_cell BK140.out 2).trans rfl; have hcz26_3 : w24.cell? ⟨gb140, 3, none⟩ = some (.int .i64 a0_3) := (blk_cell BK140.out 3).trans rfl; have hcz26_4 : w24.cell? ⟨gb140, 4, none⟩ = some (.int .i64 a0_4) := (blk_cell BK140.out 4).trans rfl; have hcz26_5 : w24.cell? ⟨gb140, 5, none⟩ = some (.int .i64 a0_5) := (blk_cell BK140.out 5).trans rfl; have hcz26_6 : w24.cell? ⟨gb140, 6, none⟩ = some (.int .i64 a0_6) := (blk_cell BK140.out 6).trans rfl; have hcz26_7 : w24.cell? ⟨gb140, 7, none⟩ = some (.string a0_7) := (blk_cell BK140.out 7).trans rfl; have hcz26_8 : w24.cell? ⟨gb140, 8, none⟩ = some (.slice A0_8 l0_8.length c0_8) := (blk_cell BK140.out 8).trans rfl; have hfz26_0 := blk_frozen BK140.out 0; have hfz26_1 := blk_frozen BK140.out 1; have hfz26_2 := blk_frozen BK140.out 2; have hfz26_3 := blk_frozen BK140.out 3; have hfz26_4 := blk_frozen BK140.out 4; have hfz26_5 := blk_frozen BK140.out 5; have hfz26_6 := blk_frozen BK140.out 6; have hfz26_7 := blk_frozen BK140.out 7; have hfz26_8 := blk_frozen BK140.out 8; have hcz27_0 : w24.cell? ⟨gb141, 0, none⟩ = some (.int .i64 a1_0) := (blk_cell BK141.out 0).trans rfl; have hcz27_1 : w24.cell? ⟨gb141, 1, none⟩ = some (.int .i64 a1_1) := (blk_cell BK141.out 1).trans rfl; have hcz27_2 : w24.cell? ⟨gb141, 2, none⟩ = some (.int .i64 a1_2) := (blk_cell BK141.out 2).trans rfl; have hcz27_3 : w24.cell? ⟨gb141, 3, none⟩ = some (.int .i64 a1_3) := (blk_cell BK141.out 3).trans rfl; have hcz27_4 : w24.cell? ⟨gb141, 4, none⟩ = some (.int .i64 a1_4) := (blk_cell BK141.out 4).trans rfl; have hcz27_5 : w24.cell? ⟨gb141, 5, none⟩ = some (.int .i64 a1_5) := (blk_cell BK141.out 5).trans rfl; have hcz27_6 : w24.cell? ⟨gb141, 6, none⟩ = some (.int .i64 a1_6) := (blk_cell BK141.out 6).trans rfl; have hcz27_7 : w24.cell? ⟨gb141, 7, none⟩ = some (.string a1_7) := (blk_cell BK141.out 7).trans rfl; have hcz27_8 : w24.cell? ⟨gb141, 8, none⟩ = some (.slice A1_8 l1_8.length c1_8) := (blk_cell BK141.out 8).trans rfl; have hfz27_0 := blk_frozen BK141.out 0; have hfz27_1 := blk_frozen BK141.out 1; have hfz27_2 := blk_frozen BK141.out 2; have hfz27_3 := blk_frozen BK141.out 3; have hfz27_4 := blk_frozen BK141.out 4; have hfz27_5 := blk_frozen BK141.out 5; have hfz27_6 := blk_frozen BK141.out 6; have hfz27_7 := blk_frozen BK141.out 7; have hfz27_8 := blk_frozen BK141.out 8))
                go_ret
                exact ⟨by first | rfl | (simp [errW_none, errW_some] <;> rfl) | (simp [*, errW_none, errW_some] <;> rfl), by repeat (first | (with_reducible first | exact HB.out | apply below_alloc | apply pw_below_drewN | apply below_drew1 | refine below_set ?_ GE140.out | refine below_set ?_ GE141.out) | exact HB.out)⟩
            · rw [if_neg c8] at H
              have c8b0 : (a0_5 == a1_5) = false := beq_eq_false_iff_ne.mpr c8
              have c8b1 : (a0_5 != a1_5) = true := bne_iff_ne.mpr c8
              obtain rfl := Option.some.inj H
              go_enter Try.func13, Try.ntmps13
              go_wp2_with (first | ((with_reducible refine gate_dst (N := 2) rfl ?_); refine box_event ?hg (N := 2) ?hd (cs := #[.int .i64 a0_0, .int .i64 a0_1, .int .i64 a0_2, .int .i64 a0_3, .int .i64 a0_4, .int .i64 a0_5, .int .i64 a0_6, .string a0_7, .slice A0_8 l0_8.length c0_8]) (t := 24) ?hr ?_; (case hd => rfl); (case hg => rfl); (case hr => first | (go_simp; done) | (go_simp; rfl)); intro gb140 hg w28 hbox hb; have n0_ := Aside0.mk (below_step (by repeat (first | (with_reducible first | exact HB.out | apply below_alloc | apply pw_below_drewN | apply below_drew1) | exact HB.out)) hb); have n1_ := Aside0.mk (hbox); have n2_ := Aside0.mk ((by rw [hg]; exact (below_size (by repeat (first | (with_reducible first | exact HB.out | apply below_alloc | apply pw_below_drewN | apply below_drew1) | exact HB.out))) : w.heap.size ≤ gb140)); have n3_ := Aside0.mk ((by rw [hg]; exact (below_size (by repeat (first | (with_reducible first | exact HB.out | apply below_alloc | apply pw_below_drewN | apply below_drew1) | exact HB.out))) : w.heap.size ≤ gb140)); clear HB; have HB := n0_; have BK140 := n1_; have GW140 := n2_; have GE140 := n3_; clear n0_ n1_ n2_ n3_; clear hb hbox hg) | ((with_reducible refine gate_dst (N := 3) rfl ?_); refine box_event ?hg (N := 3) ?hd (cs := #[.int .i64 a1_0, .int .i64 a1_1, .int .i64 a1_2, .int .i64 a1_3, .int .i64 a1_4, .int .i64 a1_5, .int .i64 a1_6, .string a1_7, .slice A1_8 l1_8.length c1_8]) (t := 24) ?hr ?_; (case hd => rfl); (case hg => rfl); (case hr => first | (go_simp; done) | (go_simp; rfl)); intro gb141 hg w29 hbox hb; have n0_ := Aside0.mk (blk_below (g := gb140) (o := .cells #[.int .i64 a0_0, .int .i64 a0_1, .int .i64 a0_2, .int .i64 a0_3, .int .i64 a0_4, .int .i64 a0_5, .int .i64 a0_6, .string a0_7, .slice A0_8 l0_8.length c0_8] 24 (0, 0)) (by (with_reducible repeat (first | refine blk_drewN ?_ _ | refine blk_drew ?_ | refine blk_alloc ?_ _)); exact BK140.out) hb); have n1_ := Aside0.mk (below_step (by repeat (first | (with_reducible first | exact HB.out | apply below_alloc | apply pw_below_drewN | apply below_drew1 | refine below_set ?_ GE140.out) | exact HB.out)) hb); have n2_ := Aside0.mk (hbox); have n3_ := Aside0.mk ((by rw [hg]; exact (below_size (by repeat (first | (with_reducible first | exact HB.out | apply below_alloc | apply pw_below_drewN | apply below_drew1 | refine below_set ?_ GE140.out) | exact HB.out))) : w.heap.size ≤ gb141)); have n4_ := Aside0.mk ((by rw [hg]; exact (below_size (by repeat (first | (with_reducible first | exact HB.out | apply below_alloc | apply pw_below_drewN | apply below_drew1 | refine below_set ?_ GE140.out) | exact HB.out))) : w.heap.size ≤ gb141)); have n5_ := Aside0.mk ((by rw [hg]; exact Nat.ne_of_lt (blk_lt (g := gb140) (o := .cells #[.int .i64 a0_0, .int .i64 a0_1, .int .i64 a0_2, .int .i64 a0_3, .int .i64 a0_4, .int .i64 a0_5, .int .i64 a0_6, .string a0_7, .slice A0_8 l0_8.length c0_8] 24 (0, 0)) (by (with_reducible repeat (first | refine blk_drewN ?_ _ | refine blk_drew ?_ | refine blk_alloc ?_ _)); exact BK140.out)) : gb140 ≠ gb141)); have n6_ := Aside0.mk ((by rw [hg]; exact Nat.ne_of_gt (blk_lt (g := gb140) (o := .cells #[.int .i64 a0_0, .int .i64 a0_1, .int .i64 a0_2, .int .i64 a0_3, .int .i64 a0_4, .int .i64 a0_5, .int .i64 a0_6, .string a0_7, .slice A0_8 l0_8.length c0_8] 24 (0, 0)) (by (with_reducible repeat (first | refine blk_drewN ?_ _ | refine blk_drew ?_ | refine blk_alloc ?_ _)); exact BK140.out)) : gb141 ≠ gb140)); clear BK140; clear HB; have BK140 := n0_; have HB := n1_; have BK141 := n2_; have GW141 := n3_; have GE141 := n4_; have NB140_141 := n5_; have NB141_140 := n6_; clear n0_ n1_ n2_ n3_ n4_ n5_ n6_; clear hb hbox hg; have hnb30 := NB140_141.out; have hnc30 := NB141_140.out; have hcz31_0 : w29.cell? ⟨gb140, 0, none⟩ = some (.int .i64 a0_0) := (blk_cell BK140.out 0).trans rfl; have hcz31_1 : w29.cell? ⟨gb140, 1, none⟩ = some (.int .i64 a0_1) := (blk_cell BK140.out 1).trans rfl; have hcz31_2 : w29.cell? ⟨gb140, 2, none⟩ = some (.int .i64 a0_2) := (blk_cell BK140.out 2).trans rfl; have hcz31_3 : w29.cell? ⟨gb140, 3, none⟩ = some (.int .i64 a0_3) := (blk_cell BK140.out 3).trans rfl; have hcz31_4 : w29.cell? ⟨gb140, 4, none⟩ = some (.int .i64 a0_4) := (blk_cell BK140.out 4).trans rfl; have hcz31_5 : w29.cell? ⟨gb140, 5, none⟩ = some (.int .i64 a0_5) := (blk_cell BK140.out 5).trans rfl; have hcz31_6 : w29.cell? ⟨gb140, 6, none⟩ = some (.int .i64 a0_6) := (blk_cell BK140.out 6).trans rfl; have hcz31_7 : w29.cell? ⟨gb140, 7, none⟩ = some (.string a0_7) := (blk_cell BK140.out 7).trans rfl; have hcz31_8 : w29.cell? ⟨gb140, 8, none⟩ = some (.slice A0_8 l0_8.length c0_8) := (blk_cell BK140.out 8).trans rfl; have hfz31_0 := blk_frozen BK140.out 0; have hfz31_1 := blk_frozen BK140.out 1; have hfz31_2 := blk_frozen BK140.out 2; have hfz31_3 := blk_frozen BK140.out 3; have hfz31_4 := blk_frozen BK140.out 4; have hfz31_5 := blk_frozen BK140.out 5; have hfz31_6 := blk_frozen BK140.out 6; have hfz31_7 := blk_frozen BK140.out 7; have hfz31_8 := blk_frozen BK140.out 8; have hcz32_0 : w29.cell? ⟨gb141, 0, none⟩ = some (.int .i64 a1_0) := (blk_cell BK141.out 0).trans rfl; have hcz32_1 : w29.cell? ⟨gb141, 1, none⟩ = some (.int .i64 a1_1) := (blk_cell BK141.out 1).trans rfl; have hcz32_2 : w29.cell? ⟨gb141, 2, none⟩ = some (.int .i64 a1_2) := (blk_cell BK141.out 2).trans rfl; have hcz32_3 : w29.cell? ⟨gb141, 3, none⟩ = some (.int .i64 a1_3) := (blk_cell BK141.out 3).trans rfl; have hcz32_4 : w29.cell? ⟨gb141, 4, none⟩ = some (.int .i64 a1_4) := (blk_cell BK141.out 4).trans rfl; have hcz32_5 : w29.cell? ⟨gb141, 5, none⟩ = some (.int .i64 a1_5) := (blk_cell BK141.out 5).trans rfl; have hcz32_6 : w29.cell? ⟨gb141, 6, none⟩ = some (.int .i64 a1_6) := (blk_cell BK141.out 6).trans rfl; have hcz32_7 : w29.cell? ⟨gb141, 7, none⟩ = some (.string a1_7) := (blk_cell BK141.out 7).trans rfl; have hcz32_8 : w29.cell? ⟨gb141, 8, none⟩ = some (.slice A1_8 l1_8.length c1_8) := (blk_cell BK141.out 8).trans rfl; have hfz32_0 := blk_frozen BK141.out 0; have hfz32_1 := blk_frozen BK141.out 1; have hfz32_2 := blk_frozen BK141.out 2; have hfz32_3 := blk_frozen BK141.out 3; have hfz32_4 := blk_frozen BK141.out 4; have hfz32_5 := blk_frozen BK141.out 5; have hfz32_6 := blk_frozen BK141.out 6; have hfz32_7 := blk_frozen BK141.out 7; have hfz32_8 := blk_frozen BK141.out 8))
              go_ret
              exact ⟨by first | rfl | (simp [errW_none, errW_some] <;> rfl) | (simp [*, errW_none, errW_some] <;> rfl), by repeat (first | (with_reducible first | exact HB.out | apply below_alloc | apply pw_below_drewN | apply below_drew1 | refine below_set ?_ GE140.out | refine below_set ?_ GE141.out) | exact HB.out)⟩
          · rw [if_neg c7] at H
            have c7b0 : (a0_4 == a1_4) = false := beq_eq_false_iff_ne.mpr c7
            have c7b1 : (a0_4 != a1_4) = true := bne_iff_ne.mpr c7
            obtain rfl := Option.some.inj H
            go_enter Try.func13, Try.ntmps13
            go_wp2_with (first | ((with_reducible refine gate_dst (N := 2) rfl ?_); refine box_event ?hg (N := 2) ?hd (cs := #[.int .i64 a0_0, .int .i64 a0_1, .int .i64 a0_2, .int .i64 a0_3, .int .i64 a0_4, .int .i64 a0_5, .int .i64 a0_6, .string a0_7, .slice A0_8 l0_8.length c0_8]) (t := 24) ?hr ?_; (case hd => rfl); (case hg => rfl); (case hr => first | (go_simp; done) | (go_simp; rfl)); intro gb140 hg w33 hbox hb; have n0_ := Aside0.mk (below_step (by repeat (first | (with_reducible first | exact HB.out | apply below_alloc | apply pw_below_drewN | apply below_drew1) | exact HB.out)) hb); have n1_ := Aside0.mk (hbox); have n2_ := Aside0.mk ((by rw [hg]; exact (below_size (by repeat (first | (with_reducible first | exact HB.out | apply below_alloc | apply pw_below_drewN | apply below_drew1) | exact HB.out))) : w.heap.size ≤ gb140)); have n3_ := Aside0.mk ((by rw [hg]; exact (below_size (by repeat (first | (with_reducible first | exact HB.out | apply below_alloc | apply pw_below_drewN | apply below_drew1) | exact HB.out))) : w.heap.size ≤ gb140)); clear HB; have HB := n0_; have BK140 := n1_; have GW140 := n2_; have GE140 := n3_; clear n0_ n1_ n2_ n3_; clear hb hbox hg) | ((with_reducible refine gate_dst (N := 3) rfl ?_); refine box_event ?hg (N := 3) ?hd (cs := #[.int .i64 a1_0, .int .i64 a1_1, .int .i64 a1_2, .int .i64 a1_3, .int .i64 a1_4, .int .i64 a1_5, .int .i64 a1_6, .string a1_7, .slice A1_8 l1_8.length c1_8]) (t := 24) ?hr ?_; (case hd => rfl); (case hg => rfl); (case hr => first | (go_simp; done) | (go_simp; rfl)); intro gb141 hg w34 hbox hb; have n0_ := Aside0.mk (blk_below (g := gb140) (o := .cells #[.int .i64 a0_0, .int .i64 a0_1, .int .i64 a0_2, .int .i64 a0_3, .int .i64 a0_4, .int .i64 a0_5, .int .i64 a0_6, .string a0_7, .slice A0_8 l0_8.length c0_8] 24 (0, 0)) (by (with_reducible repeat (first | refine blk_drewN ?_ _ | refine blk_drew ?_ | refine blk_alloc ?_ _)); exact BK140.out) hb); have n1_ := Aside0.mk (below_step (by repeat (first | (with_reducible first | exact HB.out | apply below_alloc | apply pw_below_drewN | apply below_drew1 | refine below_set ?_ GE140.out) | exact HB.out)) hb); have n2_ := Aside0.mk (hbox); have n3_ := Aside0.mk ((by rw [hg]; exact (below_size (by repeat (first | (with_reducible first | exact HB.out | apply below_alloc | apply pw_below_drewN | apply below_drew1 | refine below_set ?_ GE140.out) | exact HB.out))) : w.heap.size ≤ gb141)); have n4_ := Aside0.mk ((by rw [hg]; exact (below_size (by repeat (first | (with_reducible first | exact HB.out | apply below_alloc | apply pw_below_drewN | apply below_drew1 | refine below_set ?_ GE140.out) | exact HB.out))) : w.heap.size ≤ gb141)); have n5_ := Aside0.mk ((by rw [hg]; exact Nat.ne_of_lt (blk_lt (g := gb140) (o := .cells #[.int .i64 a0_0, .int .i64 a0_1, .int .i64 a0_2, .int .i64 a0_3, .int .i64 a0_4, .int .i64 a0_5, .int .i64 a0_6, .string a0_7, .slice A0_8 l0_8.length c0_8] 24 (0, 0)) (by (with_reducible repeat (first | refine blk_drewN ?_ _ | refine blk_drew ?_ | refine blk_alloc ?_ _)); exact BK140.out)) : gb140 ≠ gb141)); have n6_ := Aside0.mk ((by rw [hg]; exact Nat.ne_of_gt (blk_lt (g := gb140) (o := .cells #[.int .i64 a0_0, .int .i64 a0_1, .int .i64 a0_2, .int .i64 a0_3, .int .i64 a0_4, .int .i64 a0_5, .int .i64 a0_6, .string a0_7, .slice A0_8 l0_8.length c0_8] 24 (0, 0)) (by (with_reducible repeat (first | refine blk_drewN ?_ _ | refine blk_drew ?_ | refine blk_alloc ?_ _)); exact BK140.out)) : gb141 ≠ gb140)); clear BK140; clear HB; have BK140 := n0_; have HB := n1_; have BK141 := n2_; have GW141 := n3_; have GE141 := n4_; have NB140_141 := n5_; have NB141_140 := n6_; clear n0_ n1_ n2_ n3_ n4_ n5_ n6_; clear hb hbox hg; have hnb35 := NB140_141.out; have hnc35 := NB141_140.out; have hcz36_0 : w34.cell? ⟨gb140, 0, none⟩ = some (.int .i64 a0_0) := (blk_cell BK140.out 0).trans rfl; have hcz36_1 : w34.cell? ⟨gb140, 1, none⟩ = some (.int .i64 a0_1) := (blk_cell BK140.out 1).trans rfl; have hcz36_2 : w34.cell? ⟨gb140, 2, none⟩ = some (.int .i64 a0_2) := (blk_cell BK140.out 2).trans rfl; have hcz36_3 : w34.cell? ⟨gb140, 3, none⟩ = some (.int .i64 a0_3) := (blk_cell BK140.out 3).trans rfl; have hcz36_4 : w34.cell? ⟨gb140, 4, none⟩ = some (.int .i64 a0_4) := (blk_cell BK140.out 4).trans rfl; have hcz36_5 : w34.cell? ⟨gb140, 5, none⟩ = some (.int .i64 a0_5) := (blk_cell BK140.out 5).trans rfl; have hcz36_6 : w34.cell? ⟨gb140, 6, none⟩ = some (.int .i64 a0_6) := (blk_cell BK140.out 6).trans rfl; have hcz36_7 : w34.cell? ⟨gb140, 7, none⟩ = some (.string a0_7) := (blk_cell BK140.out 7).trans rfl; have hcz36_8 : w34.cell? ⟨gb140, 8, none⟩ = some (.slice A0_8 l0_8.length c0_8) := (blk_cell BK140.out 8).trans rfl; have hfz36_0 := blk_frozen BK140.out 0; have hfz36_1 := blk_frozen BK140.out 1; have hfz36_2 := blk_frozen BK140.out 2; have hfz36_3 := blk_frozen BK140.out 3; have hfz36_4 := blk_frozen BK140.out 4; have hfz36_5 := blk_frozen BK140.out 5; have hfz36_6 := blk_frozen BK140.out 6; have hfz36_7 := blk_frozen BK140.out 7; have hfz36_8 := blk_frozen BK140.out 8; have hcz37_0 : w34.cell? ⟨gb141, 0, none⟩ = some (.int .i64 a1_0) := (blk_cell BK141.out 0).trans rfl; have hcz37_1 : w34.cell? ⟨gb141, 1, none⟩ = some (.int .i64 a1_1) := (blk_cell BK141.out 1).trans rfl; have hcz37_2 : w34.cell? ⟨gb141, 2, none⟩ = some (.int .i64 a1_2) := (blk_cell BK141.out 2).trans rfl; have hcz37_3 : w34.cell? ⟨gb141, 3, none⟩ = some (.int .i64 a1_3) := (blk_cell BK141.out 3).trans rfl; have hcz37_4 : w34.cell? ⟨gb141, 4, none⟩ = some (.int .i64 a1_4) := (blk_cell BK141.out 4).trans rfl; have hcz37_5 : w34.cell? ⟨gb141, 5, none⟩ = some (.int .i64 a1_5) := (blk_cell BK141.out 5).trans rfl; have hcz37_6 : w34.cell? ⟨gb141, 6, none⟩ = some (.int .i64 a1_6) := (blk_cell BK141.out 6).trans rfl; have hcz37_7 : w34.cell? ⟨gb141, 7, none⟩ = some (.string a1_7) := (blk_cell BK141.out 7).trans rfl; have hcz37_8 : w34.cell? ⟨gb141, 8, none⟩ = some (.slice A1_8 l1_8.length c1_8) := (blk_cell BK141.out 8).trans rfl; have hfz37_0 := blk_frozen BK141.out 0; have hfz37_1 := blk_frozen BK141.out 1; have hfz37_2 := blk_frozen BK141.out 2; have hfz37_3 := blk_frozen BK141.out 3; have hfz37_4 := blk_frozen BK141.out 4; have hfz37_5 := blk_frozen BK141.out 5; have hfz37_6 := blk_frozen BK141.out 6; have hfz37_7 := blk_frozen BK141.out 7; have hfz37_8 := blk_frozen BK141.out 8))
            go_ret
            exact ⟨by first | rfl | (simp [errW_none, errW_some] <;> rfl) | (simp [*, errW_none, errW_some] <;> rfl), by repeat (first | (with_reducible first | exact HB.out | apply below_alloc | apply pw_below_drewN | apply below_drew1 | refine below_set ?_ GE140.out | refine below_set ?_ GE141.out) | exact HB.out)⟩
        · rw [if_neg c6] at H
          have c6b0 : (a0_3 == a1_3) = false := beq_eq_false_iff_ne.mpr c6
          have c6b1 : (a0_3 != a1_3) = true := bne_iff_ne.mpr c6
          obtain rfl := Option.some.inj H
          go_enter Try.func13, Try.ntmps13
          go_wp2_with (first | ((with_reducible refine gate_dst (N := 2) rfl ?_); refine box_event ?hg (N := 2) ?hd (cs := #[.int .i64 a0_0, .int .i64 a0_1, .int .i64 a0_2, .int .i64 a0_3, .int .i64 a0_4, .int .i64 a0_5, .int .i64 a0_6, .string a0_7, .slice A0_8 l0_8.length c0_8]) (t := 24) ?hr ?_; (case hd => rfl); (case hg => rfl); (case hr => first | (go_simp; done) | (go_simp; rfl)); intro gb140 hg w38 hbox hb; have n0_ := Aside0.mk (below_step (by repeat (first | (with_reducible first | exact HB.out | apply below_alloc | apply pw_below_drewN | apply below_drew1) | exact HB.out)) hb); have n1_ := Aside0.mk (hbox); have n2_ := Aside0.mk ((by rw [hg]; exact (below_size (by repeat (first | (with_reducible first | exact HB.out | apply below_alloc | apply pw_below_drewN | apply below_drew1) | exact HB.out))) : w.heap.size ≤ gb140)); have n3_ := Aside0.mk ((by rw [hg]; exact (below_size (by repeat (first | (with_reducible first | exact HB.out | apply below_alloc | apply pw_below_drewN | apply below_drew1) | exact HB.out))) : w.heap.size ≤ gb140)); clear HB; have HB := n0_; have BK140 := n1_; have GW140 := n2_; have GE140 := n3_; clear n0_ n1_ n2_ n3_; clear hb hbox hg) | ((with_reducible refine gate_dst (N := 3) rfl ?_); refine box_event ?hg (N := 3) ?hd (cs := #[.int .i64 a1_0, .int .i64 a1_1, .int .i64 a1_2, .int .i64 a1_3, .int .i64 a1_4, .int .i64 a1_5, .int .i64 a1_6, .string a1_7, .slice A1_8 l1_8.length c1_8]) (t := 24) ?hr ?_; (case hd => rfl); (case hg => rfl); (case hr => first | (go_simp; done) | (go_simp; rfl)); intro gb141 hg w39 hbox hb; have n0_ := Aside0.mk (blk_below (g := gb140) (o := .cells #[.int .i64 a0_0, .int .i64 a0_1, .int .i64 a0_2, .int .i64 a0_3, .int .i64 a0_4, .int .i64 a0_5, .int .i64 a0_6, .string a0_7, .slice A0_8 l0_8.length c0_8] 24 (0, 0)) (by (with_reducible repeat (first | refine blk_drewN ?_ _ | refine blk_drew ?_ | refine blk_alloc ?_ _)); exact BK140.out) hb); have n1_ := Aside0.mk (below_step (by repeat (first | (with_reducible first | exact HB.out | apply below_alloc | apply pw_below_drewN | apply below_drew1 | refine below_set ?_ GE140.out) | exact HB.out)) hb); have n2_ := Aside0.mk (hbox); have n3_ := Aside0.mk ((by rw [hg]; exact (below_size (by repeat (first | (with_reducible first | exact HB.out | apply below_alloc | apply pw_below_drewN | apply below_drew1 | refine below_set ?_ GE140.out) | exact HB.out))) : w.heap.size ≤ gb141)); have n4_ := Aside0.mk ((by rw [hg]; exact (below_size (by repeat (first | (with_reducible first | exact HB.out | apply below_alloc | apply pw_below_drewN | apply below_drew1 | refine below_set ?_ GE140.out) | exact HB.out))) : w.heap.size ≤ gb141)); have n5_ := Aside0.mk ((by rw [hg]; exact Nat.ne_of_lt (blk_lt (g := gb140) (o := .cells #[.int .i64 a0_0, .int .i64 a0_1, .int .i64 a0_2, .int .i64 a0_3, .int .i64 a0_4, .int .i64 a0_5, .int .i64 a0_6, .string a0_7, .slice A0_8 l0_8.length c0_8] 24 (0, 0)) (by (with_reducible repeat (first | refine blk_drewN ?_ _ | refine blk_drew ?_ | refine blk_alloc ?_ _)); exact BK140.out)) : gb140 ≠ gb141)); have n6_ := Aside0.mk ((by rw [hg]; exact Nat.ne_of_gt (blk_lt (g := gb140) (o := .cells #[.int .i64 a0_0, .int .i64 a0_1, .int .i64 a0_2, .int .i64 a0_3, .int .i64 a0_4, .int .i64 a0_5, .int .i64 a0_6, .string a0_7, .slice A0_8 l0_8.length c0_8] 24 (0, 0)) (by (with_reducible repeat (first | refine blk_drewN ?_ _ | refine blk_drew ?_ | refine blk_alloc ?_ _)); exact BK140.out)) : gb141 ≠ gb140)); clear BK140; clear HB; have BK140 := n0_; have HB := n1_; have BK141 := n2_; have GW141 := n3_; have GE141 := n4_; have NB140_141 := n5_; have NB141_140 := n6_; clear n0_ n1_ n2_ n3_ n4_ n5_ n6_; clear hb hbox hg; have hnb40 := NB140_141.out; have hnc40 := NB141_140.out; have hcz41_0 : w39.cell? ⟨gb140, 0, none⟩ = some (.int .i64 a0_0) := (blk_cell BK140.out 0).trans rfl; have hcz41_1 : w39.cell? ⟨gb140, 1, none⟩ = some (.int .i64 a0_1) := (blk_cell BK140.out 1).trans rfl; have hcz41_2 : w39.cell? ⟨gb140, 2, none⟩ = some (.int .i64 a0_2) := (blk_cell BK140.out 2).trans rfl; have hcz41_3 : w39.cell? ⟨gb140, 3, none⟩ = some (.int .i64 a0_3) := (blk_cell BK140.out 3).trans rfl; have hcz41_4 : w39.cell? ⟨gb140, 4, none⟩ = some (.int .i64 a0_4) := (blk_cell BK140.out 4).trans rfl; have hcz41_5 : w39.cell? ⟨gb140, 5, none⟩ = some (.int .i64 a0_5) := (blk_cell BK140.out 5).trans rfl; have hcz41_6 : w39.cell? ⟨gb140, 6, none⟩ = some (.int .i64 a0_6) := (blk_cell BK140.out 6).trans rfl; have hcz41_7 : w39.cell? ⟨gb140, 7, none⟩ = some (.string a0_7) := (blk_cell BK140.out 7).trans rfl; have hcz41_8 : w39.cell? ⟨gb140, 8, none⟩ = some (.slice A0_8 l0_8.length c0_8) := (blk_cell BK140.out 8).trans rfl; have hfz41_0 := blk_frozen BK140.out 0; have hfz41_1 := blk_frozen BK140.out 1; have hfz41_2 := blk_frozen BK140.out 2; have hfz41_3 := blk_frozen BK140.out 3; have hfz41_4 := blk_frozen BK140.out 4; have hfz41_5 := blk_frozen BK140.out 5; have hfz41_6 := blk_frozen BK140.out 6; have hfz41_7 := blk_frozen BK140.out 7; have hfz41_8 := blk_frozen BK140.out 8; have hcz42_0 : w39.cell? ⟨gb141, 0, none⟩ = some (.int .i64 a1_0) := (blk_cell BK141.out 0).trans rfl; have hcz42_1 : w39.cell? ⟨gb141, 1, none⟩ = some (.int .i64 a1_1) := (blk_cell BK141.out 1).trans rfl; have hcz42_2 : w39.cell? ⟨gb141, 2, none⟩ = some (.int .i64 a1_2) := (blk_cell BK141.out 2).trans rfl; have hcz42_3 : w39.cell? ⟨gb141, 3, none⟩ = some (.int .i64 a1_3) := (blk_cell BK141.out 3).trans rfl; have hcz42_4 : w39.cell? ⟨gb141, 4, none⟩ = some (.int .i64 a1_4) := (blk_cell BK141.out 4).trans rfl; have hcz42_5 : w39.cell? ⟨gb141, 5, none⟩ = some (.int .i64 a1_5) := (blk_cell BK141.out 5).trans rfl; have hcz42_6 : w39.cell? ⟨gb141, 6, none⟩ = some (.int .i64 a1_6) := (blk_cell BK141.out 6).trans rfl; have hcz42_7 : w39.cell? ⟨gb141, 7, none⟩ = some (.string a1_7) := (blk_cell BK141.out 7).trans rfl; have hcz42_8 : w39.cell? ⟨gb141, 8, none⟩ = some (.slice A1_8 l1_8.length c1_8) := (blk_cell BK141.out 8).trans rfl; have hfz42_0 := blk_frozen BK141.out 0; have hfz42_1 := blk_frozen BK141.out 1; have hfz42_2 := blk_frozen BK141.out 2; have hfz42_3 := blk_frozen BK141.out 3; have hfz42_4 := blk_frozen BK141.out 4; have hfz42_5 := blk_frozen BK141.out 5; have hfz42_6 := blk_frozen BK141.out 6; have hfz42_7 := blk_frozen BK141.out 7; have hfz42_8 := blk_frozen BK141.out 8))
          go_ret
          exact ⟨by first | rfl | (simp [errW_none, errW_some] <;> rfl) | (simp [*, errW_none, errW_some] <;> rfl), by repeat (first | (with_reducible first | exact HB.out | apply below_alloc | apply pw_below_drewN | apply below_drew1 | refine below_set ?_ GE140.out | refine below_set ?_ GE141.out) | exact HB.out)⟩
      · rw [if_neg c5] at H
        have c5b0 : (a0_2 == a1_2) = false := beq_eq_false_iff_ne.mpr c5
        have c5b1 : (a0_2 != a1_2) = true := bne_iff_ne.mpr c5
        obtain rfl := Option.some.inj H
        go_enter Try.func13, Try.ntmps13
        go_wp2_with (first | ((with_reducible refine gate_dst (N := 2) rfl ?_); refine box_event ?hg (N := 2) ?hd (cs := #[.int .i64 a0_0, .int .i64 a0_1, .int .i64 a0_2, .int .i64 a0_3, .int .i64 a0_4, .int .i64 a0_5, .int .i64 a0_6, .string a0_7, .slice A0_8 l0_8.length c0_8]) (t := 24) ?hr ?_; (case hd => rfl); (case hg => rfl); (case hr => first | (go_simp; done) | (go_simp; rfl)); intro gb140 hg w43 hbox hb; have n0_ := Aside0.mk (below_step (by repeat (first | (with_reducible first | exact HB.out | apply below_alloc | apply pw_below_drewN | apply below_drew1) | exact HB.out)) hb); have n1_ := Aside0.mk (hbox); have n2_ := Aside0.mk ((by rw [hg]; exact (below_size (by repeat (first | (with_reducible first | exact HB.out | apply below_alloc | apply pw_below_drewN | apply below_drew1) | exact HB.out))) : w.heap.size ≤ gb140)); have n3_ := Aside0.mk ((by rw [hg]; exact (below_size (by repeat (first | (with_reducible first | exact HB.out | apply below_alloc | apply pw_below_drewN | apply below_drew1) | exact HB.out))) : w.heap.size ≤ gb140)); clear HB; have HB := n0_; have BK140 := n1_; have GW140 := n2_; have GE140 := n3_; clear n0_ n1_ n2_ n3_; clear hb hbox hg) | ((with_reducible refine gate_dst (N := 3) rfl ?_); refine box_event ?hg (N := 3) ?hd (cs := #[.int .i64 a1_0, .int .i64 a1_1, .int .i64 a1_2, .int .i64 a1_3, .int .i64 a1_4, .int .i64 a1_5, .int .i64 a1_6, .string a1_7, .slice A1_8 l1_8.length c1_8]) (t := 24) ?hr ?_; (case hd => rfl); (case hg => rfl); (case hr => first | (go_simp; done) | (go_simp; rfl)); intro gb141 hg w44 hbox hb; have n0_ := Aside0.mk (blk_below (g := gb140) (o := .cells #[.int .i64 a0_0, .int .i64 a0_1, .int .i64 a0_2, .int .i64 a0_3, .int .i64 a0_4, .int .i64 a0_5, .int .i64 a0_6, .string a0_7, .slice A0_8 l0_8.length c0_8] 24 (0, 0)) (by (with_reducible repeat (first | refine blk_drewN ?_ _ | refine blk_drew ?_ | refine blk_alloc ?_ _)); exact BK140.out) hb); have n1_ := Aside0.mk (below_step (by repeat (first | (with_reducible first | exact HB.out | apply below_alloc | apply pw_below_drewN | apply below_drew1 | refine below_set ?_ GE140.out) | exact HB.out)) hb); have n2_ := Aside0.mk (hbox); have n3_ := Aside0.mk ((by rw [hg]; exact (below_size (by repeat (first | (with_reducible first | exact HB.out | apply below_alloc | apply pw_below_drewN | apply below_drew1 | refine below_set ?_ GE140.out) | exact HB.out))) : w.heap.size ≤ gb141)); have n4_ := Aside0.mk ((by rw [hg]; exact (below_size (by repeat (first | (with_reducible first | exact HB.out | apply below_alloc | apply pw_below_drewN | apply below_drew1 | refine below_set ?_ GE140.out) | exact HB.out))) : w.heap.size ≤ gb141)); have n5_ := Aside0.mk ((by rw [hg]; exact Nat.ne_of_lt (blk_lt (g := gb140) (o := .cells #[.int .i64 a0_0, .int .i64 a0_1, .int .i64 a0_2, .int .i64 a0_3, .int .i64 a0_4, .int .i64 a0_5, .int .i64 a0_6, .string a0_7, .slice A0_8 l0_8.length c0_8] 24 (0, 0)) (by (with_reducible repeat (first | refine blk_drewN ?_ _ | refine blk_drew ?_ | refine blk_alloc ?_ _)); exact BK140.out)) : gb140 ≠ gb141)); have n6_ := Aside0.mk ((by rw [hg]; exact Nat.ne_of_gt (blk_lt (g := gb140) (o := .cells #[.int .i64 a0_0, .int .i64 a0_1, .int .i64 a0_2, .int .i64 a0_3, .int .i64 a0_4, .int .i64 a0_5, .int .i64 a0_6, .string a0_7, .slice A0_8 l0_8.length c0_8] 24 (0, 0)) (by (with_reducible repeat (first | refine blk_drewN ?_ _ | refine blk_drew ?_ | refine blk_alloc ?_ _)); exact BK140.out)) : gb141 ≠ gb140)); clear BK140; clear HB; have BK140 := n0_; have HB := n1_; have BK141 := n2_; have GW141 := n3_; have GE141 := n4_; have NB140_141 := n5_; have NB141_140 := n6_; clear n0_ n1_ n2_ n3_ n4_ n5_ n6_; clear hb hbox hg; have hnb45 := NB140_141.out; have hnc45 := NB141_140.out; have hcz46_0 : w44.cell? ⟨gb140, 0, none⟩ = some (.int .i64 a0_0) := (blk_cell BK140.out 0).trans rfl; have hcz46_1 : w44.cell? ⟨gb140, 1, none⟩ = some (.int .i64 a0_1) := (blk_cell BK140.out 1).trans rfl; have hcz46_2 : w44.cell? ⟨gb140, 2, none⟩ = some (.int .i64 a0_2) := (blk_cell BK140.out 2).trans rfl; have hcz46_3 : w44.cell? ⟨gb140, 3, none⟩ = some (.int .i64 a0_3) := (blk_cell BK140.out 3).trans rfl; have hcz46_4 : w44.cell? ⟨gb140, 4, none⟩ = some (.int .i64 a0_4) := (blk_cell BK140.out 4).trans rfl; have hcz46_5 : w44.cell? ⟨gb140, 5, none⟩ = some (.int .i64 a0_5) := (blk_cell BK140.out 5).trans rfl; have hcz46_6 : w44.cell? ⟨gb140, 6, none⟩ = some (.int .i64 a0_6) := (blk_cell BK140.out 6).trans rfl; have hcz46_7 : w44.cell? ⟨gb140, 7, none⟩ = some (.string a0_7) := (blk_cell BK140.out 7).trans rfl; have hcz46_8 : w44.cell? ⟨gb140, 8, none⟩ = some (.slice A0_8 l0_8.length c0_8) := (blk_cell BK140.out 8).trans rfl; have hfz46_0 := blk_frozen BK140.out 0; have hfz46_1 := blk_frozen BK140.out 1; have hfz46_2 := blk_frozen BK140.out 2; have hfz46_3 := blk_frozen BK140.out 3; have hfz46_4 := blk_frozen BK140.out 4; have hfz46_5 := blk_frozen BK140.out 5; have hfz46_6 := blk_frozen BK140.out 6; have hfz46_7 := blk_frozen BK140.out 7; have hfz46_8 := blk_frozen BK140.out 8; have hcz47_0 : w44.cell? ⟨gb141, 0, none⟩ = some (.int .i64 a1_0) := (blk_cell BK141.out 0).trans rfl; have hcz47_1 : w44.cell? ⟨gb141, 1, none⟩ = some (.int .i64 a1_1) := (blk_cell BK141.out 1).trans rfl; have hcz47_2 : w44.cell? ⟨gb141, 2, none⟩ = some (.int .i64 a1_2) := (blk_cell BK141.out 2).trans rfl; have hcz47_3 : w44.cell? ⟨gb141, 3, none⟩ = some (.int .i64 a1_3) := (blk_cell BK141.out 3).trans rfl; have hcz47_4 : w44.cell? ⟨gb141, 4, none⟩ = some (.int .i64 a1_4) := (blk_cell BK141.out 4).trans rfl; have hcz47_5 : w44.cell? ⟨gb141, 5, none⟩ = some (.int .i64 a1_5) := (blk_cell BK141.out 5).trans rfl; have hcz47_6 : w44.cell? ⟨gb141, 6, none⟩ = some (.int .i64 a1_6) := (blk_cell BK141.out 6).trans rfl; have hcz47_7 : w44.cell? ⟨gb141, 7, none⟩ = some (.string a1_7) := (blk_cell BK141.out 7).trans rfl; have hcz47_8 : w44.cell? ⟨gb141, 8, none⟩ = some (.slice A1_8 l1_8.length c1_8) := (blk_cell BK141.out 8).trans rfl; have hfz47_0 := blk_frozen BK141.out 0; have hfz47_1 := blk_frozen BK141.out 1; have hfz47_2 := blk_frozen BK141.out 2; have hfz47_3 := blk_frozen BK141.out 3; have hfz47_4 := blk_frozen BK141.out 4; have hfz47_5 := blk_frozen BK141.out 5; have hfz47_6 := blk_frozen BK141.out 6; have hfz47_7 := blk_frozen BK141.out 7; have hfz47_8 := blk_frozen BK141.out 8))
        go_ret
        exact ⟨by first | rfl | (simp [errW_none, errW_some] <;> rfl) | (simp [*, errW_none, errW_some] <;> rfl), by repeat (first | (with_reducible first | exact HB.out | apply below_alloc | apply pw_below_drewN | apply below_drew1 | refine below_set ?_ GE140.out | refine below_set ?_ GE141.out) | exact HB.out)⟩
    · rw [if_neg c4] at H
      have c4b0 : (a0_1 == a1_1) = false := beq_eq_false_iff_ne.mpr c4
      have c4b1 : (a0_1 != a1_1) = true := bne_iff_ne.mpr c4
      obtain rfl := Option.some.inj H
      go_enter Try.func13, Try.ntmps13
      go_wp2_with (first | ((with_reducible refine gate_dst (N := 2) rfl ?_); refine box_event ?hg (N := 2) ?hd (cs := #[.int .i64 a0_0, .int .i64 a0_1, .int .i64 a0_2, .int .i64 a0_3, .int .i64 a0_4, .int .i64 a0_5, .int .i64 a0_6, .string a0_7, .slice A0_8 l0_8.length c0_8]) (t := 24) ?hr ?_; (case hd => rfl); (case hg => rfl); (case hr => first | (go_simp; done) | (go_simp; rfl)); intro gb140 hg w48 hbox hb; have n0_ := Aside0.mk (below_step (by repeat (first | (with_reducible first | exact HB.out | apply below_alloc | apply pw_below_drewN | apply below_drew1) | exact HB.out)) hb); have n1_ := Aside0.mk (hbox); have n2_ := Aside0.mk ((by rw [hg]; exact (below_size (by repeat (first | (with_reducible first | exact HB.out | apply below_alloc | apply pw_below_drewN | apply below_drew1) | exact HB.out))) : w.heap.size ≤ gb140)); have n3_ := Aside0.mk ((by rw [hg]; exact (below_size (by repeat (first | (with_reducible first | exact HB.out | apply below_alloc | apply pw_below_drewN | apply below_drew1) | exact HB.out))) : w.heap.size ≤ gb140)); clear HB; have HB := n0_; have BK140 := n1_; have GW140 := n2_; have GE140 := n3_; clear n0_ n1_ n2_ n3_; clear hb hbox hg) | ((with_reducible refine gate_dst (N := 3) rfl ?_); refine box_event ?hg (N := 3) ?hd (cs := #[.int .i64 a1_0, .int .i64 a1_1, .int .i64 a1_2, .int .i64 a1_3, .int .i64 a1_4, .int .i64 a1_5, .int .i64 a1_6, .string a1_7, .slice A1_8 l1_8.length c1_8]) (t := 24) ?hr ?_; (case hd => rfl); (case hg => rfl); (case hr => first | (go_simp; done) | (go_simp; rfl)); intro gb141 hg w49 hbox hb; have n0_ := Aside0.mk (blk_below (g := gb140) (o := .cells #[.int .i64 a0_0, .int .i64 a0_1, .int .i64 a0_2, .int .i64 a0_3, .int .i64 a0_4, .int .i64 a0_5, .int .i64 a0_6, .string a0_7, .slice A0_8 l0_8.length c0_8] 24 (0, 0)) (by (with_reducible repeat (first | refine blk_drewN ?_ _ | refine blk_drew ?_ | refine blk_alloc ?_ _)); exact BK140.out) hb); have n1_ := Aside0.mk (below_step (by repeat (first | (with_reducible first | exact HB.out | apply below_alloc | apply pw_below_drewN | apply below_drew1 | refine below_set ?_ GE140.out) | exact HB.out)) hb); have n2_ := Aside0.mk (hbox); have n3_ := Aside0.mk ((by rw [hg]; exact (below_size (by repeat (first | (with_reducible first | exact HB.out | apply below_alloc | apply pw_below_drewN | apply below_drew1 | refine below_set ?_ GE140.out) | exact HB.out))) : w.heap.size ≤ gb141)); have n4_ := Aside0.mk ((by rw [hg]; exact (below_size (by repeat (first | (with_reducible first | exact HB.out | apply below_alloc | apply pw_below_drewN | apply below_drew1 | refine below_set ?_ GE140.out) | exact HB.out))) : w.heap.size ≤ gb141)); have n5_ := Aside0.mk ((by rw [hg]; exact Nat.ne_of_lt (blk_lt (g := gb140) (o := .cells #[.int .i64 a0_0, .int .i64 a0_1, .int .i64 a0_2, .int .i64 a0_3, .int .i64 a0_4, .int .i64 a0_5, .int .i64 a0_6, .string a0_7, .slice A0_8 l0_8.length c0_8] 24 (0, 0)) (by (with_reducible repeat (first | refine blk_drewN ?_ _ | refine blk_drew ?_ | refine blk_alloc ?_ _)); exact BK140.out)) : gb140 ≠ gb141)); have n6_ := Aside0.mk ((by rw [hg]; exact Nat.ne_of_gt (blk_lt (g := gb140) (o := .cells #[.int .i64 a0_0, .int .i64 a0_1, .int .i64 a0_2, .int .i64 a0_3, .int .i64 a0_4, .int .i64 a0_5, .int .i64 a0_6, .string a0_7, .slice A0_8 l0_8.length c0_8] 24 (0, 0)) (by (with_reducible repeat (first | refine blk_drewN ?_ _ | refine blk_drew ?_ | refine blk_alloc ?_ _)); exact BK140.out)) : gb141 ≠ gb140)); clear BK140; clear HB; have BK140 := n0_; have HB := n1_; have BK141 := n2_; have GW141 := n3_; have GE141 := n4_; have NB140_141 := n5_; have NB141_140 := n6_; clear n0_ n1_ n2_ n3_ n4_ n5_ n6_; clear hb hbox hg; have hnb50 := NB140_141.out; have hnc50 := NB141_140.out; have hcz51_0 : w49.cell? ⟨gb140, 0, none⟩ = some (.int .i64 a0_0) := (blk_cell BK140.out 0).trans rfl; have hcz51_1 : w49.cell? ⟨gb140, 1, none⟩ = some (.int .i64 a0_1) := (blk_cell BK140.out 1).trans rfl; have hcz51_2 : w49.cell? ⟨gb140, 2, none⟩ = some (.int .i64 a0_2) := (blk_cell BK140.out 2).trans rfl; have hcz51_3 : w49.cell? ⟨gb140, 3, none⟩ = some (.int .i64 a0_3) := (blk_cell BK140.out 3).trans rfl; have hcz51_4 : w49.cell? ⟨gb140, 4, none⟩ = some (.int .i64 a0_4) := (blk_cell BK140.out 4).trans rfl; have hcz51_5 : w49.cell? ⟨gb140, 5, none⟩ = some (.int .i64 a0_5) := (blk_cell BK140.out 5).trans rfl; have hcz51_6 : w49.cell? ⟨gb140, 6, none⟩ = some (.int .i64 a0_6) := (blk_cell BK140.out 6).trans rfl; have hcz51_7 : w49.cell? ⟨gb140, 7, none⟩ = some (.string a0_7) := (blk_cell BK140.out 7).trans rfl; have hcz51_8 : w49.cell? ⟨gb140, 8, none⟩ = some (.slice A0_8 l0_8.length c0_8) := (blk_cell BK140.out 8).trans rfl; have hfz51_0 := blk_frozen BK140.out 0; have hfz51_1 := blk_frozen BK140.out 1; have hfz51_2 := blk_frozen BK140.out 2; have hfz51_3 := blk_frozen BK140.out 3; have hfz51_4 := blk_frozen BK140.out 4; have hfz51_5 := blk_frozen BK140.out 5; have hfz51_6 := blk_frozen BK140.out 6; have hfz51_7 := blk_frozen BK140.out 7; have hfz51_8 := blk_frozen BK140.out 8; have hcz52_0 : w49.cell? ⟨gb141, 0, none⟩ = some (.int .i64 a1_0) := (blk_cell BK141.out 0).trans rfl; have hcz52_1 : w49.cell? ⟨gb141, 1, none⟩ = some (.int .i64 a1_1) := (blk_cell BK141.out 1).trans rfl; have hcz52_2 : w49.cell? ⟨gb141, 2, none⟩ = some (.int .i64 a1_2) := (blk_cell BK141.out 2).trans rfl; have hcz52_3 : w49.cell? ⟨gb141, 3, none⟩ = some (.int .i64 a1_3) := (blk_cell BK141.out 3).trans rfl; have hcz52_4 : w49.cell? ⟨gb141, 4, none⟩ = some (.int .i64 a1_4) := (blk_cell BK141.out 4).trans rfl; have hcz52_5 : w49.cell? ⟨gb141, 5, none⟩ = some (.int .i64 a1_5) := (blk_cell BK141.out 5).trans rfl; have hcz52_6 : w49.cell? ⟨gb141, 6, none⟩ = some (.int .i64 a1_6) := (blk_cell BK141.out 6).trans rfl; have hcz52_7 : w49.cell? ⟨gb141, 7, none⟩ = some (.string a1_7) := (blk_cell BK141.out 7).trans rfl; have hcz52_8 : w49.cell? ⟨gb141, 8, none⟩ = some (.slice A1_8 l1_8.length c1_8) := (blk_cell BK141.out 8).trans rfl; have hfz52_0 := blk_frozen BK141.out 0; have hfz52_1 := blk_frozen BK141.out 1; have hfz52_2 := blk_frozen BK141.out 2; have hfz52_3 := blk_frozen BK141.out 3; have hfz52_4 := blk_frozen BK141.out 4; have hfz52_5 := blk_frozen BK141.out 5; have hfz52_6 := blk_frozen BK141.out 6; have hfz52_7 := blk_frozen BK141.out 7; have hfz52_8 := blk_frozen BK141.out 8))
      go_ret
      exact ⟨by first | rfl | (simp [errW_none, errW_some] <;> rfl) | (simp [*, errW_none, errW_some] <;> rfl), by repeat (first | (with_reducible first | exact HB.out | apply below_alloc | apply pw_below_drewN | apply below_drew1 | refine below_set ?_ GE140.out | refine below_set ?_ GE141.out) | exact HB.out)⟩
  · rw [if_neg c3] at H
    have c3b0 : (a0_0 == a1_0) = false := beq_eq_false_iff_ne.mpr c3
    have c3b1 : (a0_0 != a1_0) = true := bne_iff_ne.mpr c3
    obtain rfl := Option.some.inj H
    go_enter Try.func13, Try.ntmps13
    go_wp2_with (first | ((with_reducible refine gate_dst (N := 2) rfl ?_); refine box_event ?hg (N := 2) ?hd (cs := #[.int .i64 a0_0, .int .i64 a0_1, .int .i64 a0_2, .int .i64 a0_3, .int .i64 a0_4, .int .i64 a0_5, .int .i64 a0_6, .string a0_7, .slice A0_8 l0_8.length c0_8]) (t := 24) ?hr ?_; (case hd => rfl); (case hg => rfl); (case hr => first | (go_simp; done) | (go_simp; rfl)); intro gb140 hg w53 hbox hb; have n0_ := Aside0.mk (below_step (by repeat (first | (with_reducible first | exact HB.out | apply below_alloc | apply pw_below_drewN | apply below_drew1) | exact HB.out)) hb); have n1_ := Aside0.mk (hbox); have n2_ := Aside0.mk ((by rw [hg]; exact (below_size (by repeat (first | (with_reducible first | exact HB.out | apply below_alloc | apply pw_below_drewN | apply below_drew1) | exact HB.out))) : w.heap.size ≤ gb140)); have n3_ := Aside0.mk ((by rw [hg]; exact (below_size (by repeat (first | (with_reducible first | exact HB.out | apply below_alloc | apply pw_below_drewN | apply below_drew1) | exact HB.out))) : w.heap.size ≤ gb140)); clear HB; have HB := n0_; have BK140 := n1_; have GW140 := n2_; have GE140 := n3_; clear n0_ n1_ n2_ n3_; clear hb hbox hg) | ((with_reducible refine gate_dst (N := 3) rfl ?_); refine box_event ?hg (N := 3) ?hd (cs := #[.int .i64 a1_0, .int .i64 a1_1, .int .i64 a1_2, .int .i64 a1_3, .int .i64 a1_4, .int .i64 a1_5, .int .i64 a1_6, .string a1_7, .slice A1_8 l1_8.length c1_8]) (t := 24) ?hr ?_; (case hd => rfl); (case hg => rfl); (case hr => first | (go_simp; done) | (go_simp; rfl)); intro gb141 hg w54 hbox hb; have n0_ := Aside0.mk (blk_below (g := gb140) (o := .cells #[.int .i64 a0_0, .int .i64 a0_1, .int .i64 a0_2, .int .i64 a0_3, .int .i64 a0_4, .int .i64 a0_5, .int .i64 a0_6, .string a0_7, .slice A0_8 l0_8.length c0_8] 24 (0, 0)) (by (with_reducible repeat (first | refine blk_drewN ?_ _ | refine blk_drew ?_ | refine blk_alloc ?_ _)); exact BK140.out) hb); have n1_ := Aside0.mk (below_step (by repeat (first | (with_reducible first | exact HB.out | apply below_alloc | apply pw_below_drewN | apply below_drew1 | refine below_set ?_ GE140.out) | exact HB.out)) hb); have n2_ := Aside0.mk (hbox); have n3_ := Aside0.mk ((by rw [hg]; exact (below_size (by repeat (first | (with_reducible first | exact HB.out | apply below_alloc | apply pw_below_drewN | apply below_drew1 | refine below_set ?_ GE140.out) | exact HB.out))) : w.heap.size ≤ gb141)); have n4_ := Aside0.mk ((by rw [hg]; exact (below_size (by repeat (first | (with_reducible first | exact HB.out | apply below_alloc | apply pw_below_drewN | apply below_drew1 | refine below_set ?_ GE140.out) | exact HB.out))) : w.heap.size ≤ gb141)); have n5_ := Aside0.mk ((by rw [hg]; exact Nat.ne_of_lt (blk_lt (g := gb140) (o := .cells #[.int .i64 a0_0, .int .i64 a0_1, .int .i64 a0_2, .int .i64 a0_3, .int .i64 a0_4, .int .i64 a0_5, .int .i64 a0_6, .string a0_7, .slice A0_8 l0_8.length c0_8] 24 (0, 0)) (by (with_reducible repeat (first | refine blk_drewN ?_ _ | refine blk_drew ?_ | refine blk_alloc ?_ _)); exact BK140.out)) : gb140 ≠ gb141)); have n6_ := Aside0.mk ((by rw [hg]; exact Nat.ne_of_gt (blk_lt (g := gb140) (o := .cells #[.int .i64 a0_0, .int .i64 a0_1, .int .i64 a0_2, .int .i64 a0_3, .int .i64 a0_4, .int .i64 a0_5, .int .i64 a0_6, .string a0_7, .slice A0_8 l0_8.length c0_8] 24 (0, 0)) (by (with_reducible repeat (first | refine blk_drewN ?_ _ | refine blk_drew ?_ | refine blk_alloc ?_ _)); exact BK140.out)) : gb141 ≠ gb140)); clear BK140; clear HB; have BK140 := n0_; have HB := n1_; have BK141 := n2_; have GW141 := n3_; have GE141 := n4_; have NB140_141 := n5_; have NB141_140 := n6_; clear n0_ n1_ n2_ n3_ n4_ n5_ n6_; clear hb hbox hg; have hnb55 := NB140_141.out; have hnc55 := NB141_140.out; have hcz56_0 : w54.cell? ⟨gb140, 0, none⟩ = some (.int .i64 a0_0) := (blk_cell BK140.out 0).trans rfl; have hcz56_1 : w54.cell? ⟨gb140, 1, none⟩ = some (.int .i64 a0_1) := (blk_cell BK140.out 1).trans rfl; have hcz56_2 : w54.cell? ⟨gb140, 2, none⟩ = some (.int .i64 a0_2) := (blk_cell BK140.out 2).trans rfl; have hcz56_3 : w54.cell? ⟨gb140, 3, none⟩ = some (.int .i64 a0_3) := (blk_cell BK140.out 3).trans rfl; have hcz56_4 : w54.cell? ⟨gb140, 4, none⟩ = some (.int .i64 a0_4) := (blk_cell BK140.out 4).trans rfl; have hcz56_5 : w54.cell? ⟨gb140, 5, none⟩ = some (.int .i64 a0_5) := (blk_cell BK140.out 5).trans rfl; have hcz56_6 : w54.cell? ⟨gb140, 6, none⟩ = some (.int .i64 a0_6) := (blk_cell BK140.out 6).trans rfl; have hcz56_7 : w54.cell? ⟨gb140, 7, none⟩ = some (.string a0_7) := (blk_cell BK140.out 7).trans rfl; have hcz56_8 : w54.cell? ⟨gb140, 8, none⟩ = some (.slice A0_8 l0_8.length c0_8) := (blk_cell BK140.out 8).trans rfl; have hfz56_0 := blk_frozen BK140.out 0; have hfz56_1 := blk_frozen BK140.out 1; have hfz56_2 := blk_frozen BK140.out 2; have hfz56_3 := blk_frozen BK140.out 3; have hfz56_4 := blk_frozen BK140.out 4; have hfz56_5 := blk_frozen BK140.out 5; have hfz56_6 := blk_frozen BK140.out 6; have hfz56_7 := blk_frozen BK140.out 7; have hfz56_8 := blk_frozen BK140.out 8; have hcz57_0 : w54.cell? ⟨gb141, 0, none⟩ = some (.int .i64 a1_0) := (blk_cell BK141.out 0).trans rfl; have hcz57_1 : w54.cell? ⟨gb141, 1, none⟩ = some (.int .i64 a1_1) := (blk_cell BK141.out 1).trans rfl; have hcz57_2 : w54.cell? ⟨gb141, 2, none⟩ = some (.int .i64 a1_2) := (blk_cell BK141.out 2).trans rfl; have hcz57_3 : w54.cell? ⟨gb141, 3, none⟩ = some (.int .i64 a1_3) := (blk_cell BK141.out 3).trans rfl; have hcz57_4 : w54.cell? ⟨gb141, 4, none⟩ = some (.int .i64 a1_4) := (blk_cell BK141.out 4).trans rfl; have hcz57_5 : w54.cell? ⟨gb141, 5, none⟩ = some (.int .i64 a1_5) := (blk_cell BK141.out 5).trans rfl; have hcz57_6 : w54.cell? ⟨gb141, 6, none⟩ = some (.int .i64 a1_6) := (blk_cell BK141.out 6).trans rfl; have hcz57_7 : w54.cell? ⟨gb141, 7, none⟩ = some (.string a1_7) := (blk_cell BK141.out 7).trans rfl; have hcz57_8 : w54.cell? ⟨gb141, 8, none⟩ = some (.slice A1_8 l1_8.length c1_8) := (blk_cell BK141.out 8).trans rfl; have hfz57_0 := blk_frozen BK141.out 0; have hfz57_1 := blk_frozen BK141.out 1; have hfz57_2 := blk_frozen BK141.out 2; have hfz57_3 := blk_frozen BK141.out 3; have hfz57_4 := blk_frozen BK141.out 4; have hfz57_5 := blk_frozen BK141.out 5; have hfz57_6 := blk_frozen BK141.out 6; have hfz57_7 := blk_frozen BK141.out 7; have hfz57_8 := blk_frozen BK141.out 8))
    go_ret
    exact ⟨by first | rfl | (simp [errW_none, errW_some] <;> rfl) | (simp [*, errW_none, errW_some] <;> rfl), by repeat (first | (with_reducible first | exact HB.out | apply below_alloc | apply pw_below_drewN | apply below_drew1 | refine below_set ?_ GE140.out | refine below_set ?_ GE141.out) | exact HB.out)⟩

end Go.Proofs.Ytljdkfgnoalgpaa.PSegLays

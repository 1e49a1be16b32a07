/- RtoDoes holds: samples and times it is backed off make just these values, one by one. Conditions: none beside the row's own reach. -/
import Derived.Test.YtmcidhdjbcjonaaAwake23
import Derived.Test.YtmcidhdjbcjonaaCRef23
import Derived.Deep.RegionWith
namespace Go.Proofs.Ytmcidhdjbcjonaa
open Go.RowKit Go.Proofs.YtmcidhdjbcjonaaW.PrintWords

theorem Its.cell {w : World} {ad : Addr} {n c : Nat} {xs : List Int} (h : Its w (some ad) n c xs) (i : Nat) (hi : i < n) : w.cell? (ad.add i) = some (.int .i64 (xs.getD i 0)) := by
  obtain ⟨ad', e, q⟩ := h.at_ i hi
  injection e with e
  subst e
  exact q
theorem all_snoc {p : Int → Prop} {l : List Int} {x : Int} (h : ∀ y ∈ l, p y) (hx : p x) : ∀ y ∈ l ++ [x], p y := by
  intro y hy
  rcases List.mem_append.1 hy with h1 | h1
  · exact h y h1
  · rw [List.mem_singleton.1 h1]; exact hx

set_option maxHeartbeats 8000000 in
theorem RtoDoes_any (A : Option Addr) (n c : Nat) (xs : List Int) (w : World) (h : Its w A n c xs) :
    Calls Try.prog 3 #[.slice A n c] w fun e w' => e = .returned (.bool true) ∧ Below w.heap.size w w' := by
  by_cases q : 300 < n
  · go_enter Try.func3, Try.ntmps3
    go_wp2
    go_ret
    exact ⟨rfl, Below.refl _ _⟩
  have d : decide ((300 : Int) < (n : Int)) = false := decide_eq_false (by omega)
  go_enter Try.func3, Try.ntmps3
  go_wp2_with fail
  refine (rto_New _).mono ?_
  rintro e w1 ⟨rfl, t1, hB⟩
  obtain ⟨hh, hhe⟩ : ∃ hh, hh = w1.heap.size := ⟨_, rfl⟩
  have hgh : w.heap.size < hh := by rw [hhe]; exact t1.lt
  have a1 : Hid (Tm (w1.alloc (.cells #[.slice none 0 0] 27)) w.heap.size St.new) := Lib.hid (t1.below ((Below.refl _ _).alloc (Nat.le_refl _) _))
  have a2 : Hid (Tr (w1.alloc (.cells #[.slice none 0 0] 27)) hh []) := Lib.hid (by rw [hhe]; exact Tr.new w1)
  have a3 : Hid (Below w.heap.size w (w1.alloc (.cells #[.slice none 0 0] 27))) := Lib.hid (hB.alloc hB.size _)
  clear t1 hB
  go_wp2
  rw [← hhe]
  clear hhe
  go_loopw [5] (fun vi wr => ∃ (k : Nat) (l : List Int), k ≤ n ∧ vi = .int .i64 k ∧ Hid (Tm wr w.heap.size (St.run l)) ∧ Hid (Tr wr hh l) ∧ Hid ((∀ y ∈ l, y ≤ 1000000) ∧ (∀ y ∈ l, I64 y) ∧ l.length ≤ k) ∧ Hid (Below w.heap.size w wr)) (fun vi _ => n - (intOf vi).toNat)
  case atStart => exact ⟨0, [], by omega, rfl, a1, a2, Lib.hid ⟨by simp, by simp, by simp⟩, a3⟩
  case round =>
    clear a1 a2 a3
    obtain ⟨k, l, hk, rfl, ht, hr, hl, hB⟩ := hrel
    replace hB := hB.out
    replace ht := ht.out
    replace hr := hr.out
    obtain ⟨hm, hx, hlen⟩ := hl.out
    clear hl
    by_cases hlt : k < n
    · obtain ⟨ad, rfl, c0⟩ := (h.below hB).at_ k hlt
      have hI := h.get k hlt
      generalize hx0 : xs.getD k 0 = x at c0 hI
      replace hx0 := Lib.hid hx0
      have hro := run_ok l hm
      by_cases hm1 : x = -1
      · subst hm1
        have hrun : St.run (l ++ [-1]) = (St.run l).back := by rw [St.run_snoc, if_pos (by omega)]
        go_wp2_with fail
        refine (rto_Back _ _ _ ht (by omega)).mono ?_
        rintro e w2 ⟨rfl, t2, hg⟩
        replace hB := below_grown hB hB.size hg (Nat.le_refl _)
        replace hr := hr.grown hg hgh
        clear hg ht c0 hro
        go_wp2_with fail
        refine (r23_Back _ _ _ hr (by omega)).mono ?_
        rintro e w3 ⟨rfl, R2, hB3⟩
        have T2 := t2.lower hB3 hgh
        rw [← hrun] at T2
        replace hB := hB.trans (hB3.mono (by omega))
        clear hB3 hr t2 hrun

        have HX2 : Hid ((∀ y ∈ (l ++ [-1]), y ≤ 1000000) ∧ (∀ y ∈ (l ++ [-1]), I64 y) ∧ (l ++ [-1]).length ≤ k + 1) := Lib.hid ⟨all_snoc hm (by omega), all_snoc hx hI, by simp; omega⟩
        go_wp2_with fail
        refine (rto_Smooth _ _ _ T2).mono ?_
        rintro e w' ⟨rfl, nq, rfl⟩
        replace T2 := T2.drewN nq
        replace R2 := R2.drewN nq
        replace hB := pw_below_drewN hB nq
        generalize w3.drewN nq = w5 at T2 R2 hB ⊢
        go_wp2_with fail
        refine (r23_Smooth _ _ _ R2 (by have := HX2.out.2.2; omega) HX2.out.2.1 HX2.out.1).mono ?_
        rintro e w' ⟨rfl, rfl⟩
        have ro := run_ok (l ++ [-1]) HX2.out.1
        go_wp2_with fail
        refine (rto_Value _ _ _ T2 ro.1 (by have := HX2.out.2.2; omega)).mono ?_
        rintro e w' ⟨rfl, nq, rfl⟩
        replace T2 := T2.drewN nq
        replace R2 := R2.drewN nq
        replace hB := pw_below_drewN hB nq
        generalize w5.drewN nq = w6 at T2 R2 hB ⊢
        go_wp2_with fail
        refine (r23_Value _ _ _ R2 (by have := HX2.out.2.2; omega) HX2.out.2.1 HX2.out.1).mono ?_
        rintro e w' ⟨rfl, rfl⟩
        have TT := Lib.hid T2
        have RR := Lib.hid R2
        have HB := Lib.hid hB
        clear T2 R2 hB ro
        go_wp2
        exact ⟨⟨k + 1, (l ++ [-1]), by omega, by go_num, TT, RR, HX2, HB⟩, by simp [intOf]; omega⟩

      · have e1 : (x == -1) = false := beq_eq_false_iff_ne.mpr hm1
        by_cases hin : 0 ≤ x ∧ x ≤ 1000000
        · have hrun : Hid (St.run (l ++ [x]) = (St.run l).sample x) := Lib.hid (by rw [St.run_snoc, if_neg (by omega)])
          have htd : Hid (Tm wr.drew w.heap.size (St.run l)) := Lib.hid (ht.below (below_drew (Below.refl _ _)))
          have hrd : Hid (Tr wr.drew hh l) := Lib.hid (hr.below (below_drew (Below.refl _ _)))
          have hBd : Hid (Below w.heap.size w wr.drew) := Lib.hid (below_drew hB)
          have cd : wr.drew.cell? (ad.add k) = some (.int .i64 x) := c0
          clear ht hr hB
          go_wp2
          go_region_with (first
            | (go_at_call 11
               refine (rto_Sample _ _ _ _ htd.out hro.1 hin.1 hin.2).mono ?_
               rintro e w2 ⟨rfl, t2, hg⟩
               have hB2 := below_grown hBd.out hBd.out.size hg (Nat.le_refl _)
               have hr2 := hrd.out.grown hg hgh
               have c2 : w2.cell? (ad.add k) = some (.int .i64 x) := by rw [← hx0.out]; exact (h.below hB2).cell k hlt
               replace t2 := Lib.hid t2
               replace hr2 := Lib.hid hr2
               replace hB2 := Lib.hid hB2
               replace hg := Lib.hid hg)
            | (go_at_call 12
               refine (r23_Sample _ _ _ _ hr2.out (by omega) hin.1 hin.2).mono ?_
               rintro e w3 ⟨rfl, R2, hB3⟩
               replace R2 := Lib.hid R2
               replace hB3 := Lib.hid hB3))
          all_goals
            replace R2 := R2.out
            have T2 := t2.out.lower hB3.out hgh
            rw [← hrun.out] at T2
            have hB := hB2.out.trans (hB3.out.mono (by omega))
            clear hB3 hr2 t2 hrun hg hB2 htd hrd hBd cd c2 c0

            have HX2 : Hid ((∀ y ∈ (l ++ [x]), y ≤ 1000000) ∧ (∀ y ∈ (l ++ [x]), I64 y) ∧ (l ++ [x]).length ≤ k + 1) := Lib.hid ⟨all_snoc hm hin.2, all_snoc hx hI, by simp; omega⟩
            go_wp2_with fail
            refine (rto_Smooth _ _ _ T2).mono ?_
            rintro e w' ⟨rfl, nq, rfl⟩
            replace T2 := T2.drewN nq
            replace R2 := R2.drewN nq
            replace hB := pw_below_drewN hB nq
            generalize w3.drewN nq = w5 at T2 R2 hB ⊢
            go_wp2_with fail
            refine (r23_Smooth _ _ _ R2 (by have := HX2.out.2.2; omega) HX2.out.2.1 HX2.out.1).mono ?_
            rintro e w' ⟨rfl, rfl⟩
            have ro := run_ok (l ++ [x]) HX2.out.1
            go_wp2_with fail
            refine (rto_Value _ _ _ T2 ro.1 (by have := HX2.out.2.2; omega)).mono ?_
            rintro e w' ⟨rfl, nq, rfl⟩
            replace T2 := T2.drewN nq
            replace R2 := R2.drewN nq
            replace hB := pw_below_drewN hB nq
            generalize w5.drewN nq = w6 at T2 R2 hB ⊢
            go_wp2_with fail
            refine (r23_Value _ _ _ R2 (by have := HX2.out.2.2; omega) HX2.out.2.1 HX2.out.1).mono ?_
            rintro e w' ⟨rfl, rfl⟩
            have TT := Lib.hid T2
            have RR := Lib.hid R2
            have HB := Lib.hid hB
            clear T2 R2 hB ro
            go_wp2
            exact ⟨⟨k + 1, (l ++ [x]), by omega, by go_num, TT, RR, HX2, HB⟩, by simp [intOf]; omega⟩

        · have hbad : x < 0 ∨ 1000000 < x := by omega
          have cd : wr.drew.cell? (ad.add k) = some (.int .i64 x) := c0
          have l1 : Hid (l.length ≤ k + 1) := Lib.hid (by omega)
          go_wp2
          go_quiet (first
            | (go_at_call 11; exact quiet_same (rto_Sample_bad _ _ _ hbad))
            | (go_at_call 12; exact quiet_same (r23_Sample_bad _ _ _ hbad)))
          clear cd c0
          have T2 := ht.drewN nq
          have R2 := hr.drewN nq
          replace hB := pw_below_drewN hB nq
          clear ht hr
          generalize wr.drewN nq = w3 at T2 R2 hB ⊢

          have HX2 : Hid ((∀ y ∈ l, y ≤ 1000000) ∧ (∀ y ∈ l, I64 y) ∧ l.length ≤ k + 1) := Lib.hid ⟨hm, hx, l1.out⟩
          go_wp2_with fail
          refine (rto_Smooth _ _ _ T2).mono ?_
          rintro e w' ⟨rfl, nq, rfl⟩
          replace T2 := T2.drewN nq
          replace R2 := R2.drewN nq
          replace hB := pw_below_drewN hB nq
          generalize w3.drewN nq = w5 at T2 R2 hB ⊢
          go_wp2_with fail
          refine (r23_Smooth _ _ _ R2 (by have := HX2.out.2.2; omega) HX2.out.2.1 HX2.out.1).mono ?_
          rintro e w' ⟨rfl, rfl⟩
          have ro := run_ok l HX2.out.1
          go_wp2_with fail
          refine (rto_Value _ _ _ T2 ro.1 (by have := HX2.out.2.2; omega)).mono ?_
          rintro e w' ⟨rfl, nq, rfl⟩
          replace T2 := T2.drewN nq
          replace R2 := R2.drewN nq
          replace hB := pw_below_drewN hB nq
          generalize w5.drewN nq = w6 at T2 R2 hB ⊢
          go_wp2_with fail
          refine (r23_Value _ _ _ R2 (by have := HX2.out.2.2; omega) HX2.out.2.1 HX2.out.1).mono ?_
          rintro e w' ⟨rfl, rfl⟩
          have TT := Lib.hid T2
          have RR := Lib.hid R2
          have HB := Lib.hid hB
          clear T2 R2 hB ro
          go_wp2
          exact ⟨⟨k + 1, l, by omega, by go_num, TT, RR, HX2, HB⟩, by simp [intOf]; omega⟩

    · have d2 : decide ((k : Int) < (n : Int)) = false := decide_eq_false (by omega)
      have d3 : decide (k < n) = false := decide_eq_false (by omega)
      go_wp2_with fail
      refine (awake23 _).mono ?_
      rintro e w2 ⟨rfl, hB2⟩
      replace hB2 := below_step2 (w := wr) (by repeat (first | exact Below.refl _ _ | apply below_alloc | apply below_drew | apply pw_below_drewN)) hB2
      replace hB := below_step2 hB hB2
      clear hB2
      go_wp2
      go_ret
      exact ⟨rfl, hB⟩
end Go.Proofs.Ytmcidhdjbcjonaa

/- Contracts of the reference's timer: a list of what happened, in memory. Conditions: those that each lemma states. -/
import Derived.Test.YtmcidhdjbcjonaaBaseR
import Derived.Test.YtmcidhdjbcjonaaInts
import Derived.Deep.QuietTactic
import Derived.BigQuiet
import Derived.BigRegion
namespace Go.Proofs.Ytmcidhdjbcjonaa
open Go.RowKit Go.Proofs.YtmcidhdjbcjonaaW.PrintWords

theorem run_take_ok (l : List Int) (h : ∀ x ∈ l, x ≤ 1000000) (k : Nat) (hk : k ≤ l.length) : (St.run (l.take k)).ok ∧ (St.run (l.take k)).b ≤ k := by
  induction k with
  | zero => simp [St.run, St.ok, St.new]
  | succ k ih =>
    obtain ⟨i1, i2⟩ := ih (by omega)
    rw [St.run_take l k (by omega)]
    have hm : l.getD k 0 ∈ l := by
      have hlt : k < l.length := by omega
      rw [List.getD_eq_getElem?_getD, List.getElem?_eq_getElem hlt]
      exact List.getElem_mem hlt
    split
    · exact ⟨St.ok_back i1, by simp [St.back]; exact i2⟩
    · exact ⟨St.ok_sample i1 _ (by omega) (h _ hm), by unfold St.sample; split <;> simp⟩
theorem run_ok (l : List Int) (h : ∀ x ∈ l, x ≤ 1000000) : (St.run l).ok ∧ (St.run l).b ≤ l.length := by
  have := run_take_ok l h l.length (Nat.le_refl _)
  rwa [List.take_length] at this

theorem Try.info3o : (Try.prog.info? 3).map (fun i => (i.zero, i.size, i.bytes)) = some (some (.int .i64 0), 1, 8) := by kernel_rfl
/-- The reference's timer lies in block h, its list behind it. -/
structure Tr (w : World) (h : Nat) (l : List Int) : Prop where
  ex : ∃ v, w.heap[h]? = some (.cells #[v] 27 (0, 0)) ∧ w.ownsRow (h + 1) 3 1 v l.length (nums .i64 l)
section
variable {w w1 : World} {h : Nat} {l : List Int}
theorem Tr.below (t : Tr w h l) (hb : Below w.heap.size w w1) : Tr w1 h l := by
  obtain ⟨v, a, b⟩ := t.ex
  exact ⟨v, blk_below a hb, pw_own_below b hb⟩
theorem Tr.drewN (t : Tr w h l) (n : Nat) : Tr (w.drewN n) h l := t.below (pw_below_drewN (Below.refl _ _) n)
theorem Tr.grown (t : Tr w h l) {g : Nat} (hg : w.grownBy w1 (some g)) (hlt : g < h) : Tr w1 h l := by
  obtain ⟨v, a, b⟩ := t.ex
  refine ⟨v, blk_grown a hg (by simp; omega), own_other b hg ?_⟩
  rcases own_base' b with e | ⟨k, e, hk⟩
  · exact .inl e
  · exact .inr (by rw [e]; simp; omega)
theorem Tr.lt (t : Tr w h l) : h < w.heap.size := by
  obtain ⟨v, a, b⟩ := t.ex
  exact blk_lt a
theorem Tr.new (w : World) : Tr (w.alloc (.cells #[.slice none 0 0] 27)) w.heap.size [] := ⟨_, blk_new _ _, own_nil _ _ _ _⟩
theorem Tm.lower {g : Nat} {t : St} (h : Tm w g t) {B : Nat} (hb : Below B w w1) (hlt : g < B) : Tm w1 g t := ⟨(hb.block g hlt).trans h.blk⟩
end
theorem own_its {w : World} {b : Nat} {v : Value} {l : List Int} (h : w.ownsRow b 3 1 v l.length (nums .i64 l)) (hl : l.length ≤ 1000000) (hx : ∀ x ∈ l, I64 x) : ∃ A c, v = .slice A l.length c ∧ Its w A l.length c l := by
  obtain ⟨A, c, e, hr⟩ := own_reads h
  subst e
  refine ⟨A, c, rfl, hr, own_le h, ?_, by omega, hx⟩
  rcases h.2 with ⟨e, _⟩ | ⟨g, cap, cur, e, _, _, _, hc, _⟩
  · injection e with _ _ e3; subst e3; omega
  · injection e with _ _ e3; subst e3
    exact hc
theorem hid_stop {p : Prop} (h : Hid p) : p := h.out
theorem lit_reads (w : World) (x : Int) : ReadsInt (w.alloc (.cells #[.int .i64 x] 3)) .i64 (some ⟨w.heap.size, 0, none⟩) 1 [x] := by
  refine ⟨rfl, by omega, fun _ => ⟨_, rfl, fun j hj => ?_⟩⟩
  obtain rfl : j = 0 := by omega
  rw [add_plain]
  exact (cell_of_row _ _ _ _ 3 (0, 0) (heap_alloc_new w _)).trans rfl

set_option maxHeartbeats 1000000 in
theorem r23_Back (h : Nat) (l : List Int) (w : World) (ht : Tr w h l) (hl : l.length ≤ 1000000) : Calls Try.prog (10) #[.pointer (some ⟨h, 0, none⟩)] w fun e w' => e = .returned (.int .i64 0) ∧ Tr w' h (l ++ [-1]) ∧ Below h w w' := by
  have hlt := ht.lt
  obtain ⟨v, hb, ho⟩ := ht.ex
  have c0 : w.cell? ⟨h, 0, none⟩ = some v := (blk_cell hb 0).trans rfl
  have ho := Lib.hid ho
  have hb' := Lib.hid hb
  clear hb
  go_enter Try.func10, Try.ntmps10
  go_wp2_with (at_builtin; refine hid_stop ?_)
  refine Lib.hid ?_
  refine print_append_row (w0 := w) (h + 1) rfl (.tmp 7) (.tmp 8) 22 3 .i64 8 rfl Try.underlying22 Try.info3o (by decide) v l [-1] (some ⟨w.heap.size, 0, none⟩) 1 1 rfl rfl (own_alloc ho.out _) (lit_reads w (-1)) ((Below.refl _ _).alloc (by omega) _) (Nat.le_trans (by omega : h + 1 ≤ w.heap.size) ((Below.refl 0 w).alloc (Nat.zero_le _) _).size) (by omega) ?_
  intro v1 w1 ho1 hB1 hg1 _
  have hb1 := blk_grown (blk_alloc hb'.out _) hg1 (own_ne ho.out hb'.out (by decide))
  have c1 : w1.cell? ⟨h, 0, none⟩ = some v := (blk_cell hb1 0).trans rfl
  obtain ⟨A1, m1, rfl⟩ := own_slice ho1
  have f1 := blk_frozen hb1 0
  go_wp2
  go_ret
  refine ⟨rfl, ⟨_, blk_set hb1 0 _, ?_⟩, ?_⟩
  · have q := own_setCell ho1 (p := ⟨h, 0, none⟩) (own_ne ho1 hb1 (by decide)) (.slice A1 (l.length + 1) m1)
    rw [List.length_append] at q ⊢
    exact q
  · exact ((((Below.refl h w).alloc (by omega) _).grown hg1 (Nat.le_trans (by omega : h ≤ w.heap.size) ((Below.refl 0 w).alloc (Nat.zero_le _) _).size) (fun k e => by have := own_base ho.out k e; omega))).setCell (Nat.le_refl _) _

set_option maxHeartbeats 1000000 in
theorem r23_Sample (h : Nat) (l : List Int) (n : Int) (w : World) (ht : Tr w h l) (hl : l.length ≤ 1000000) (h0 : 0 ≤ n) (h1 : n ≤ 1000000) : Calls Try.prog (12) #[.pointer (some ⟨h, 0, none⟩), .int .i64 n] w fun e w' => e = .returned (.int .i64 0) ∧ Tr w' h (l ++ [n]) ∧ Below h w w' := by
  have d0 : decide (n < 0) = false := decide_eq_false (by omega)
  have d1 : decide (1000000 < n) = false := decide_eq_false (by omega)
  have hlt := ht.lt
  obtain ⟨v, hb, ho⟩ := ht.ex
  have c0 : w.cell? ⟨h, 0, none⟩ = some v := (blk_cell hb 0).trans rfl
  have ho := Lib.hid ho
  have hb' := Lib.hid hb
  clear hb
  go_enter Try.func12, Try.ntmps12
  go_wp2_with (at_builtin; refine hid_stop ?_)
  refine Lib.hid ?_
  refine print_append_row (w0 := w) (h + 1) rfl (.tmp 15) (.tmp 17) 22 3 .i64 8 rfl Try.underlying22 Try.info3o (by decide) v l [n] (some ⟨w.heap.size, 0, none⟩) 1 1 rfl rfl (own_alloc ho.out _) (lit_reads w n) ((Below.refl _ _).alloc (by omega) _) (Nat.le_trans (by omega : h + 1 ≤ w.heap.size) ((Below.refl 0 w).alloc (Nat.zero_le _) _).size) (by omega) ?_
  intro v1 w1 ho1 hB1 hg1 _
  have hb1 := blk_grown (blk_alloc hb'.out _) hg1 (own_ne ho.out hb'.out (by decide))
  have c1 : w1.cell? ⟨h, 0, none⟩ = some v := (blk_cell hb1 0).trans rfl
  obtain ⟨A1, m1, rfl⟩ := own_slice ho1
  have f1 := blk_frozen hb1 0
  go_wp2
  go_ret
  refine ⟨rfl, ⟨_, blk_set hb1 0 _, ?_⟩, ?_⟩
  · have q := own_setCell ho1 (p := ⟨h, 0, none⟩) (own_ne ho1 hb1 (by decide)) (.slice A1 (l.length + 1) m1)
    rw [List.length_append] at q ⊢
    exact q
  · exact ((((Below.refl h w).alloc (by omega) _).grown hg1 (Nat.le_trans (by omega : h ≤ w.heap.size) ((Below.refl 0 w).alloc (Nat.zero_le _) _).size) (fun k e => by have := own_base ho.out k e; omega))).setCell (Nat.le_refl _) _

set_option maxHeartbeats 1000000 in
theorem r23_Sample_bad (h : Nat) (n : Int) (w : World) (hn : n < 0 ∨ 1000000 < n) : Calls Try.prog (12) #[.pointer (some ⟨h, 0, none⟩), .int .i64 n] w fun e w' => e = .returned (.int .i64 1) ∧ w = w' := by
  by_cases h0 : n < 0
  · go_enter Try.func12, Try.ntmps12
    go_wp2
    go_ret
    exact ⟨rfl, rfl⟩
  · have h1 : 1000000 < n := by omega
    have d0 : decide (n < 0) = false := decide_eq_false h0
    go_enter Try.func12, Try.ntmps12
    go_wp2
    go_ret
    exact ⟨rfl, rfl⟩

set_option maxHeartbeats 2000000 in
theorem r23_Smooth (h : Nat) (l : List Int) (w : World) (ht : Tr w h l) (hl : l.length ≤ 1000000) (hx : ∀ x ∈ l, I64 x) (hm : ∀ x ∈ l, x ≤ 1000000) : Calls Try.prog (14) #[.pointer (some ⟨h, 0, none⟩)] w fun e w' => e = .returned (.tuple #[.int .i64 (St.run l).s, .int .i64 (St.run l).v]) ∧ w = w' := by
  obtain ⟨v, hb, ho⟩ := ht.ex
  have c0 : w.cell? ⟨h, 0, none⟩ = some v := (blk_cell hb 0).trans rfl
  obtain ⟨A, c, rfl, hi⟩ := own_its ho hl hx
  clear hb ho ht
  go_enter Try.func14, Try.ntmps14
  go_wp2
  go_loop [4, 5, 6, 7] (fun vs vv vf vi => ∃ k : Nat, k ≤ l.length ∧ vi = .int .i64 k ∧ vs = .int .i64 (St.run (l.take k)).s ∧ vv = .int .i64 (St.run (l.take k)).v ∧ vf = .bool (!(St.run (l.take k)).k)) (fun _ _ _ vi => l.length - (intOf vi).toNat)
  case atStart => exact ⟨0, by omega, rfl, rfl, rfl, rfl⟩
  case round =>
    obtain ⟨k, hk, rfl, rfl, rfl, rfl⟩ := hrel
    by_cases hlt : k < l.length
    · have hrun := Lib.hid (St.run_take l k hlt)
      have hok := (run_take_ok l hm k hk).1
      obtain ⟨ad, rfl, cx⟩ := hi.at_ k hlt
      have hI := hi.get k hlt
      have hM : l.getD k 0 ≤ 1000000 := by
        rw [List.getD_eq_getElem?_getD, List.getElem?_eq_getElem hlt]
        exact hm _ (List.getElem_mem hlt)
      generalize St.run (l.take k) = t at hrun hok ⊢
      generalize l.getD k 0 = x at hrun cx hI hM
      unfold St.ok at hok
      by_cases h0 : x < 0
      · go_wp2
        have e : St.run (l.take (k + 1)) = t.back := by rw [hrun.out, if_pos h0]
        exact ⟨⟨k + 1, by omega, by go_num, val_int (by rw [e]; rfl), val_int (by rw [e]; rfl), by rw [e]; rfl⟩, by simp [intOf]; omega⟩
      · have x0 : decide (x < 0) = false := decide_eq_false h0
        have e : Hid (St.run (l.take (k + 1)) = t.sample x) := Lib.hid (by rw [hrun.out, if_neg h0])
        cases hkk : t.k
        · have hs : Hid (t.sample x = ⟨8 * x, 2 * x, true, 0⟩) := Lib.hid (by unfold St.sample; rw [if_neg (by rw [hkk]; simp)])
          clear hkk
          go_wp2
          exact ⟨⟨k + 1, by omega, by go_num, val_int (by rw [e.out, hs.out]), val_int (by rw [e.out, hs.out]), by rw [e.out, hs.out]; rfl⟩, by simp [intOf]; omega⟩
        · have hs : Hid (t.sample x = ⟨t.s + (x - t.s / 8), t.v + ab (x - t.s / 8) - t.v / 4, true, 0⟩) := Lib.hid (by unfold St.sample; rw [if_pos hkk])
          clear hkk
          by_cases hD : x - t.s / 8 < 0
          · have ha : Hid (ab (x - t.s / 8) = 0 - (x - t.s / 8)) := Lib.hid (by unfold ab; rw [if_pos hD])
            go_wp2
            exact ⟨⟨k + 1, by omega, by go_num, val_int (by rw [e.out, hs.out]), val_int (by rw [e.out, hs.out, ha.out]; simp only; omega), by rw [e.out, hs.out]⟩, by simp [intOf]; omega⟩
          · have ha : Hid (ab (x - t.s / 8) = x - t.s / 8) := Lib.hid (by unfold ab; rw [if_neg hD])
            have hD' : decide (x - t.s / 8 < 0) = false := decide_eq_false hD
            go_wp2
            exact ⟨⟨k + 1, by omega, by go_num, val_int (by rw [e.out, hs.out]), val_int (by rw [e.out, hs.out, ha.out]), by rw [e.out, hs.out]⟩, by simp [intOf]; omega⟩
    · have d2 : decide ((k : Int) < (l.length : Int)) = false := decide_eq_false (by omega)
      have d3 : decide (k < l.length) = false := decide_eq_false (by omega)
      have e : Hid (St.run (l.take k) = St.run l) := Lib.hid (by rw [show k = l.length by omega, List.take_length])
      go_wp2
      go_ret2
      rw [e.out]
      exact ⟨rfl, rfl⟩

attribute [local go_sem ↓] max_word min_word
set_option maxHeartbeats 2000000 in
theorem r23_Value (h : Nat) (l : List Int) (w : World) (ht : Tr w h l) (hl : l.length ≤ 1000000) (hx : ∀ x ∈ l, I64 x) (hm : ∀ x ∈ l, x ≤ 1000000) : Calls Try.prog (16) #[.pointer (some ⟨h, 0, none⟩)] w fun e w' => e = .returned (.int .i64 (St.run l).value) ∧ w = w' := by
  obtain ⟨v, hb, ho⟩ := ht.ex
  have c0 : w.cell? ⟨h, 0, none⟩ = some v := (blk_cell hb 0).trans rfl
  obtain ⟨A, c, rfl, hi⟩ := own_its ho hl hx
  have hr := r23_Smooth h l w ht hl hx hm
  have hokl := (run_ok l hm).1
  unfold St.ok at hokl
  clear hb ho ht
  go_enter Try.func16, Try.ntmps16
  go_wp2_with fail
  refine hr.mono ?_
  rintro e w' ⟨rfl, rfl⟩
  clear hr
  go_wp2
  go_loop [5, 6, 7] (fun vf vb vi => ∃ k : Nat, k ≤ l.length ∧ vi = .int .i64 k ∧ vb = .int .i64 (St.run (l.take k)).b ∧ vf = .bool (!(St.run (l.take k)).k)) (fun _ _ vi => l.length - (intOf vi).toNat)
  case atStart => exact ⟨0, by omega, rfl, rfl, rfl⟩
  case round =>
    obtain ⟨k, hk, rfl, rfl, rfl⟩ := hrel
    by_cases hlt : k < l.length
    · have hrun := Lib.hid (St.run_take l k hlt)
      have hb := (run_take_ok l hm k hk).2
      obtain ⟨ad, rfl, cx⟩ := hi.at_ k hlt
      have hI := hi.get k hlt
      generalize St.run (l.take k) = t at hrun hb ⊢
      generalize l.getD k 0 = x at hrun cx hI
      by_cases h0 : x < 0
      · have e : St.run (l.take (k + 1)) = t.back := by rw [hrun.out, if_pos h0]
        replace e := Lib.hid e
        go_wp2
        exact ⟨⟨k + 1, by omega, by go_num, val_int (by rw [e.out]; rfl), by rw [e.out]; rfl⟩, by simp [intOf]; omega⟩
      · have x0 : decide (x < 0) = false := decide_eq_false h0
        have e : St.run (l.take (k + 1)) = t.sample x := by rw [hrun.out, if_neg h0]
        have e1 : Hid ((St.run (l.take (k + 1))).k = true) := Lib.hid (by rw [e]; unfold St.sample; split <;> rfl)
        have e2 : Hid ((St.run (l.take (k + 1))).b = 0) := Lib.hid (by rw [e]; unfold St.sample; split <;> rfl)
        clear e
        go_wp2
        exact ⟨⟨k + 1, by omega, by go_num, val_int (by rw [e2.out]; rfl), by rw [e1.out]; rfl⟩, by simp [intOf]; omega⟩
    · have d2 : decide ((k : Int) < (l.length : Int)) = false := decide_eq_false (by omega)
      have d3 : decide (k < l.length) = false := decide_eq_false (by omega)
      have e : St.run (l.take k) = St.run l := by rw [show k = l.length by omega, List.take_length]
      rw [e]
      clear e hi
      have hbb := (run_ok l hm).2
      have hval : Hid ((St.run l).value = dbls (St.run l).b (St.run l).once) := rfl
      generalize hT : St.run l = t at hokl hbb hval ⊢
      replace hT := Lib.hid hT
      have ob := t.once_bd
      cases hkk : t.k
      · have ho : Hid (t.once = 100) := Lib.hid (by unfold St.once; rw [if_neg (by rw [hkk]; simp)])
        clear hkk
        go_wp2
        go_loop [8, 9] (fun vn vi => ∃ i : Nat, i ≤ t.b ∧ vi = .int .i64 i ∧ vn = .int .i64 (dbls i t.once)) (fun _ vi => t.b - (intOf vi).toNat)
        case atStart => exact ⟨0, by omega, rfl, val_int (by rw [ho.out]; rfl)⟩
        case round =>
          obtain ⟨i, hi, rfl, rfl⟩ := hrel
          have hb2 := dbls_bd i t.once ob
          have hv : Hid (dbls (i + 1) t.once = mnn (2 * dbls i t.once) 6000) := rfl
          by_cases hlt : i < t.b
          · have l1 : decide ((i : Int) < (t.b : Int)) = true := decide_eq_true (by omega)
            have l1' : decide (i < t.b) = true := decide_eq_true hlt
            generalize dbls i t.once = y at hb2 hv ⊢
            go_wp2
            exact ⟨⟨i + 1, by omega, by go_num, val_int (by rw [hv.out])⟩, by simp [intOf]; omega⟩
          · have hbi : Hid (i = t.b) := Lib.hid (by omega)
            have l1 : decide ((i : Int) < (t.b : Int)) = false := decide_eq_false (by omega)
            have l1' : decide (i < t.b) = false := decide_eq_false hlt
            go_wp2
            go_ret
            exact ⟨ret_int (by rw [hT.out, hval.out, hbi.out]), rfl⟩
      · have ho : Hid (t.once = mnn (mxx (t.s / 8 + mxx t.v 1) 100) 6000) := Lib.hid (by
          unfold St.once clamp mnn mxx
          rw [if_pos hkk]
          (repeat' split) <;> omega)
        have hv1 : 1 ≤ mxx t.v 1 ∧ mxx t.v 1 ≤ 4000003 := by unfold mxx; split <;> omega
        clear hkk
        go_wp2
        go_loop [8, 9] (fun vn vi => ∃ i : Nat, i ≤ t.b ∧ vi = .int .i64 i ∧ vn = .int .i64 (dbls i t.once)) (fun _ vi => t.b - (intOf vi).toNat)
        case atStart => exact ⟨0, by omega, rfl, val_int (by rw [dbls, ho.out])⟩
        case round =>
          obtain ⟨i, hi, rfl, rfl⟩ := hrel
          have hb2 := dbls_bd i t.once ob
          have hv : Hid (dbls (i + 1) t.once = mnn (2 * dbls i t.once) 6000) := rfl
          by_cases hlt : i < t.b
          · have l1 : decide ((i : Int) < (t.b : Int)) = true := decide_eq_true (by omega)
            have l1' : decide (i < t.b) = true := decide_eq_true hlt
            generalize dbls i t.once = y at hb2 hv ⊢
            go_wp2
            exact ⟨⟨i + 1, by omega, by go_num, val_int (by rw [hv.out])⟩, by simp [intOf]; omega⟩
          · have hbi : Hid (i = t.b) := Lib.hid (by omega)
            have l1 : decide ((i : Int) < (t.b : Int)) = false := decide_eq_false (by omega)
            have l1' : decide (i < t.b) = false := decide_eq_false hlt
            go_wp2
            go_ret
            exact ⟨ret_int (by rw [hT.out, hval.out, hbi.out]), rfl⟩
end Go.Proofs.Ytmcidhdjbcjonaa

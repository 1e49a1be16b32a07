/- Contracts of kinds, and of what is made of a kind. Conditions: each argument is of its Go type. -/
import Derived.Test.YtfcccglkhdfodaaCIcmpD
import Derived.Deep.RegionHeld3
namespace Go.Proofs.Ytfcccglkhdfodaa
open Go.RowKit Go.Proofs.YtfcccglkhdfodaaW.PrintWords

theorem rows_len (wide : Bool) : (rows wide).length = 6 := by cases wide <;> rfl
/-- One of the signs. -/
theorem sign_at (wide : Bool) (k : Nat) (q : Int × Int × Int × Int) (h : (rows wide)[k]? = some q) (w : World) :
    (Instr.index 56 (.agg (signs wide)) (.int .i64 (k : Int))).run Try.prog w = .ok (.agg #[.int .i64 q.1, .int .i64 q.2.1, .int .i64 q.2.2.1, .int .i64 q.2.2.2]) w := by
  have hi : (Try.prog.info? 55).map (·.size) = some 4 := by kernel_rfl
  obtain ⟨i0, hi0, hi2⟩ := Option.map_eq_some_iff.1 hi
  have hk : k < 6 := by have := (List.getElem?_eq_some_iff.1 h).1; rwa [rows_len] at this
  have he : (signs wide).extract (k * 4) (k * 4 + 4) = #[.int .i64 q.1, .int .i64 q.2.1, .int .i64 q.2.2.1, .int .i64 q.2.2.2] := by
    obtain rfl | rfl | rfl | rfl | rfl | rfl : k = 0 ∨ k = 1 ∨ k = 2 ∨ k = 3 ∨ k = 4 ∨ k = 5 := by omega
    all_goals
      cases wide
      all_goals
        injection h with h
        subst h
        rfl
  have h0 : (0 : Int) ≤ (k : Int) ∧ (k : Int) < 6 := by omega
  simp [Instr.index, asIntOf, Sem.run_bind, run_underlying Try.underlying56 w, sizeOf, typeInfo, hi0, hi2, part, he, hk]
def scan : List (Int × Int × Int × Int) → Int → Int → Int
  | [], _, _ => 0
  | q :: r, t, c => if t = q.2.1 ∧ (q.2.2.1 = -1 ∨ c = q.2.2.1) then q.1 else scan r t c
theorem scan_rows (wide : Bool) (t c : Int) : scan (rows wide) t c = icKind t c wide := by
  cases wide <;> simp [rows, scan, icKind]
theorem rows_get (wide : Bool) (k : Nat) (hk : k < 6) : ∃ q, (rows wide)[k]? = some q ∧ (rows wide).drop k = q :: (rows wide).drop (k + 1) := by
  have hl : k < (rows wide).length := by rw [rows_len]; exact hk
  exact ⟨(rows wide)[k], List.getElem?_eq_getElem hl, List.drop_eq_getElem_cons hl⟩

set_option maxHeartbeats 2000000 in
theorem icmp_Kind (t c r : Int) (A : Option Addr) (n d : Nat) (wide : Bool) (w : World) :
    Calls Try.prog 19 #[.agg #[.int .i64 t, .int .i64 c, .int .i64 r, .slice A n d], .bool wide] w fun e w' => e = .returned (.int .i64 (icKind t c wide)) ∧ Below w.heap.size w w' := by
  go_enter Try.func19, Try.ntmps19
  go_wp2_with fail
  refine (icmp_signs wide _).mono ?_
  rintro e w2 ⟨rfl, hB2⟩
  have G := Lib.hid ((Mg.new w t c r A n d).below hB2)
  have HB := Lib.hid (below_step2 (w := w) (below_alloc (Below.refl _ _) _) hB2)
  clear hB2
  go_wp2
  generalize hg : w.heap.size = g at G HB
  go_loopw [9] (fun vk wr => ∃ k : Nat, k ≤ 6 ∧ vk = .int .i64 (k : Int) ∧ Hid (scan ((rows wide).drop k) t c = icKind t c wide) ∧ Hid (Mg wr g t c r A n d) ∧ Hid (Below g w wr)) (fun vk _ => 6 - (intOf vk).toNat)
  case atStart => exact ⟨0, by omega, rfl, Lib.hid (scan_rows wide t c), G, HB⟩
  case round =>
    clear G HB
    obtain ⟨k, hk, rfl, hS, G, HB⟩ := hrel
    by_cases h6 : k < 6
    · obtain ⟨⟨kd, ty, co, fi⟩, hq, hd⟩ := rows_get wide k h6
      have hix := fun W => sign_at wide k _ hq W
      have i1 : (k : Int) < 6 := by omega
      have hS' : Hid (icKind t c wide = if t = ty ∧ (co = -1 ∨ c = co) then kd else scan ((rows wide).drop (k + 1)) t c) := Lib.hid (by rw [← hS.out, hd]; rfl)
      have G2 := Lib.hid (G.out.alloc (.cells #[.int .i64 kd, .int .i64 ty, .int .i64 co, .int .i64 fi] 55))
      have B2 := Lib.hid (HB.out.alloc (by have := HB.out.size; omega) (.cells #[.int .i64 kd, .int .i64 ty, .int .i64 co, .int .i64 fi] 55))
      have c0 := G2.out.c0
      have c1 := G2.out.c1
      replace hd := Lib.hid hd
      replace hq := Lib.hid hq
      by_cases h1 : t = ty
      · have e1 : (t == ty) = true := by rw [beq_iff_eq]; exact h1
        by_cases h2 : co = -1
        · have e2 : (co == -1) = true := by rw [beq_iff_eq]; exact h2
          have hv := Lib.hid (hS'.out.trans (if_pos ⟨h1, .inl h2⟩))
          clear h1 h2
          go_wp2
          go_ret
          exact ⟨ret_int hv.out.symm, hg ▸ B2.out⟩
        · have e2 : (co == -1) = false := beq_eq_false_iff_ne.mpr h2
          by_cases h3 : c = co
          · have e3 : (c == co) = true := by rw [beq_iff_eq]; exact h3
            have hv := Lib.hid (hS'.out.trans (if_pos ⟨h1, .inr h3⟩))
            clear h1 h2 h3
            go_wp2
            go_ret
            exact ⟨ret_int hv.out.symm, hg ▸ B2.out⟩
          · have e3 : (c == co) = false := beq_eq_false_iff_ne.mpr h3
            have hv := Lib.hid (hS'.out.trans (if_neg (fun q => q.2.elim h2 h3)))
            clear h1 h2 h3
            go_wp2
            refine ⟨⟨k + 1, by omega, by go_num, Lib.hid hv.out.symm, G2, B2⟩, by simp [intOf]; omega⟩
      · have e1 : (t == ty) = false := beq_eq_false_iff_ne.mpr h1
        have hv := Lib.hid (hS'.out.trans (if_neg (fun q => h1 q.1)))
        clear h1
        go_wp2
        refine ⟨⟨k + 1, by omega, by go_num, Lib.hid hv.out.symm, G2, B2⟩, by simp [intOf]; omega⟩
    · obtain rfl : k = 6 := by omega
      have hv := Lib.hid hS.out.symm
      go_wp2
      go_ret
      exact ⟨ret_int (by rw [hv.out, List.drop_eq_nil_of_le (by rw [rows_len]; exact Nat.le_refl 6)]; rfl), hg ▸ HB.out⟩

/-- What is said of a Make: refused, or made. -/
def MadePost (k r : Int) (wide : Bool) (xs : List Int) (w : World) (e : Ending) (w' : World) : Prop :=
  Below w.heap.size w w' ∧ ((icMakeErr k r ≠ 0 ∧ e = .returned (.tuple #[.agg #[.int .i64 0, .int .i64 0, .int .i64 0, .slice none 0 0], .int .i64 1])) ∨
    (icMakeErr k r = 0 ∧ ∃ v, e = .returned (.tuple #[.agg #[.int .i64 (icType k wide), .int .i64 (icCode k wide), .int .i64 r, v], .int .i64 0]) ∧ OwnB w' w.heap.size v xs))
def mscan : List (Int × Int × Int × Int) → Int → Option (Int × Int)
  | [], _ => none
  | q :: r, k => if q.1 = k then some (q.2.1, q.2.2.2) else mscan r k
theorem mscan_rows (wide : Bool) (k : Int) : mscan (rows wide) k = if 1 ≤ k ∧ k ≤ 6 then some (icType k wide, icCode k wide) else none := by
  by_cases h : 1 ≤ k ∧ k ≤ 6
  · rw [if_pos h]
    obtain rfl | rfl | rfl | rfl | rfl | rfl : k = 1 ∨ k = 2 ∨ k = 3 ∨ k = 4 ∨ k = 5 ∨ k = 6 := by omega
    all_goals cases wide <;> rfl
  · rw [if_neg h]
    have n1 : ¬ (1 : Int) = k := by omega
    have n2 : ¬ (2 : Int) = k := by omega
    have n3 : ¬ (3 : Int) = k := by omega
    have n4 : ¬ (4 : Int) = k := by omega
    have n5 : ¬ (5 : Int) = k := by omega
    have n6 : ¬ (6 : Int) = k := by omega
    cases wide <;> simp [rows, mscan, n1, n2, n3, n4, n5, n6]
theorem MadePost.err {k r : Int} {wide : Bool} {xs : List Int} {w w' : World} (h : icMakeErr k r ≠ 0) (hB : Below w.heap.size w w') : MadePost k r wide xs w (.returned (.tuple #[.agg #[.int .i64 0, .int .i64 0, .int .i64 0, .slice none 0 0], .int .i64 1])) w' := ⟨hB, .inl ⟨h, rfl⟩⟩
theorem MadePost.ok {k r : Int} {wide : Bool} {xs : List Int} {w w' : World} {v : Value} {t c : Int} (h : icMakeErr k r = 0) (ht : icType k wide = t) (hc : icCode k wide = c) (ho : OwnB w' w.heap.size v xs) (hB : Below w.heap.size w w') : MadePost k r wide xs w (.returned (.tuple #[.agg #[.int .i64 t, .int .i64 c, .int .i64 r, v], .int .i64 0])) w' := by
  subst ht hc
  exact ⟨hB, .inr ⟨h, v, rfl, ho⟩⟩
/-- A sign in memory: its type, the first code. -/
structure Sn (w : World) (g : Nat) (kd ty co fi : Int) : Prop where
  blk : w.heap[g]? = some (.cells #[.int .i64 kd, .int .i64 ty, .int .i64 co, .int .i64 fi] 55 (0, 0))
theorem Sn.below {w w1 : World} {g : Nat} {kd ty co fi : Int} (h : Sn w g kd ty co fi) (hb : Below w.heap.size w w1) : Sn w1 g kd ty co fi := ⟨blk_below h.blk hb⟩
theorem Sn.far {w : World} {g : Nat} {kd ty co fi : Int} (h : Sn w g kd ty co fi) {p : Addr} (hne : g ≠ p.block) (v : Value) : Sn (w.setCell p v) g kd ty co fi := ⟨blk_far h.blk hne v⟩
theorem Sn.cs {w : World} {g : Nat} {kd ty co fi : Int} (h : Sn w g kd ty co fi) : w.cell? ⟨g, 1, none⟩ = some (.int .i64 ty) ∧ w.cell? ⟨g, 3, none⟩ = some (.int .i64 fi) := ⟨(blk_cell h.blk 1).trans rfl, (blk_cell h.blk 3).trans rfl⟩

set_option maxHeartbeats 4000000 in
theorem icmp_Make (k r : Int) (wide : Bool) (A : Option Addr) (n d : Nat) (xs : List Int) (w : World) (hr : I64 r) (h : Bts w A n d xs) :
    Calls Try.prog 17 #[.int .i64 k, .bool wide, .int .i64 r, .slice A n d] w (MadePost k r wide xs w) := by
  have R := Lib.hid (Mg.at w w.heap.size 0 0 0 none 0 0 rfl)
  have HB := Lib.hid (below_alloc (Below.refl w.heap.size w) (.cells #[.int .i64 0, .int .i64 0, .int .i64 0, .slice none 0 0] 24))
  unfold I64 at hr
  go_enter Try.func17, Try.ntmps17
  go_wp2_with fail
  refine (icmp_signs wide _).mono ?_
  rintro e w2 ⟨rfl, hB2⟩
  replace R := Lib.hid (R.out.below hB2)
  replace HB := Lib.hid (below_step2 HB.out hB2)
  clear hB2
  go_wp2
  go_loopw [14] (fun vk wr => ∃ i : Nat, i ≤ 6 ∧ vk = .int .i64 (i : Int) ∧ Hid (0 ≤ r ∧ r ≤ 4294967295 → mscan ((rows wide).drop i) k = mscan (rows wide) k) ∧ Hid (Mg wr w.heap.size 0 0 0 none 0 0) ∧ Hid (Below w.heap.size w wr)) (fun vk _ => 6 - (intOf vk).toNat)
  case atStart => exact ⟨0, by omega, rfl, Lib.hid (fun _ => rfl), R, HB⟩
  case round =>
    clear R HB
    obtain ⟨i, hk, rfl, hS, R, HB⟩ := hrel
    by_cases h6 : i < 6
    · obtain ⟨⟨kd, ty, co, fi⟩, hq, hd⟩ := rows_get wide i h6
      have hix := fun W => sign_at wide i _ hq W
      have i1 : (i : Int) < 6 := by omega
      have R2 := Lib.hid (R.out.alloc (.cells #[.int .i64 kd, .int .i64 ty, .int .i64 co, .int .i64 fi] 55))
      have B2 := Lib.hid (HB.out.alloc (by have := HB.out.size; omega) (.cells #[.int .i64 kd, .int .i64 ty, .int .i64 co, .int .i64 fi] 55))
      have hS' : Hid (0 ≤ r ∧ r ≤ 4294967295 → (if kd = k then some (ty, fi) else mscan ((rows wide).drop (i + 1)) k) = mscan (rows wide) k) := Lib.hid (fun hr => by rw [← hS.out hr, hd]; rfl)
      replace hd := Lib.hid hd
      replace hq := Lib.hid hq
      by_cases h1 : kd = k
      · have e1 : (kd == k) = true := by rw [beq_iff_eq]; exact h1
        by_cases h2 : 0 ≤ r ∧ r ≤ 4294967295
        · have e2 : (r / 4294967296 == 0) = true := by rw [beq_iff_eq]; omega
          have hv := hS'.out h2
          rw [if_pos h1, mscan_rows] at hv
          have hE : icMakeErr k r = 0 ∧ icType k wide = ty ∧ icCode k wide = fi := by
            by_cases q : 1 ≤ k ∧ k ≤ 6
            · rw [if_pos q] at hv
              injection hv with hv
              injection hv with hv1 hv2
              exact ⟨icMakeErr_zero.2 ⟨q.1, q.2, h2.1, h2.2⟩, hv1.symm, hv2.symm⟩
            · rw [if_neg q] at hv; cases hv
          replace hE := Lib.hid hE
          have SN := Lib.hid ((⟨blk_new wr _⟩ : Sn (wr.alloc (.cells #[.int .i64 kd, .int .i64 ty, .int .i64 co, .int .i64 fi] 55)) wr.heap.size kd ty co fi).below (below_drew (Below.refl _ _)))
          have RD := Lib.hid (R2.out.below (below_drew (Below.refl _ _)))
          have BD := Lib.hid (below_drew B2.out)
          have hgw := blk_lt R.out.blk
          clear h1 h2 hv hS' R HB R2 B2
          go_wp2
          go_region_held3 (fun w' => w'.cell? ⟨wr.heap.size, 1, none⟩ = some (.int .i64 ty) ∧ w'.cell? ⟨wr.heap.size, 3, none⟩ = some (.int .i64 fi))
            ((refine Sn.cs (kd := kd) (co := co) ?_; first
              | exact ((((S3.out.far (p := ⟨w.heap.size, 0, none⟩) (Nat.ne_of_gt hgw) _).far (p := ⟨w.heap.size, 1, none⟩) (Nat.ne_of_gt hgw) _).far (p := ⟨w.heap.size, 2, none⟩) (Nat.ne_of_gt hgw) _).far (p := ⟨w.heap.size, 3, none⟩) (Nat.ne_of_gt hgw) _)
              | exact S3.out
              | exact SN.out))
            (first
              | (go_at_call 28
                 refine (slices_Clone_any _ _ _ xs _ (h.below BD.out)).mono ?_
                 rintro e w7 ⟨v7, rfl, o7, hB7⟩
                 have S3 := Lib.hid (SN.out.below hB7)
                 have R3 := Lib.hid (RD.out.below hB7)
                 obtain ⟨A7, n7, c7, rfl, _⟩ := o7.bts
                 have b7 := blk_lt RD.out.blk
                 have b8 := BD.out.size
                 replace o7 := Lib.hid o7
                 have c0 := R3.out.c0
                 have c1 := R3.out.c1
                 have c2 := R3.out.c2
                 have c3 := R3.out.c3
                 have f0 := R3.out.f 0
                 have f1 := R3.out.f 1
                 have f2 := R3.out.f 2
                 have f3 := R3.out.f 3
                 have B3 := Lib.hid (below_step2 BD.out hB7)
                 clear hB7))
          go_wp2
          have q := blk_set (blk_set (blk_set (blk_set R3.out.blk 0 (.int .i64 ty)) 1 (.int .i64 fi)) 2 (.int .i64 r)) 3 (.slice A7 n7 c7)
          refine ret_cell2 rfl rfl q Try.underlying24 rfl (by kernel_rfl) (MadePost.ok hE.out.1 hE.out.2.1 hE.out.2.2 ?_ ?_)
          · exact ((((o7.out.far (p := ⟨w.heap.size, 0, none⟩) b7 _).far (p := ⟨w.heap.size, 1, none⟩) b7 _).far (p := ⟨w.heap.size, 2, none⟩) b7 _).far (p := ⟨w.heap.size, 3, none⟩) b7 _).lower b8
          · exact below_set (below_set (below_set (below_set B3.out (p := ⟨w.heap.size, 0, none⟩) (Nat.le_refl _) _) (p := ⟨w.heap.size, 1, none⟩) (Nat.le_refl _) _) (p := ⟨w.heap.size, 2, none⟩) (Nat.le_refl _) _) (p := ⟨w.heap.size, 3, none⟩) (Nat.le_refl _) _
        · have e2 : (r / 4294967296 == 0) = false := beq_eq_false_iff_ne.mpr (by omega)
          have hn : Hid (0 ≤ r ∧ r ≤ 4294967295 → mscan ((rows wide).drop (i + 1)) k = mscan (rows wide) k) := Lib.hid (fun q => absurd q h2)
          clear h1 h2 hS' R HB
          go_wp2
          refine ⟨⟨i + 1, by omega, by go_num, hn, R2, B2⟩, by simp [intOf]; omega⟩
      · have e1 : (kd == k) = false := beq_eq_false_iff_ne.mpr h1
        have hn : Hid (0 ≤ r ∧ r ≤ 4294967295 → mscan ((rows wide).drop (i + 1)) k = mscan (rows wide) k) := Lib.hid (fun q => by rw [← hS'.out q, if_neg h1])
        clear h1 hS' R HB
        go_wp2
        refine ⟨⟨i + 1, by omega, by go_num, hn, R2, B2⟩, by simp [intOf]; omega⟩
    · obtain rfl : i = 6 := by omega
      have hE : icMakeErr k r ≠ 0 := fun q => by
        obtain ⟨q1, q2, q3, q4⟩ := icMakeErr_zero.1 q
        have hv := hS.out ⟨q3, q4⟩
        rw [mscan_rows, if_pos ⟨q1, q2⟩, List.drop_eq_nil_of_le (by rw [rows_len]; exact Nat.le_refl 6)] at hv
        cases hv
      replace hE := Lib.hid hE
      have c0 := R.out.c0
      have c1 := R.out.c1
      have c2 := R.out.c2
      have c3 := R.out.c3
      have f0 := R.out.f 0
      have f1 := R.out.f 1
      have f2 := R.out.f 2
      have f3 := R.out.f 3
      clear hS
      go_wp2
      have q := blk_set (blk_set (blk_set (blk_set R.out.blk 0 (.int .i64 0)) 1 (.int .i64 0)) 2 (.int .i64 0)) 3 (.slice none 0 0)
      refine ret_cell2 rfl rfl q Try.underlying24 rfl (by kernel_rfl) (MadePost.err hE.out ?_)
      exact below_set (below_set (below_set (below_set HB.out (p := ⟨w.heap.size, 0, none⟩) (Nat.le_refl _) _) (p := ⟨w.heap.size, 1, none⟩) (Nat.le_refl _) _) (p := ⟨w.heap.size, 2, none⟩) (Nat.le_refl _) _) (p := ⟨w.heap.size, 3, none⟩) (Nat.le_refl _) _
end Go.Proofs.Ytfcccglkhdfodaa

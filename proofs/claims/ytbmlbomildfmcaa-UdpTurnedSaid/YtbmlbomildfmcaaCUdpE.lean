/- What is read out of bytes as a datagram. Conditions: those that each lemma states. -/
import Derived.Test.YtbmlbomildfmcaaCUdpD
namespace Go.Proofs.Ytbmlbomildfmcaa
open Go.RowKit Go.Proofs.YtbmlbomildfmcaaW.PrintWords

theorem k_or_comm (x y : Int) : bits .or .i64 x y = bits .or .i64 y x := by rw [k_or_def, k_or_def, Nat.or_comm]
/-- A slice lies in block g. -/
structure Sl (w : World) (g : Nat) (A : Option Addr) (n c : Nat) : Prop where
  blk : w.heap[g]? = some (.cells #[.slice A n c] 22 (0, 0))
section
variable {w w1 : World} {g : Nat} {A : Option Addr} {n c : Nat}
theorem Sl.below (h : Sl w g A n c) (hb : Below w.heap.size w w1) : Sl w1 g A n c := ⟨blk_below h.blk hb⟩
theorem Sl.c0 (h : Sl w g A n c) : w.cell? ⟨g, 0, none⟩ = some (.slice A n c) := (blk_cell h.blk 0).trans rfl
theorem Sl.drewN (h : Sl w g A n c) (k : Nat) : Sl (w.drewN k) g A n c := ⟨h.blk⟩
theorem Sl.alloc (h : Sl w g A n c) (o : Obj) : Sl (w.alloc o) g A n c := h.below (below_alloc (Below.refl _ _) o)
theorem Sl.set (h : Sl w g A n c) {p : Addr} (hne : g ≠ p.block) (v : Value) : Sl (w.setCell p v) g A n c := ⟨blk_far h.blk hne v⟩
theorem Sl.new (w : World) (A : Option Addr) (n c : Nat) : Sl (w.alloc (.cells #[.slice A n c] 22)) w.heap.size A n c := ⟨blk_new _ _⟩
end

set_option maxHeartbeats 1000000 in
theorem udp_number (at_ : Int) (k : Nat) (g : Nat) (A : Option Addr) (n c : Nat) (xs : List Int) (w : World) (h : Bts w A n c xs) (hg : Sl w g A n c) (hk : k + 1 < n) (hat : at_ = k) :
    Calls Try.prog (22) #[.int .i64 at_, .pointer (some ⟨g, 0, none⟩)] w fun e w' => e = .returned (.int .i64 (256 * xs.getD k 0 + xs.getD (k + 1) 0)) ∧ ∃ m, w' = w.drewN m := by
  subst hat
  have cg := hg.c0
  obtain ⟨ad, rfl, c0⟩ := h.at_ k (by omega)
  obtain ⟨ad', e', c1⟩ := h.at_ (k + 1) (by omega)
  injection e' with e'
  subst e'
  unfold Addr.add at c1
  rw [if_neg (by omega)] at c1
  have b0 := byt_get h.byt k
  have b1 := byt_get h.byt (k + 1)
  have hn := h.max
  have l0 : (k : Int) < (n : Int) := by omega
  have l1 : (k : Int) + 1 < (n : Int) := by omega
  have w1 : IntKind.i64.wrap ((k : Int) + 1) = (k : Int) + 1 := IntWalk.i64_in _ (by omega)
  have w2 : ((k : Int) + 1).toNat = k + 1 := by omega
  clear hg h hk
  generalize xs.getD k 0 = x0 at *
  generalize xs.getD (k + 1) 0 = x1 at *
  have w3 : IntKind.i64.wrap (x0 * 256) = x0 * 256 := IntWalk.i64_in _ (by omega)
  have w4 : IntKind.i64.wrap x0 = x0 := IntWalk.i64_in _ (by omega)
  have w5 : IntKind.i64.wrap x1 = x1 := IntWalk.i64_in _ (by omega)
  have l2 : (0 : Int) ≤ (k : Int) + 1 := by omega
  have l3 : decide ((k : Int) + 1 < 0) = false := decide_eq_false (by omega)
  go_enter Try.func22, Try.ntmps22
  go_wp2
  go_quiet (fail)
  go_wp2
  go_ret
  exact ⟨ret_int (by rw [k_or_comm, k_or_join 8 (x0 * 256) x1 (by omega) (by omega) (by omega) (by omega) (by omega) (by omega)]; omega), _, rfl⟩

theorem Dg.at (w : World) (g : Nat) (x y : Int) (A : Option Addr) (n c : Nat) (hg : w.heap.size = g) : Dg (w.alloc (.cells #[.int .i64 x, .int .i64 y, .slice A n c] 24)) g x y A n c := by subst hg; exact Dg.new _ _ _ _ _ _
theorem Dg.f {w : World} {g : Nat} {x y : Int} {A : Option Addr} {n c : Nat} (h : Dg w g x y A n c) (i : Nat) : w.frozen? ⟨g, i, none⟩ = false := blk_frozen h.blk i
theorem Dg.drewN {w : World} {g : Nat} {x y : Int} {A : Option Addr} {n c : Nat} (h : Dg w g x y A n c) (k : Nat) : Dg (w.drewN k) g x y A n c := ⟨h.blk⟩
theorem Ends.drewN {w : World} {g : Nat} {s d : ByteArray} (h : Ends w g s d) (k : Nat) : Ends (w.drewN k) g s d := ⟨h.blk⟩

theorem Sl.quiet {w w1 : World} {g : Nat} {A : Option Addr} {n c : Nat} (h : Sl w g A n c) (hq : ∃ m, w1 = w.drewN m) : Sl w1 g A n c := by obtain ⟨m, rfl⟩ := hq; exact h.drewN m
theorem Dg.quiet {w w1 : World} {g : Nat} {x y : Int} {A : Option Addr} {n c : Nat} (h : Dg w g x y A n c) (hq : ∃ m, w1 = w.drewN m) : Dg w1 g x y A n c := by obtain ⟨m, rfl⟩ := hq; exact h.drewN m
theorem Bts.quiet {w w1 : World} {A : Option Addr} {n c : Nat} {xs : List Int} (h : Bts w A n c xs) (hq : ∃ m, w1 = w.drewN m) : Bts w1 A n c xs := by obtain ⟨m, rfl⟩ := hq; exact h.drewN m
theorem below_quiet {B : Nat} {w W w1 : World} (h : Below B w W) (hq : ∃ m, w1 = W.drewN m) : Below B w w1 := by obtain ⟨m, rfl⟩ := hq; exact pw_below_drewN h m
/-- What is said of a Parse: refused, or read. -/
def ParsePost (xs s d : List Int) (w : World) (e : Ending) (w' : World) : Prop :=
  Below w.heap.size w w' ∧ ((dgErr xs s d ≠ 0 ∧ e = .returned (.tuple #[.agg #[.int .i64 0, .int .i64 0, .slice none 0 0], .int .i64 (dgErr xs s d)])) ∨
    (dgErr xs s d = 0 ∧ ∃ v, e = .returned (.tuple #[.agg #[.int .i64 (dgSrc xs), .int .i64 (dgDst xs), v], .int .i64 0]) ∧ OwnB w' w.heap.size v (xs.drop 8)))
theorem ParsePost.err {xs s d : List Int} {w w' : World} {k : Int} (h : dgErr xs s d = k) (hk : k ≠ 0) (hB : Below w.heap.size w w') : ParsePost xs s d w (.returned (.tuple #[.agg #[.int .i64 0, .int .i64 0, .slice none 0 0], .int .i64 k])) w' :=
  ⟨hB, .inl ⟨by rw [h]; exact hk, by rw [h]⟩⟩
theorem ParsePost.ok {xs s d : List Int} {w w' : World} {v : Value} (h : dgErr xs s d = 0) (ho : OwnB w' w.heap.size v (xs.drop 8)) (hB : Below w.heap.size w w') : ParsePost xs s d w (.returned (.tuple #[.agg #[.int .i64 (dgSrc xs), .int .i64 (dgDst xs), v], .int .i64 0])) w' :=
  ⟨hB, .inr ⟨h, v, rfl, ho⟩⟩
theorem udp_len (g : Nat) (A : Option Addr) (n c : Nat) (xs : List Int) (w : World) (h : Bts w A n c xs) (hg : Sl w g A n c) (hn : 8 ≤ n) :
    Calls Try.prog (22) #[.int .i64 4, .pointer (some ⟨g, 0, none⟩)] w fun e w' => e = .returned (.int .i64 (dgLen xs)) ∧ ∃ m, w' = w.drewN m := udp_number 4 4 g A n c xs w h hg (by omega) rfl
theorem udp_six (g : Nat) (A : Option Addr) (n c : Nat) (xs : List Int) (w : World) (h : Bts w A n c xs) (hg : Sl w g A n c) (hn : 8 ≤ n) :
    Calls Try.prog (22) #[.int .i64 6, .pointer (some ⟨g, 0, none⟩)] w fun e w' => e = .returned (.int .i64 (dgSix xs)) ∧ ∃ m, w' = w.drewN m := udp_number 6 6 g A n c xs w h hg (by omega) rfl
theorem udp_src (g : Nat) (A : Option Addr) (n c : Nat) (xs : List Int) (w : World) (h : Bts w A n c xs) (hg : Sl w g A n c) (hn : 8 ≤ n) :
    Calls Try.prog (22) #[.int .i64 0, .pointer (some ⟨g, 0, none⟩)] w fun e w' => e = .returned (.int .i64 (dgSrc xs)) ∧ ∃ m, w' = w.drewN m := udp_number 0 0 g A n c xs w h hg (by omega) rfl
theorem udp_dst (g : Nat) (A : Option Addr) (n c : Nat) (xs : List Int) (w : World) (h : Bts w A n c xs) (hg : Sl w g A n c) (hn : 8 ≤ n) :
    Calls Try.prog (22) #[.int .i64 2, .pointer (some ⟨g, 0, none⟩)] w fun e w' => e = .returned (.int .i64 (dgDst xs)) ∧ ∃ m, w' = w.drewN m := udp_number 2 2 g A n c xs w h hg (by omega) rfl

set_option maxHeartbeats 2000000 in
theorem udp_Parse (A : Option Addr) (n c : Nat) (xs : List Int) (s d : ByteArray) (w : World) (hs : s.size ≤ 140737488351232) (hd : d.size ≤ 140737488351232) (h0 : Bts w A n c xs) :
    Calls Try.prog 14 #[.slice A n c, .string s, .string d] w (ParsePost xs (bytesOf s) (bytesOf d) w) := by
  have hl := h0.len
  have ls := bytesOf_length s
  have ld := bytesOf_length d
  by_cases hp : pairOk s.size d.size
  case neg =>
    have hE := dgErr_pair xs (bytesOf s) (bytesOf d) (by rw [ls, ld]; exact hp)
    go_enter Try.func14, Try.ntmps14
    go_wp2_with fail
    refine (udp_may_no _ _ _ hs hd hp).mono ?_
    rintro e w2 ⟨rfl, hB2⟩
    have R := Lib.hid (((Dg.at (w.alloc (.cells #[.slice A n c] 22)) (w.heap.size + 1) 0 0 none 0 0 (by simp)).alloc _).below hB2)
    have S := Lib.hid ((((Sl.new w A n c).alloc _).alloc _).below hB2)
    replace hB2 := below_step2 (w := w) (below_alloc (below_alloc (below_alloc (Below.refl _ _) _) _) _) hB2
    have cs := S.out.c0
    have c0 := R.out.c0
    have c1 := R.out.c1
    have c2 := R.out.c2
    have f0 := R.out.f 0
    have f1 := R.out.f 1
    have f2 := R.out.f 2
    go_wp2
    have q := blk_set (blk_set (blk_set R.out.blk 0 (.int .i64 0)) 1 (.int .i64 0)) 2 (.slice none 0 0)
    refine ret_cell2 rfl rfl q Try.underlying24 rfl (by kernel_rfl) (ParsePost.err hE (by decide) ?_)
    exact below_set (below_set (below_set hB2 (p := ⟨w.heap.size + 1, 0, none⟩) (by simp) _) (p := ⟨w.heap.size + 1, 1, none⟩) (by simp) _) (p := ⟨w.heap.size + 1, 2, none⟩) (by simp) _
  case pos =>
  have hp' : pairOk (bytesOf s).length (bytesOf d).length := by rw [ls, ld]; exact hp
  go_enter Try.func14, Try.ntmps14
  go_wp2_with fail
  refine (udp_may_yes _ _ _ hs hd hp).mono ?_
  rintro e w2 ⟨rfl, hB2⟩
  have R := Lib.hid (((Dg.at (w.alloc (.cells #[.slice A n c] 22)) (w.heap.size + 1) 0 0 none 0 0 (by simp)).alloc _).below hB2)
  have S := Lib.hid ((((Sl.new w A n c).alloc _).alloc _).below hB2)
  have N := Lib.hid ((Ends.new ((w.alloc (.cells #[.slice A n c] 22)).alloc (.cells #[.int .i64 0, .int .i64 0, .slice none 0 0] 24)) (w.heap.size + 1 + 1) s d (by simp)).below hB2)
  replace hB2 := below_step2 (w := w) (below_alloc (below_alloc (below_alloc (Below.refl _ _) _) _) _) hB2
  replace h0 := h0.below hB2
  have cs := S.out.c0
  have c0 := R.out.c0
  have c1 := R.out.c1
  have c2 := R.out.c2
  have f0 := R.out.f 0
  have f1 := R.out.f 1
  have f2 := R.out.f 2
  by_cases h8 : n < 8
  · have d8 : decide ((n : Int) < 8) = true := decide_eq_true (by omega)
    have hE := Lib.hid (dgErr_short xs (bytesOf s) (bytesOf d) hp' (by omega))
    go_wp2
    have q := blk_set (blk_set (blk_set R.out.blk 0 (.int .i64 0)) 1 (.int .i64 0)) 2 (.slice none 0 0)
    refine ret_cell2 rfl rfl q Try.underlying24 rfl (by kernel_rfl) (ParsePost.err hE.out (by decide) ?_)
    exact below_set (below_set (below_set hB2 (p := ⟨w.heap.size + 1, 0, none⟩) (by simp) _) (p := ⟨w.heap.size + 1, 1, none⟩) (by simp) _) (p := ⟨w.heap.size + 1, 2, none⟩) (by simp) _
  have d8 : decide ((n : Int) < 8) = false := decide_eq_false (by omega)
  have hL := dgLen_bd xs h0.byt
  have HB := Lib.hid hB2
  clear hB2 c0 c1 c2 f0 f1 f2
  go_wp2_with fail
  refine (udp_len _ _ _ _ _ _ h0 S.out (by omega)).mono ?_
  rintro e w' ⟨rfl, nq, rfl⟩
  replace h0 := h0.drewN nq
  replace R := Lib.hid (R.out.drewN nq)
  replace S := Lib.hid (S.out.drewN nq)
  replace N := Lib.hid (N.out.drewN nq)
  replace HB := Lib.hid (pw_below_drewN HB.out nq)
  clear cs
  generalize w2.drewN nq = w3 at h0 R S N HB ⊢
  have cs := S.out.c0
  have c0 := R.out.c0
  have c1 := R.out.c1
  have c2 := R.out.c2
  have f0 := R.out.f 0
  have f1 := R.out.f 1
  have f2 := R.out.f 2
  by_cases h9 : (n : Int) < dgLen xs
  · have d9 : decide ((n : Int) < dgLen xs) = true := decide_eq_true h9
    have hE := Lib.hid (dgErr_more xs (bytesOf s) (bytesOf d) hp' (by omega) (by omega))
    go_wp2
    have q := blk_set (blk_set (blk_set R.out.blk 0 (.int .i64 0)) 1 (.int .i64 0)) 2 (.slice none 0 0)
    refine ret_cell2 rfl rfl q Try.underlying24 rfl (by kernel_rfl) (ParsePost.err hE.out (by decide) ?_)
    exact below_set (below_set (below_set HB.out (p := ⟨w.heap.size + 1, 0, none⟩) (by simp) _) (p := ⟨w.heap.size + 1, 1, none⟩) (by simp) _) (p := ⟨w.heap.size + 1, 2, none⟩) (by simp) _
  have d9 : decide ((n : Int) < dgLen xs) = false := decide_eq_false h9
  by_cases h10 : dgLen xs < 8
  · have d10 : decide (dgLen xs < 8) = true := decide_eq_true h10
    have hE := Lib.hid (dgErr_form xs (bytesOf s) (bytesOf d) hp' (by omega) (by omega) (by omega))
    go_wp2
    have q := blk_set (blk_set (blk_set R.out.blk 0 (.int .i64 0)) 1 (.int .i64 0)) 2 (.slice none 0 0)
    refine ret_cell2 rfl rfl q Try.underlying24 rfl (by kernel_rfl) (ParsePost.err hE.out (by decide) ?_)
    exact below_set (below_set (below_set HB.out (p := ⟨w.heap.size + 1, 0, none⟩) (by simp) _) (p := ⟨w.heap.size + 1, 1, none⟩) (by simp) _) (p := ⟨w.heap.size + 1, 2, none⟩) (by simp) _
  have d10 : decide (dgLen xs < 8) = false := decide_eq_false h10
  by_cases h11 : dgLen xs < n
  · have d11 : decide (dgLen xs < (n : Int)) = true := decide_eq_true h11
    have hE := Lib.hid (dgErr_form xs (bytesOf s) (bytesOf d) hp' (by omega) (by omega) (by omega))
    go_wp2
    have q := blk_set (blk_set (blk_set R.out.blk 0 (.int .i64 0)) 1 (.int .i64 0)) 2 (.slice none 0 0)
    refine ret_cell2 rfl rfl q Try.underlying24 rfl (by kernel_rfl) (ParsePost.err hE.out (by decide) ?_)
    exact below_set (below_set (below_set HB.out (p := ⟨w.heap.size + 1, 0, none⟩) (by simp) _) (p := ⟨w.heap.size + 1, 1, none⟩) (by simp) _) (p := ⟨w.heap.size + 1, 2, none⟩) (by simp) _
  have d11 : decide (dgLen xs < (n : Int)) = false := decide_eq_false h11
  have hLn : dgLen xs = xs.length := by omega
  have h6 := dgSix_none xs h0.byt
  go_wp2_with fail
  refine (udp_six _ _ _ _ _ _ h0 S.out (by omega)).mono ?_
  rintro e w' ⟨rfl, nq, rfl⟩
  replace h0 := h0.drewN nq
  replace R := Lib.hid (R.out.drewN nq)
  replace S := Lib.hid (S.out.drewN nq)
  replace N := Lib.hid (N.out.drewN nq)
  replace HB := Lib.hid (pw_below_drewN HB.out nq)
  clear cs c0 c1 c2 f0 f1 f2
  generalize w3.drewN nq = w4 at h0 R S N HB ⊢
  have cs := S.out.c0
  have c0 := R.out.c0
  have c1 := R.out.c1
  have c2 := R.out.c2
  have f0 := R.out.f 0
  have f1 := R.out.f 1
  have f2 := R.out.f 2
  by_cases hz : dgSix xs = 0
  · have e1 : (dgSix xs == 0) = true := by rw [beq_iff_eq]; exact hz
    have e2 : (dgSix xs != 0) = false := by rw [bne_eq_false_iff_eq]; exact hz
    by_cases h16 : s.size = 16
    · have e3 : ((s.size : Int) == 16) = true := by rw [beq_iff_eq]; omega
      have hE := Lib.hid (dgErr_sum xs (bytesOf s) (bytesOf d) hp' (by omega) hLn (.inl ⟨h6.1 hz, by omega⟩))
      clear hz h16 h6 hLn
      go_wp2
      have q := blk_set (blk_set (blk_set R.out.blk 0 (.int .i64 0)) 1 (.int .i64 0)) 2 (.slice none 0 0)
      refine ret_cell2 rfl rfl q Try.underlying24 rfl (by kernel_rfl) (ParsePost.err hE.out (by decide) ?_)
      exact below_set (below_set (below_set HB.out (p := ⟨w.heap.size + 1, 0, none⟩) (by simp) _) (p := ⟨w.heap.size + 1, 1, none⟩) (by simp) _) (p := ⟨w.heap.size + 1, 2, none⟩) (by simp) _
    · have e3 : ((s.size : Int) == 16) = false := beq_eq_false_iff_ne.mpr (by omega)
      have hE := Lib.hid (dgErr_ok xs (bytesOf s) (bytesOf d) hp' (by omega) hLn (by rintro (⟨_, q⟩ | ⟨q, _⟩); (omega); exact q (h6.1 hz)))
      clear hz h16 h6 hLn
      go_wp2_with fail
      refine (udp_six _ _ _ _ _ _ h0 S.out (by omega)).mono ?_
      rintro e w' ⟨rfl, nq, rfl⟩
      replace h0 := h0.drewN nq
      replace R := Lib.hid (R.out.drewN nq)
      replace S := Lib.hid (S.out.drewN nq)
      replace N := Lib.hid (N.out.drewN nq)
      replace HB := Lib.hid (pw_below_drewN HB.out nq)
      clear cs c0 c1 c2 f0 f1 f2
      generalize w4.drewN nq = w5 at h0 R S N HB ⊢
      have cs := S.out.c0
      have c0 := R.out.c0
      have c1 := R.out.c1
      have c2 := R.out.c2
      have f0 := R.out.f 0
      have f1 := R.out.f 1
      have f2 := R.out.f 2
      go_wp2_with fail
      have a1 : A.isSome = true := by obtain ⟨_, e, _⟩ := h0.some_ (by omega); rw [e]; rfl
      obtain ⟨ad, rfl⟩ := Option.isSome_iff_exists.1 a1
      clear a1
      have SD := Lib.hid (S.out.below (below_drew (Below.refl _ _)))
      have HD := Lib.hid (h0.below (below_drew (Below.refl _ _)))
      have RD := Lib.hid (R.out.below (below_drew (Below.refl _ _)))
      have BD := Lib.hid (below_drew HB.out)
      have i8 : (8 : Int) ≤ (n : Int) := by omega
      have i9 : (8 : Int) ≤ (c : Int) := by have := h0.le; omega
      have i7 := h0.le
      clear cs c0 c1 c2 f0 f1 f2 h0 S R HB
      by_cases hc8 : c = 8
      · go_region_held3 (fun w' => w'.cell? ⟨w.heap.size, 0, none⟩ = some (.slice (some ad) n c))
          (first
            | exact (((S3.out.set (p := ⟨w.heap.size + 1, 0, none⟩) (by simp) _).set (p := ⟨w.heap.size + 1, 1, none⟩) (by simp) _).set (p := ⟨w.heap.size + 1, 2, none⟩) (by simp) _).c0
            | exact S3.out.c0
            | exact S2.out.c0
            | exact S1.out.c0
            | exact SD.out.c0)
          (first
            | (go_at_call 22
               have _q := S1
               clear _q
               refine (udp_dst _ _ _ _ _ _ H1.out S1.out (by omega)).mono ?_
               rintro e w2' ⟨rfl, hq2⟩
               have S2 := Lib.hid (S1.out.quiet hq2)
               have R2 := Lib.hid (R1.out.quiet hq2)
               have H2 := Lib.hid (H1.out.quiet hq2)
               have B2 := Lib.hid (below_quiet B1.out hq2)
               clear hq2)
            | (go_at_call 22
               refine (udp_src _ _ _ _ _ _ HD.out SD.out (by omega)).mono ?_
               rintro e w1' ⟨rfl, hq1⟩
               have S1 := Lib.hid (SD.out.quiet hq1)
               have R1 := Lib.hid (RD.out.quiet hq1)
               have H1 := Lib.hid (HD.out.quiet hq1)
               have B1 := Lib.hid (below_quiet BD.out hq1)
               clear hq1)
            | (go_at_call 24
               refine (slices_Clone _ _ _ (xs.drop 8) _ (by have q := H2.out.drop_lit 8 (by omega) (by omega); rwa [if_pos hc8, show c - 8 = 0 by omega] at q)).mono ?_
               rintro e w7 ⟨v7, rfl, o7, hB7⟩
               have S3 := Lib.hid (S2.out.below hB7)
               have R3 := Lib.hid (R2.out.below hB7)
               obtain ⟨A7, n7, c7, rfl, _⟩ := o7.bts
               have b7 := blk_lt R2.out.blk
               have b8 := B2.out.size
               replace o7 := Lib.hid o7
               have c0 := R3.out.c0
               have c1 := R3.out.c1
               have c2 := R3.out.c2
               have f0 := R3.out.f 0
               have f1 := R3.out.f 1
               have f2 := R3.out.f 2
               have B3 := Lib.hid (below_step2 B2.out hB7)
               clear hB7))
        go_wp2
        have q := blk_set (blk_set (blk_set R3.out.blk 0 (.int .i64 (dgSrc xs))) 1 (.int .i64 (dgDst xs))) 2 (.slice A7 n7 c7)
        refine ret_cell2 rfl rfl q Try.underlying24 rfl (by kernel_rfl) (ParsePost.ok hE.out ?_ ?_)
        · exact (((o7.out.far (p := ⟨w.heap.size + 1, 0, none⟩) b7 _).far (p := ⟨w.heap.size + 1, 1, none⟩) b7 _).far (p := ⟨w.heap.size + 1, 2, none⟩) b7 _).lower b8
        · exact below_set (below_set (below_set B3.out (p := ⟨w.heap.size + 1, 0, none⟩) (by simp) _) (p := ⟨w.heap.size + 1, 1, none⟩) (by simp) _) (p := ⟨w.heap.size + 1, 2, none⟩) (by simp) _
      · go_region_held3 (fun w' => w'.cell? ⟨w.heap.size, 0, none⟩ = some (.slice (some ad) n c))
          (first
            | exact (((S3.out.set (p := ⟨w.heap.size + 1, 0, none⟩) (by simp) _).set (p := ⟨w.heap.size + 1, 1, none⟩) (by simp) _).set (p := ⟨w.heap.size + 1, 2, none⟩) (by simp) _).c0
            | exact S3.out.c0
            | exact S2.out.c0
            | exact S1.out.c0
            | exact SD.out.c0)
          (first
            | (go_at_call 22
               have _q := S1
               clear _q
               refine (udp_dst _ _ _ _ _ _ H1.out S1.out (by omega)).mono ?_
               rintro e w2' ⟨rfl, hq2⟩
               have S2 := Lib.hid (S1.out.quiet hq2)
               have R2 := Lib.hid (R1.out.quiet hq2)
               have H2 := Lib.hid (H1.out.quiet hq2)
               have B2 := Lib.hid (below_quiet B1.out hq2)
               clear hq2)
            | (go_at_call 22
               refine (udp_src _ _ _ _ _ _ HD.out SD.out (by omega)).mono ?_
               rintro e w1' ⟨rfl, hq1⟩
               have S1 := Lib.hid (SD.out.quiet hq1)
               have R1 := Lib.hid (RD.out.quiet hq1)
               have H1 := Lib.hid (HD.out.quiet hq1)
               have B1 := Lib.hid (below_quiet BD.out hq1)
               clear hq1)
            | (go_at_call 24
               refine (slices_Clone _ _ _ (xs.drop 8) _ (by have q := H2.out.drop_lit 8 (by omega) (by omega); rwa [if_neg hc8] at q)).mono ?_
               rintro e w7 ⟨v7, rfl, o7, hB7⟩
               have S3 := Lib.hid (S2.out.below hB7)
               have R3 := Lib.hid (R2.out.below hB7)
               obtain ⟨A7, n7, c7, rfl, _⟩ := o7.bts
               have b7 := blk_lt R2.out.blk
               have b8 := B2.out.size
               replace o7 := Lib.hid o7
               have c0 := R3.out.c0
               have c1 := R3.out.c1
               have c2 := R3.out.c2
               have f0 := R3.out.f 0
               have f1 := R3.out.f 1
               have f2 := R3.out.f 2
               have B3 := Lib.hid (below_step2 B2.out hB7)
               clear hB7))
        go_wp2
        have q := blk_set (blk_set (blk_set R3.out.blk 0 (.int .i64 (dgSrc xs))) 1 (.int .i64 (dgDst xs))) 2 (.slice A7 n7 c7)
        refine ret_cell2 rfl rfl q Try.underlying24 rfl (by kernel_rfl) (ParsePost.ok hE.out ?_ ?_)
        · exact (((o7.out.far (p := ⟨w.heap.size + 1, 0, none⟩) b7 _).far (p := ⟨w.heap.size + 1, 1, none⟩) b7 _).far (p := ⟨w.heap.size + 1, 2, none⟩) b7 _).lower b8
        · exact below_set (below_set (below_set B3.out (p := ⟨w.heap.size + 1, 0, none⟩) (by simp) _) (p := ⟨w.heap.size + 1, 1, none⟩) (by simp) _) (p := ⟨w.heap.size + 1, 2, none⟩) (by simp) _
  · have e1 : (dgSix xs == 0) = false := beq_eq_false_iff_ne.mpr hz
    have e2 : (dgSix xs != 0) = true := bne_iff_ne.mpr hz
    have hno : ¬ dgNone xs := fun q => hz (h6.2 q)
    clear hz h6
    go_wp2_with fail
    refine (udp_six _ _ _ _ _ _ h0 S.out (by omega)).mono ?_
    rintro e w' ⟨rfl, nq, rfl⟩
    replace h0 := h0.drewN nq
    replace R := Lib.hid (R.out.drewN nq)
    replace S := Lib.hid (S.out.drewN nq)
    replace N := Lib.hid (N.out.drewN nq)
    replace HB := Lib.hid (pw_below_drewN HB.out nq)
    clear cs c0 c1 c2 f0 f1 f2
    generalize w4.drewN nq = w5 at h0 R S N HB ⊢
    have cs := S.out.c0
    have c0 := R.out.c0
    have c1 := R.out.c1
    have c2 := R.out.c2
    have f0 := R.out.f 0
    have f1 := R.out.f 1
    have f2 := R.out.f 2
    have n0 := N.out.c0
    have n1 := N.out.c1
    go_wp2_with fail
    refine (udp_whole _ _ _ _ _ _ _ hs hd h0 hp (by omega)).mono ?_
    rintro e w6 ⟨rfl, hB6⟩
    replace h0 := h0.below hB6
    replace R := Lib.hid (R.out.below hB6)
    replace S := Lib.hid (S.out.below hB6)
    replace HB := Lib.hid (below_step2 HB.out hB6)
    clear hB6 cs c0 c1 c2 f0 f1 f2 n0 n1 N
    have cs := S.out.c0
    have c0 := R.out.c0
    have c1 := R.out.c1
    have c2 := R.out.c2
    have f0 := R.out.f 0
    have f1 := R.out.f 1
    have f2 := R.out.f 2
    by_cases hD : dgSum xs (bytesOf s) (bytesOf d) = 65535
    · have hE := Lib.hid (dgErr_ok xs (bytesOf s) (bytesOf d) hp' (by omega) hLn (by rintro (⟨q, _⟩ | ⟨_, q⟩); (exact hno q); exact q hD))
      rw [decide_eq_true hD]
      clear hno hLn hD
      go_wp2_with fail
      have a1 : A.isSome = true := by obtain ⟨_, e, _⟩ := h0.some_ (by omega); rw [e]; rfl
      obtain ⟨ad, rfl⟩ := Option.isSome_iff_exists.1 a1
      clear a1
      have SD := Lib.hid (S.out.below (below_drew (Below.refl _ _)))
      have HD := Lib.hid (h0.below (below_drew (Below.refl _ _)))
      have RD := Lib.hid (R.out.below (below_drew (Below.refl _ _)))
      have BD := Lib.hid (below_drew HB.out)
      have i8 : (8 : Int) ≤ (n : Int) := by omega
      have i9 : (8 : Int) ≤ (c : Int) := by have := h0.le; omega
      have i7 := h0.le
      clear cs c0 c1 c2 f0 f1 f2 h0 S R HB
      by_cases hc8 : c = 8
      · go_region_held3 (fun w' => w'.cell? ⟨w.heap.size, 0, none⟩ = some (.slice (some ad) n c))
          (first
            | exact (((S3.out.set (p := ⟨w.heap.size + 1, 0, none⟩) (by simp) _).set (p := ⟨w.heap.size + 1, 1, none⟩) (by simp) _).set (p := ⟨w.heap.size + 1, 2, none⟩) (by simp) _).c0
            | exact S3.out.c0
            | exact S2.out.c0
            | exact S1.out.c0
            | exact SD.out.c0)
          (first
            | (go_at_call 22
               have _q := S1
               clear _q
               refine (udp_dst _ _ _ _ _ _ H1.out S1.out (by omega)).mono ?_
               rintro e w2' ⟨rfl, hq2⟩
               have S2 := Lib.hid (S1.out.quiet hq2)
               have R2 := Lib.hid (R1.out.quiet hq2)
               have H2 := Lib.hid (H1.out.quiet hq2)
               have B2 := Lib.hid (below_quiet B1.out hq2)
               clear hq2)
            | (go_at_call 22
               refine (udp_src _ _ _ _ _ _ HD.out SD.out (by omega)).mono ?_
               rintro e w1' ⟨rfl, hq1⟩
               have S1 := Lib.hid (SD.out.quiet hq1)
               have R1 := Lib.hid (RD.out.quiet hq1)
               have H1 := Lib.hid (HD.out.quiet hq1)
               have B1 := Lib.hid (below_quiet BD.out hq1)
               clear hq1)
            | (go_at_call 24
               refine (slices_Clone _ _ _ (xs.drop 8) _ (by have q := H2.out.drop_lit 8 (by omega) (by omega); rwa [if_pos hc8, show c - 8 = 0 by omega] at q)).mono ?_
               rintro e w7 ⟨v7, rfl, o7, hB7⟩
               have S3 := Lib.hid (S2.out.below hB7)
               have R3 := Lib.hid (R2.out.below hB7)
               obtain ⟨A7, n7, c7, rfl, _⟩ := o7.bts
               have b7 := blk_lt R2.out.blk
               have b8 := B2.out.size
               replace o7 := Lib.hid o7
               have c0 := R3.out.c0
               have c1 := R3.out.c1
               have c2 := R3.out.c2
               have f0 := R3.out.f 0
               have f1 := R3.out.f 1
               have f2 := R3.out.f 2
               have B3 := Lib.hid (below_step2 B2.out hB7)
               clear hB7))
        go_wp2
        have q := blk_set (blk_set (blk_set R3.out.blk 0 (.int .i64 (dgSrc xs))) 1 (.int .i64 (dgDst xs))) 2 (.slice A7 n7 c7)
        refine ret_cell2 rfl rfl q Try.underlying24 rfl (by kernel_rfl) (ParsePost.ok hE.out ?_ ?_)
        · exact (((o7.out.far (p := ⟨w.heap.size + 1, 0, none⟩) b7 _).far (p := ⟨w.heap.size + 1, 1, none⟩) b7 _).far (p := ⟨w.heap.size + 1, 2, none⟩) b7 _).lower b8
        · exact below_set (below_set (below_set B3.out (p := ⟨w.heap.size + 1, 0, none⟩) (by simp) _) (p := ⟨w.heap.size + 1, 1, none⟩) (by simp) _) (p := ⟨w.heap.size + 1, 2, none⟩) (by simp) _
      · go_region_held3 (fun w' => w'.cell? ⟨w.heap.size, 0, none⟩ = some (.slice (some ad) n c))
          (first
            | exact (((S3.out.set (p := ⟨w.heap.size + 1, 0, none⟩) (by simp) _).set (p := ⟨w.heap.size + 1, 1, none⟩) (by simp) _).set (p := ⟨w.heap.size + 1, 2, none⟩) (by simp) _).c0
            | exact S3.out.c0
            | exact S2.out.c0
            | exact S1.out.c0
            | exact SD.out.c0)
          (first
            | (go_at_call 22
               have _q := S1
               clear _q
               refine (udp_dst _ _ _ _ _ _ H1.out S1.out (by omega)).mono ?_
               rintro e w2' ⟨rfl, hq2⟩
               have S2 := Lib.hid (S1.out.quiet hq2)
               have R2 := Lib.hid (R1.out.quiet hq2)
               have H2 := Lib.hid (H1.out.quiet hq2)
               have B2 := Lib.hid (below_quiet B1.out hq2)
               clear hq2)
            | (go_at_call 22
               refine (udp_src _ _ _ _ _ _ HD.out SD.out (by omega)).mono ?_
               rintro e w1' ⟨rfl, hq1⟩
               have S1 := Lib.hid (SD.out.quiet hq1)
               have R1 := Lib.hid (RD.out.quiet hq1)
               have H1 := Lib.hid (HD.out.quiet hq1)
               have B1 := Lib.hid (below_quiet BD.out hq1)
               clear hq1)
            | (go_at_call 24
               refine (slices_Clone _ _ _ (xs.drop 8) _ (by have q := H2.out.drop_lit 8 (by omega) (by omega); rwa [if_neg hc8] at q)).mono ?_
               rintro e w7 ⟨v7, rfl, o7, hB7⟩
               have S3 := Lib.hid (S2.out.below hB7)
               have R3 := Lib.hid (R2.out.below hB7)
               obtain ⟨A7, n7, c7, rfl, _⟩ := o7.bts
               have b7 := blk_lt R2.out.blk
               have b8 := B2.out.size
               replace o7 := Lib.hid o7
               have c0 := R3.out.c0
               have c1 := R3.out.c1
               have c2 := R3.out.c2
               have f0 := R3.out.f 0
               have f1 := R3.out.f 1
               have f2 := R3.out.f 2
               have B3 := Lib.hid (below_step2 B2.out hB7)
               clear hB7))
        go_wp2
        have q := blk_set (blk_set (blk_set R3.out.blk 0 (.int .i64 (dgSrc xs))) 1 (.int .i64 (dgDst xs))) 2 (.slice A7 n7 c7)
        refine ret_cell2 rfl rfl q Try.underlying24 rfl (by kernel_rfl) (ParsePost.ok hE.out ?_ ?_)
        · exact (((o7.out.far (p := ⟨w.heap.size + 1, 0, none⟩) b7 _).far (p := ⟨w.heap.size + 1, 1, none⟩) b7 _).far (p := ⟨w.heap.size + 1, 2, none⟩) b7 _).lower b8
        · exact below_set (below_set (below_set B3.out (p := ⟨w.heap.size + 1, 0, none⟩) (by simp) _) (p := ⟨w.heap.size + 1, 1, none⟩) (by simp) _) (p := ⟨w.heap.size + 1, 2, none⟩) (by simp) _
    · have hE := Lib.hid (dgErr_sum xs (bytesOf s) (bytesOf d) hp' (by omega) hLn (.inr ⟨hno, hD⟩))
      rw [decide_eq_false hD]
      clear hno hLn hD
      go_wp2
      have q := blk_set (blk_set (blk_set R.out.blk 0 (.int .i64 0)) 1 (.int .i64 0)) 2 (.slice none 0 0)
      refine ret_cell2 rfl rfl q Try.underlying24 rfl (by kernel_rfl) (ParsePost.err hE.out (by decide) ?_)
      exact below_set (below_set (below_set HB.out (p := ⟨w.heap.size + 1, 0, none⟩) (by simp) _) (p := ⟨w.heap.size + 1, 1, none⟩) (by simp) _) (p := ⟨w.heap.size + 1, 2, none⟩) (by simp) _
end Go.Proofs.Ytbmlbomildfmcaa

/- The contract of Stream. Conditions: each argument is of its Go type. -/
import Derived.Test.YtgkphopdmkfcgaaCCtr
import Derived.Test.YtgkphopdmkfcgaaAesLaw
import Derived.Test.YtgkphopdmkfcgaaRngB
namespace Go.Proofs.Ytgkphopdmkfcgaa
open Go.RowKit Go.Proofs.YtgkphopdmkfcgaaW.PrintWords
attribute [local go_sem] Oper.semAt_some

/-- Block k of a stream. -/
def ctrBlk (ks salt iv : List Int) (k : Nat) : List Int := blockS ks (cntS salt iv ((k : Int) + 1))
/-- The first n blocks. -/
def ctrAll (ks salt iv : List Int) : Nat → List Int
  | 0 => []
  | k + 1 => ctrAll ks salt iv k ++ ctrBlk ks salt iv k
/-- The stream's first n bytes. -/
def strmS (key salt iv : List Int) (n : Nat) : List Int := (ctrAll (keysS key) salt iv ((n + 15) / 16)).take n
def strErr (a b c : Nat) (n : Int) : Int := if (a = 16 ∨ a = 32) ∧ b = 4 ∧ c = 8 ∧ 0 ≤ n then if 65536 < n then 2 else 0 else 1
theorem ctrAll_len (ks salt iv : List Int) : ∀ n, (ctrAll ks salt iv n).length = 16 * n
  | 0 => rfl
  | n + 1 => by rw [ctrAll, List.length_append, ctrAll_len, ctrBlk, blockS_len]; omega
theorem cnt_ok (k : Nat) (h : k < 4294967295) : cntErr 4 8 ((k : Int) + 1) = 0 := if_pos ⟨rfl, rfl, by omega, by omega⟩
/-- What the iterator may hand on. -/
def GoodC (ks salt iv : List Int) (N k : Nat) (x : Array Value) (W : World) (k' : Nat) : Prop := k < N ∧ k' = k + 1 ∧ ∃ A n c, x = #[.slice A n c] ∧ Bts W A n c (ctrBlk ks salt iv k)

set_option maxHeartbeats 1000000 in
theorem ctr_blocks (A : Option Addr) (a c : Nat) (B : Option Addr) (b d : Nat) (C : Option Addr) (e f : Nat) (n : Int) (w : World) : Calls Try.prog 20 #[.slice A a c, .slice B b d, .slice C e f, .int .i64 n] w fun q w' =>
    q = .returned (.func (.func 30) #[] #[.pointer (some ⟨w.heap.size + 1 + 1 + 1, 0, none⟩), .pointer (some ⟨w.heap.size + 1, 0, none⟩), .pointer (some ⟨w.heap.size + 1 + 1, 0, none⟩), .pointer (some ⟨w.heap.size, 0, none⟩)]) ∧
    w' = (((w.alloc (.cells #[.slice A a c] 22)).alloc (.cells #[.slice B b d] 22)).alloc (.cells #[.slice C e f] 22)).alloc (.cells #[.int .i64 n] 3) := by
  go_enter Try.func20, Try.ntmps20
  go_wp2
  go_ret
  exact ⟨rfl, rfl⟩

set_option maxRecDepth 100000 in
set_option maxHeartbeats 2000000 in
/-- The iterator: block after block of the stream. -/
theorem blocks_seq (n s N : Nat) (hN : N ≤ 4096) (A : Option Addr) (a c : Nat) (ks : List Int) (B : Option Addr) (d : Nat) (salt : List Int) (C : Option Addr) (f : Nat) (iv : List Int) (wb w0 : World)
    (hk : Bts wb A a c ks) (hka : a = 176 ∨ a = 240) (h2 : Bts wb B 4 d salt) (h3 : Bts wb C 8 f iv) (hs : wb.heap.size = s) (hs0 : w0.heap.size = s + 5) (hb : ∀ k, k < s → w0.heap[k]? = wb.heap[k]?)
    (b1 : Boxed w0 (s + 1) 22 (.slice A a c)) (b2 : Boxed w0 (s + 2) 22 (.slice B 4 d)) (b3 : Boxed w0 (s + 3) 22 (.slice C 8 f)) (b4 : Boxed w0 (s + 4) 3 (.int .i64 (N : Int))) :
    SeqG n Try.prog 30 #[.pointer (some ⟨s + 4, 0, none⟩), .pointer (some ⟨s + 2, 0, none⟩), .pointer (some ⟨s + 3, 0, none⟩), .pointer (some ⟨s + 1, 0, none⟩)] none (SameBut (s + 5) s) (GoodC ks salt iv N) (fun k => k = N) 0 w0 := by
  intro l J Jx W hW hJ hJx hY h0
  have S0 : SameBut (s + 5) s w0 W := SameBut.below hW (by omega)
  refine callsIn_of_wp Try.func30 rfl trivial ?_ rfl
  simp only [Try.ntmps30, List.size_toArray, List.length_cons, List.length_nil, Nat.reduceAdd, Nat.reduceSub, Array.replicate_succ, Array.replicate_zero, List.push_toArray, List.append_toArray, List.nil_append, List.cons_append]
  have c4 := (S0.box (by omega) (by omega) b4).cell
  gi_wp2
  clear c4
  gi_loopw [11] (fun vi wr => ∃ k : Nat, vi = .int .i64 (k : Int) ∧ k ≤ N ∧ J k wr ∧ SameBut (s + 5) s w0 wr) (fun vi _ => N - (intOf vi).toNat)
  case atStart => exact ⟨0, rfl, by omega, h0, S0⟩
  case round =>
    clear h0 S0 hW
    obtain ⟨k, rfl, hkN, hJk, S⟩ := hrel
    by_cases hlt : k < N
    · have t1 := (Bts.same hk (by have := S.1; omega) (fun j hj => (S.2 j (by omega) (by omega)).trans (hb j (by omega))))
      have t2 := (Bts.same h2 (by have := S.1; omega) (fun j hj => (S.2 j (by omega) (by omega)).trans (hb j (by omega))))
      have t3 := (Bts.same h3 (by have := S.1; omega) (fun j hj => (S.2 j (by omega) (by omega)).trans (hb j (by omega))))
      have c1 := (S.box (by omega) (by omega) b1).cell
      have c2 := (S.box (by omega) (by omega) b2).cell
      have c3 := (S.box (by omega) (by omega) b3).cell
      gi_wp2_with fail
      refine call_in ((ctr_Counter B 4 d salt C 8 f iv ((k : Int) + 1) wr ⟨by omega, by omega⟩ t2 t3).mono ?_)
      rintro e W2 ⟨A2, n2, c2', rfl, o2, hB2⟩
      rw [cnt_ok k (by omega)] at o2 ⊢
      have k2 : Bts W2 A2 n2 c2' (cntS salt iv ((k : Int) + 1)) := o2.sl
      have hn2 : n2 = 16 := by rw [← k2.len]; exact cntS_len _ h2.len h3.len
      subst hn2
      have S2 := S.trans (SameBut.below hB2 (by have := S.1; omega))
      have J2 := hJ _ _ _ hJk (grown_of_below hB2)
      replace t1 := t1.below hB2
      clear o2 hB2 c1 c2 c3 t2 t3 S hJk
      have c1 := (S2.box (by omega) (by omega) b1).cell
      gi_wp2_with fail
      refine call_in ((aes_Block A a c ks A2 16 c2' _ W2 t1 k2).mono ?_)
      rintro e W3 ⟨A3, n3, c3, rfl, k3, hB3⟩
      have S3 := S2.trans (SameBut.below hB3 (by have := S2.1; omega))
      have J3 := hJ _ _ _ J2 (grown_of_below hB3)
      rw [blkErr_zero.2 ⟨hka, rfl⟩] at k3 ⊢
      replace k3 : Bts W3 A3 n3 c3 (ctrBlk ks salt iv k) := k3
      clear hB3 t1 k2 S2 J2 c1
      obtain ⟨fn, tmps, assign, body, hy, hR⟩ := hY k #[.slice A3 n3 c3] (k + 1) W3 J3 ⟨hlt, rfl, _, _, _, rfl, k3⟩
      gi_wp2
      refine ⟨fun e => (by cases e), hR.mono ?_⟩
      rintro e W4 (⟨rfl, J4, S4⟩ | ⟨rfl, J4⟩)
      · replace S4 := S3.trans S4
        clear S3 J3 hR hy
        gi_wp2
        go_roundw
        case rel => exact ⟨k + 1, by go_num, by omega, J4, S4⟩
        case measure => simp [intOf]; omega
      · gi_wp2
        refine bodyPost_ret (results_none rfl _ _ _) rfl ?_
        exact ⟨⟨_, rfl⟩, .inr ⟨k + 1, J4⟩⟩
    · obtain rfl : k = N := by omega
      gi_wp2
      go_end0
      exact ⟨⟨_, rfl⟩, .inl ⟨k, rfl, hJk⟩⟩
set_option maxRecDepth 100000 in
set_option maxHeartbeats 4000000 in
theorem ctr_Stream_ok (A : Option Addr) (a c : Nat) (xs : List Int) (B : Option Addr) (d : Nat) (ys : List Int) (C : Option Addr) (f : Nat) (zs : List Int) (n : Nat) (w : World) (h : Bts w A a c xs) (h2 : Bts w B 4 d ys) (h3 : Bts w C 8 f zs) (ha : a = 16 ∨ a = 32) (hn : n ≤ 65536) :
    Calls Try.prog 11 #[.slice A a c, .slice B 4 d, .slice C 8 f, .int .i64 (n : Int)] w (OwnPost 0 (strmS xs ys zs n) w) := by
  refine (callsIn_wide (n := 4)).1 ?_
  refine callsIn_of_wp_marks Try.func11 rfl trivial ?_ rfl
  simp only [Try.ntmps11, List.size_toArray, List.length_cons, List.length_nil, Nat.reduceAdd, Nat.reduceSub, Array.replicate_succ, Array.replicate_zero, List.push_toArray, List.append_toArray, List.nil_append, List.cons_append]
  have d1 : decide ((n : Int) < 0) = false := decide_eq_false (by omega)
  have d2 : decide (65536 < (n : Int)) = false := decide_eq_false (by omega)
  gi_wp2_with fail
  refine call_in2 ((aes_Keys A a c xs w h).mono ?_)
  rintro e w2 ⟨A2, n2, c2, rfl, o2, hB2⟩
  rw [keyErr_zero.2 ha] at o2 ⊢
  have hl2 : n2 = 176 ∨ n2 = 240 := by
    have q := o2.sl.len
    rw [if_pos rfl, keysS_len (by rw [h.len]; exact ha)] at q
    rw [← q]; split <;> omega
  replace o2 : OwnB w2 w.heap.size (.slice A2 n2 c2) (keysS xs) := o2
  replace h2 := h2.below hB2
  replace h3 := h3.below hB2
  obtain ⟨N, hN⟩ : ∃ N, (n + 15) / 16 = N := ⟨_, rfl⟩
  have eN : ((n : Int) + 16 - 1) / 16 = (N : Int) := by omega
  obtain ⟨s, hs⟩ : ∃ s, w2.heap.size = s := ⟨_, rfl⟩
  gi_wp2_with fail
  refine call_in2 ((ctr_blocks A2 n2 c2 B 4 d C 8 f _ _).mono ?_)
  rintro q W0 ⟨rfl, hW0⟩
  simp only [World.size_alloc, hs]
  have hs0 : W0.heap.size = s + 5 := by rw [hW0]; simp [hs]
  have bx := Boxed.new w2 22 (.slice none 0 0)
  rw [hs] at bx
  obtain ⟨b0, b1, b2, b3, b4, hBW⟩ : Boxed W0 s 22 (.slice none 0 0) ∧ Boxed W0 (s + 1) 22 (.slice A2 n2 c2) ∧ Boxed W0 (s + 2) 22 (.slice B 4 d) ∧ Boxed W0 (s + 3) 22 (.slice C 8 f) ∧ Boxed W0 (s + 4) 3 (.int .i64 (N : Int)) ∧ Below w2.heap.size w2 W0 := by
    have q0 := bx
    have q1 := Boxed.new (w2.alloc (.cells #[.slice none 0 0] 22)) 22 (.slice A2 n2 c2)
    have q2 := Boxed.new ((w2.alloc (.cells #[.slice none 0 0] 22)).alloc (.cells #[.slice A2 n2 c2] 22)) 22 (.slice B 4 d)
    have q3 := Boxed.new (((w2.alloc (.cells #[.slice none 0 0] 22)).alloc (.cells #[.slice A2 n2 c2] 22)).alloc (.cells #[.slice B 4 d] 22)) 22 (.slice C 8 f)
    have q4 := Boxed.new ((((w2.alloc (.cells #[.slice none 0 0] 22)).alloc (.cells #[.slice A2 n2 c2] 22)).alloc (.cells #[.slice B 4 d] 22)).alloc (.cells #[.slice C 8 f] 22)) 3 (.int .i64 (N : Int))
    simp only [World.size_alloc, hs] at q1 q2 q3 q4
    rw [hW0]
    exact ⟨(((q0.alloc _).alloc _).alloc _).alloc _, ((q1.alloc _).alloc _).alloc _, (q2.alloc _).alloc _, q3.alloc _, q4, below_alloc (below_alloc (below_alloc (below_alloc (below_alloc (Below.refl _ _) _) _) _) _) _⟩
  have hB0 : Below w.heap.size w W0 := below_step2 hB2 hBW
  clear hW0 bx
  gi_wp2_with fail
  refine wpIn_rangeG (σ := Nat) (gf := 30) rfl (enters_of Try.func30 (by kernel_rfl) rfl) (row := none) (fun r e => by cases e)
    (blocks_seq 3 s N (by omega) A2 n2 c2 (keysS xs) B d ys C f zs w2 W0 o2.sl hl2 h2 h3 hs hs0 (fun k hk => hBW.block k (by omega)) b1 b2 b3 b4)
    (fun h k => h.trans k) (fun W l o o' hl ho hc => SameBut.putObj W l o' (by omega)) (Below.refl _ _)
    (fun k x W k' hg => by obtain ⟨_, _, A, n, c, rfl, _⟩ := hg; rfl)
    (fun k x k' X Y r hg hgr hr => by
      obtain ⟨e1, e2, A, n, c, e3, hb⟩ := hg
      exact ⟨e1, e2, A, n, c, e3, hb.kept hgr (fun j ej => by rcases hr j ej with e | ⟨_, h⟩; cases e; exact h)⟩)
    (fun k W => ∃ v, Boxed W s 22 v ∧ OwnB W (s + 5) v (ctrAll (keysS xs) ys zs k) ∧ Below w.heap.size w W ∧ s + 5 ≤ W.heap.size) (fun _ _ _ => False) ?abd (fun c k X Y r h _ _ => h) ?start ?round ?done (fun D c k W _ h _ => h.elim)
  case abd =>
    rintro k X Y r ⟨v, hb, ho, hB, hz⟩ hg hr
    have hr' : ∀ j, r = some j → W0.heap.size ≤ j ∧ ∃ o : Obj, X.heap[j]? = some o ∧ o.isCells = false := fun j ej => by
      rcases hr j ej with e | h
      · cases e
      · exact h
    exact ⟨v, Boxed.kept_ hb hg (fun j ej => (hr' j ej).2), ho.kept hg (fun j ej => (hr' j ej).2), hB.grown hg hB.size (fun j ej => by have := (hr' j ej).1; have := hB0.size; omega), Nat.le_trans hz hg.size⟩
  case start => exact ⟨_, b0, OwnB.nil_ _ _, hB0, by omega⟩
  case round =>
    rintro l k k' x W hl ⟨v, hb, ho, hB, hz⟩ ⟨hlt, rfl, A3, n3, c3, rfl, hr⟩
    clear hb ho hB hr hz
    gi_wp2
    refine ⟨trivial, ?_⟩
    rintro W2 ⟨v, hb, ho, hB, hs2⟩ ⟨_, _, A3', n3', c3', e3, hr⟩
    obtain ⟨rfl, rfl, rfl⟩ : A3 = A3' ∧ n3 = n3' ∧ c3 = c3' := by simpa using e3
    clear e3
    have cv := hb.cell
    gi_wp2_with (gi_at_builtin; refine append_own_in (W := W2) (s + 5) rfl (.tmp 48) (.tmp 49) 22 rfl Try.underlying22 Try.info5' v _ _ _ _ _ rfl rfl ho hr hs2 ?_ ?_)
    · rw [ctrAll_len, ← hr.len, ctrBlk, blockS_len]; omega
    · intro v1 w1 ho1 hg1
      have hv : some s ≠ v.ownBlock := fun e => by have := own_base ho.own s e.symm; omega
      have hb1 := Boxed.kept hb hg1 hv
      obtain ⟨g, cap, rfl, hg5, _⟩ := ho1.form (by rw [List.length_append, ctrBlk, blockS_len]; omega)
      have cv1 := Boxed.cell hb1
      have fv1 := Boxed.frozen hb1
      have hK := (ho.others hg1).trans (KeepsOthers.setCell w1 ⟨s, 0, none⟩ (.slice (some ⟨g, 0, none⟩) (ctrAll (keysS xs) ys zs k ++ ctrBlk (keysS xs) ys zs k).length cap))
      have hS := (SameBut.grown hg1 hs2 (own_base ho.own)).trans (SameBut.set (B := s + 5) (x := s) w1 (.slice (some ⟨g, 0, none⟩) (ctrAll (keysS xs) ys zs k ++ ctrBlk (keysS xs) ys zs k).length cap))
      have hO := ho1.far (p := ⟨s, 0, none⟩) (by show s < s + 5; omega) (.slice (some ⟨g, 0, none⟩) (ctrAll (keysS xs) ys zs k ++ ctrBlk (keysS xs) ys zs k).length cap)
      have hX := Boxed.set (.slice (some ⟨g, 0, none⟩) (ctrAll (keysS xs) ys zs k ++ ctrBlk (keysS xs) ys zs k).length cap) hb1
      have hBo := (hB.grown hg1 hB.size (fun j ej => by have := own_base ho.own j ej; have := hB0.size; omega)).setCell (p := ⟨s, 0, none⟩) (by show w.heap.size ≤ s; have := hB2.size; omega) (.slice (some ⟨g, 0, none⟩) (ctrAll (keysS xs) ys zs k ++ ctrBlk (keysS xs) ys zs k).length cap)
      have hZ := Nat.le_trans hs2 hS.1
      rw [List.length_append] at hK hS hO hX hBo hZ
      gi_wp2
      exact ⟨hK.from _, hS, _, hX, hO, hBo, hZ⟩
  case done =>
    rintro D k W hD rfl ⟨v, hb, ho, hB, hz⟩ hK
    obtain ⟨A3, n3, c3, rfl, hr⟩ := ho.bts
    have cv := hb.cell
    have l1 := hr.le
    have l2 := hr.len
    have l3 := hr.cap
    rw [ctrAll_len] at l2
    have hq : ¬ ((n : Int) < 0 ∨ (c3 : Int) < (n : Int)) := by omega
    gi_wp2
    have hBK := hB.trans (belowK_b (n₀ := w.heap.size) (w := w) (Nat.le_refl _) W D _ (.deferred none) (by have := hB0.size; omega) hK rfl rfl)
    have hoK := (ho.take_ n (by omega)).kept (grownBy_putObj' W D (.deferred none)) (fun j ej => by cases ej; exact ⟨_, hK, rfl⟩)
    refine ⟨by simp, .inl ⟨_, _, rfl, run_takeDeferred hK, ?_⟩⟩
    refine ⟨_, results_tmp2 rfl _ _ _, ?_⟩
    refine ⟨A3, n, c3, rfl, ?_, hBK⟩
    rw [if_pos rfl]
    unfold strmS
    rw [hN]
    exact hoK.lower (by have := hB0.size; omega)


set_option maxHeartbeats 2000000 in
theorem ctr_Stream (A : Option Addr) (a c : Nat) (xs : List Int) (B : Option Addr) (b d : Nat) (ys : List Int) (C : Option Addr) (e f : Nat) (zs : List Int) (n : Int) (w : World) (h : Bts w A a c xs) (h2 : Bts w B b d ys) (h3 : Bts w C e f zs) :
    Calls Try.prog 11 #[.slice A a c, .slice B b d, .slice C e f, .int .i64 n] w (OwnPost (strErr a b e n) (strmS xs ys zs n.toNat) w) := by
  have hb := h2.max
  have he := h3.max
  by_cases ha : a = 16 ∨ a = 32
  case neg =>
    have hE : Hid (strErr a b e n = 1) := Lib.hid (if_neg (fun q => ha q.1))
    have hk : keyErr a = 1 := if_neg ha
    go_enter Try.func11, Try.ntmps11
    go_wp2_with fail
    refine (aes_Keys A a c xs w h).mono ?_
    rintro q w2 ⟨A2, n2, c2, rfl, o2, hB2⟩
    rw [hk]
    clear o2
    go_wp2
    go_ret2
    show OwnPost _ _ _ _ _
    rw [hE.out]
    exact ⟨none, 0, 0, rfl, OwnB.nil_ _ _, hB2⟩
  have hk : keyErr a = 0 := if_pos ha
  by_cases q1 : b = 4
  case neg =>
    have d1 : ((b : Int) != 4) = true := bne_iff_ne.mpr (by omega)
    have d1' : (b != 4) = true := bne_iff_ne.mpr q1
    have hE : Hid (strErr a b e n = 1) := Lib.hid (if_neg (fun q => q1 q.2.1))
    go_enter Try.func11, Try.ntmps11
    go_wp2_with fail
    refine (aes_Keys A a c xs w h).mono ?_
    rintro q w2 ⟨A2, n2, c2, rfl, o2, hB2⟩
    rw [hk]
    clear o2
    go_wp2
    go_ret2
    show OwnPost _ _ _ _ _
    rw [hE.out]
    exact ⟨none, 0, 0, rfl, OwnB.nil_ _ _, hB2⟩
  subst q1
  by_cases q2 : e = 8
  case neg =>
    have d2 : ((e : Int) != 8) = true := bne_iff_ne.mpr (by omega)
    have d2' : (e != 8) = true := bne_iff_ne.mpr q2
    have hE : Hid (strErr a 4 e n = 1) := Lib.hid (if_neg (fun q => q2 q.2.2.1))
    go_enter Try.func11, Try.ntmps11
    go_wp2_with fail
    refine (aes_Keys A a c xs w h).mono ?_
    rintro q w2 ⟨A2, n2, c2, rfl, o2, hB2⟩
    rw [hk]
    clear o2
    go_wp2
    go_ret2
    show OwnPost _ _ _ _ _
    rw [hE.out]
    exact ⟨none, 0, 0, rfl, OwnB.nil_ _ _, hB2⟩
  subst q2
  by_cases q3 : n < 0
  · have d3 : decide (n < 0) = true := decide_eq_true q3
    have hE : Hid (strErr a 4 8 n = 1) := Lib.hid (if_neg (fun q => by have := q.2.2.2; omega))
    go_enter Try.func11, Try.ntmps11
    go_wp2_with fail
    refine (aes_Keys A a c xs w h).mono ?_
    rintro q w2 ⟨A2, n2, c2, rfl, o2, hB2⟩
    rw [hk]
    clear o2
    go_wp2
    go_ret2
    show OwnPost _ _ _ _ _
    rw [hE.out]
    exact ⟨none, 0, 0, rfl, OwnB.nil_ _ _, hB2⟩
  obtain ⟨m, rfl⟩ := Int.eq_ofNat_of_zero_le (by omega : 0 ≤ n)
  by_cases q4 : 65536 < (m : Int)
  · have d3 : decide ((m : Int) < 0) = false := decide_eq_false (by omega)
    have d4 : decide (65536 < (m : Int)) = true := decide_eq_true q4
    have hE : Hid (strErr a 4 8 (m : Int) = 2) := Lib.hid (by unfold strErr; rw [if_pos ⟨ha, rfl, rfl, by omega⟩, if_pos q4])
    go_enter Try.func11, Try.ntmps11
    go_wp2_with fail
    refine (aes_Keys A a c xs w h).mono ?_
    rintro q w2 ⟨A2, n2, c2, rfl, o2, hB2⟩
    rw [hk]
    clear o2
    go_wp2
    go_ret2
    show OwnPost _ _ _ _ _
    rw [hE.out]
    exact ⟨none, 0, 0, rfl, OwnB.nil_ _ _, hB2⟩
  have hE : strErr a 4 8 (m : Int) = 0 := by unfold strErr; rw [if_pos ⟨ha, rfl, rfl, by omega⟩, if_neg q4]
  rw [hE]
  exact ctr_Stream_ok A a c xs B d ys C f zs m w h h2 h3 ha (by omega)
end Go.Proofs.Ytgkphopdmkfcgaa

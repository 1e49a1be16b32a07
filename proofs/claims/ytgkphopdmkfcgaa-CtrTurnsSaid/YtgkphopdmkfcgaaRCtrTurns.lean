/- The row of CtrTurns, behind its walk and what the reference makes. Conditions: none beside the row's own reach. -/
import Derived.Test.YtgkphopdmkfcgaaCtrLaw
import Derived.Test.YtgkphopdmkfcgaaAesRef3
import Derived.Test.YtgkphopdmkfcgaaPCtrTurnsx5
import Derived.Test.YtgkphopdmkfcgaaRows
import Derived.Test.YtgkphopdmkfcgaaRowB
namespace Go.Proofs.Ytgkphopdmkfcgaa
open Go.RowKit Go.Proofs.YtgkphopdmkfcgaaW.PrintWords Go.Proofs.Ytgkphopdmkfcgaa.PCtrTurns

theorem refByF (k : Nat) (hk : 2000 ≤ k) (ks ys : List Int) (h : ks.length = 176 ∨ ks.length = 240) (hy : ys.length = 16) (bk : Byt ks) (b : Byt ys) : redoubtref08_By.f k boxTab ks ys = some (blockS ks ys) := by
  obtain ⟨j, rfl⟩ := Nat.exists_eq_add_of_le hk
  clear hk
  induction j with
  | zero => exact refBy ks ys h hy bk b
  | succ j ih => exact redoubtref08_By.mono _ _ _ _ _ ih
theorem refKeysF (key : List Int) (h : key.length = 16 ∨ key.length = 32) (hb : Byt key) : ∃ k, ∀ j, redoubtref08_Keys.f (k + j) key = some (keysS key) := by
  obtain ⟨k, hk⟩ := refKeys key h hb
  refine ⟨k, fun j => ?_⟩
  induction j with
  | zero => exact hk
  | succ j ih => exact redoubtref08_Keys.mono _ _ _ ih
theorem rBoth3 (m : Nat) (a b c : List Int) (h : a.length + b.length + c.length < 1000) : redoubtref01_Both.f (m + 4) [a, b, c] = some (a ++ (b ++ c)) := by
  unfold redoubtref01_Both.f
  rw [redoubtref01_Both.l0, if_pos (by simp), if_pos (by omega), if_pos (by simp [rd_L1]; omega)]
  rw [redoubtref01_Both.l0, if_pos (by simp [wrap64]), if_pos (by simp [wrap64]), if_pos (by simp [rd_L1, wrap64]; omega)]
  rw [redoubtref01_Both.l0, if_pos (by simp [wrap64]), if_pos (by simp [wrap64]), if_pos (by simp [rd_L1, wrap64]; omega)]
  rw [redoubtref01_Both.l0, if_neg (by simp [wrap64])]
  simp [rd_L1, wrap64]
theorem four_f (n : Int) (h0 : 0 ≤ n) (h1 : n ≤ 4294967295) : redoubtref01_Four.f n = some (cntFour n) := by
  unfold redoubtref01_Four.f cntFour
  have e0 : wrap64 (Int.tdiv n 16777216) = n / 16777216 := by rw [tdiv_pos _ _ h0]; unfold wrap64; omega
  have e1 : wrap64 (Int.tdiv n 65536) = n / 65536 := by rw [tdiv_pos _ _ h0]; unfold wrap64; omega
  have e2 : wrap64 (Int.tdiv n 256) = n / 256 := by rw [tdiv_pos _ _ h0]; unfold wrap64; omega
  rw [e0, e1, e2, tmod_pos _ _ (by omega), tmod_pos _ _ (by omega), tmod_pos _ _ (by omega)]
  simp only [Option.some.injEq, List.cons.injEq, and_true]
  refine ⟨?_, ?_, ?_, ?_⟩ <;> omega
theorem refCounter (m : Nat) (xs ys : List Int) (n : Int) (_hn : I64 n) : redoubtref09_Counter.f (m + 5) xs ys n = some (if cntErr xs.length ys.length n = 0 then cntS xs ys n else [], cntErr xs.length ys.length n) := by
  have bad : ∀ (_ : ¬ cntOk xs.length ys.length n), some (([] : List Int), (1 : Int)) = some (if cntErr xs.length ys.length n = 0 then cntS xs ys n else [], cntErr xs.length ys.length n) := fun h => by
    have : cntErr xs.length ys.length n = 1 := if_neg h
    rw [this]; rfl
  have hj : ∀ b : Bool, redoubtref09_Counter.j0 (m + 5) xs ys n b = if b = true then some (([] : List Int), 1) else ((redoubtref01_Four.f n).bind fun t115 => ((redoubtref01_Both.f (m + 4) (([xs, ys, t115] : List (List Int)))).bind fun t121 => (some (t121, 0)))) := fun b => by rw [redoubtref09_Counter.j0]
  unfold redoubtref09_Counter.f
  by_cases q1 : (xs.length : Int) = 4
  case neg => rw [if_neg q1, hj, if_pos rfl]; exact bad (fun q => q1 (by have := q.1; omega))
  rw [if_pos q1]
  by_cases q2 : (ys.length : Int) = 8
  case neg => rw [if_neg q2, hj, if_pos rfl]; exact bad (fun q => q2 (by have := q.2.1; omega))
  rw [if_pos q2]
  by_cases q3 : n < 1
  · rw [if_pos q3, hj, if_pos rfl]; exact bad (fun q => by have := q.2.2.1; omega)
  rw [if_neg q3]
  by_cases q4 : n > 4294967295
  · rw [decide_eq_true q4, hj, if_pos rfl]; exact bad (fun q => by have := q.2.2.2; omega)
  rw [decide_eq_false q4, hj, if_neg (by decide)]
  have hok : cntErr xs.length ys.length n = 0 := if_pos ⟨by omega, by omega, by omega, by omega⟩
  rw [four_f n (by omega) (by omega), Option.bind_some, rBoth3 _ _ _ _ (by simp [cntFour]; omega), Option.bind_some, hok, if_pos rfl]
  rfl
theorem refStream_l (ks salt iv : List Int) (n N j : Nat) (hk : ks.length = 176 ∨ ks.length = 240) (bk : Byt ks) (hs : salt.length = 4) (hi : iv.length = 8) (bs : Byt salt) (bi : Byt iv) (hN : (n + 15) / 16 = N) (hn : n ≤ 400) :
    ∀ m, m ≤ N → redoubtref09_Stream.l0 (2000 + m + 1 + j) salt iv (n : Int) ks boxTab (ctrAll ks salt iv (N - m)) (((N - m : Nat) : Int) + 1) = some ((ctrAll ks salt iv N).take n, 0)
  | 0, _ => by
    rw [show 2000 + 0 + 1 + j = (2000 + j) + 1 by omega, redoubtref09_Stream.l0, ctrAll_len, if_neg (by omega), if_pos (by omega), if_pos (by omega), Int.toNat_natCast]
    rfl
  | m + 1, hm => by
    have e1 : cntErr salt.length iv.length (((N - (m + 1) : Nat) : Int) + 1) = 0 := by rw [hs, hi]; exact cnt_ok _ (by omega)
    have bc : Byt (cntS salt iv (((N - (m + 1) : Nat) : Int) + 1)) := by
      unfold cntS
      exact byt_append.2 ⟨bs, byt_append.2 ⟨bi, cntFour_byt (by omega) (by omega)⟩⟩
    rw [show 2000 + (m + 1) + 1 + j = (2000 + m + 1 + j) + 1 by omega, redoubtref09_Stream.l0, ctrAll_len, if_pos (by omega), show 2000 + m + 1 + j = (1996 + m + j) + 5 by omega, refCounter _ _ _ _ ⟨by omega, by omega⟩, Option.bind_some, e1, if_pos rfl,
      refByF _ (by omega) _ _ hk (cntS_len _ hs hi) bk bc, Option.bind_some, if_pos (by rw [blockS_len]; omega), show 1996 + m + j + 5 = 2000 + m + 1 + j by omega]
    have e2 : wrap64 (((N - (m + 1) : Nat) : Int) + 1 + 1) = ((N - m : Nat) : Int) + 1 := by unfold wrap64; omega
    have e3 : ctrAll ks salt iv (N - (m + 1)) ++ blockS ks (cntS salt iv (((N - (m + 1) : Nat) : Int) + 1)) = ctrAll ks salt iv (N - m) := by
      rw [show N - m = (N - (m + 1)) + 1 by omega]; rfl
    rw [e2, e3]
    exact refStream_l ks salt iv n N j hk bk hs hi bs bi hN hn m (by omega)
theorem may_f (xs : List Int) : redoubtref08_May.f xs = some (decide (xs.length = 16 ∨ xs.length = 32)) := by
  unfold redoubtref08_May.f
  by_cases h : (xs.length : Int) = 16
  · rw [if_pos h, decide_eq_true (.inl (by omega))]
  · rw [if_neg h]
    by_cases h2 : (xs.length : Int) = 32
    · rw [beq_iff_eq.2 h2, decide_eq_true (.inr (by omega))]
    · rw [beq_eq_false_iff_ne.2 h2, decide_eq_false (by omega)]
theorem refStream (key salt iv : List Int) (n : Int) (bk : Byt key) (bs : Byt salt) (bi : Byt iv) (hn : n ≤ 400 ∨ 65536 < n) :
    ∃ k, redoubtref09_Stream.f k key salt iv n = some (if strErr key.length salt.length iv.length n = 0 then strmS key salt iv n.toNat else [], strErr key.length salt.length iv.length n) := by
  have bad : ∀ (_ : ¬ ((key.length = 16 ∨ key.length = 32) ∧ salt.length = 4 ∧ iv.length = 8 ∧ 0 ≤ n)), some (([] : List Int), (1 : Int)) = some (if strErr key.length salt.length iv.length n = 0 then strmS key salt iv n.toNat else [], strErr key.length salt.length iv.length n) := fun h => by
    have : strErr key.length salt.length iv.length n = 1 := if_neg h
    rw [this]; rfl
  by_cases q0 : key.length = 16 ∨ key.length = 32
  case neg =>
    refine ⟨1, ?_⟩
    unfold redoubtref09_Stream.f
    rw [may_f, Option.bind_some, decide_eq_false q0, if_neg (by decide), redoubtref09_Stream.j0, if_pos rfl]
    exact bad (fun q => q0 q.1)
  obtain ⟨kk, hK⟩ := refKeysF key q0 bk
  refine ⟨kk + 2100 + 1, ?_⟩
  unfold redoubtref09_Stream.f
  rw [may_f, Option.bind_some, decide_eq_true q0, if_pos rfl]
  by_cases q1 : (salt.length : Int) = 4
  case neg =>
    rw [if_neg q1, redoubtref09_Stream.j0, if_pos rfl]
    exact bad (fun q => q1 (by have := q.2.1; omega))
  rw [if_pos q1]
  by_cases q2 : (iv.length : Int) = 8
  case neg =>
    rw [if_neg q2, redoubtref09_Stream.j0, if_pos rfl]
    exact bad (fun q => q2 (by have := q.2.2.1; omega))
  rw [if_pos q2, redoubtref09_Stream.j0]
  by_cases q3 : n < 0
  · rw [decide_eq_true q3, if_pos rfl]
    exact bad (fun q => by have := q.2.2.2; omega)
  rw [decide_eq_false q3, if_neg (by decide)]
  have hc : (key.length = 16 ∨ key.length = 32) ∧ salt.length = 4 ∧ iv.length = 8 ∧ 0 ≤ n := ⟨q0, by omega, by omega, by omega⟩
  by_cases q4 : n > 65536
  · have e : strErr key.length salt.length iv.length n = 2 := by unfold strErr; rw [if_pos hc, if_pos (by omega)]
    rw [if_pos q4, e]
    rfl
  have e : strErr key.length salt.length iv.length n = 0 := by unfold strErr; rw [if_pos hc, if_neg (by omega)]
  obtain ⟨m, rfl⟩ := Int.eq_ofNat_of_zero_le (show 0 ≤ n by omega)
  have hkl : (keysS key).length = 176 ∨ (keysS key).length = 240 := by rw [keysS_len q0]; split <;> omega
  rw [if_neg q4, hK 2100, Option.bind_some, refTable _ (by omega), Option.bind_some, e, if_pos rfl, Int.toNat_natCast]
  have := refStream_l (keysS key) salt iv m ((m + 15) / 16) (kk + 99 - (m + 15) / 16) hkl (keysS_byt bk) (by omega) (by omega) bs bi rfl (by omega) ((m + 15) / 16) (Nat.le_refl _)
  rw [Nat.sub_self, show 2000 + (m + 15) / 16 + 1 + (kk + 99 - (m + 15) / 16) = kk + 2100 by omega] at this
  exact this
theorem refTurn_l (bs zs : List Int) (hz : zs.length = bs.length) (bb : Byt bs) (bz : Byt zs) (hl : bs.length ≤ 400) : ∀ (n j : Nat) (xs : List Int), n ≤ bs.length → xs.length = bs.length → redoubtref09_Turn.l0 (n + 1 + j) bs zs xs ((bs.length - n : Nat) : Int) = some (fillL (fun i => bx (zs.getD i 0) (bs.getD i 0)) bs.length n xs, 0)
  | 0, j, xs, _, _ => by
    rw [show 0 + 1 + j = j + 1 by omega, redoubtref09_Turn.l0, if_neg (by omega)]
    rfl
  | n + 1, j, xs, h, hx => by
    rw [show n + 1 + 1 + j = (n + 1 + j) + 1 by omega, redoubtref09_Turn.l0, if_pos (by omega), if_pos (by omega), if_pos (by omega), if_pos (by omega), wrap64_suc _ (by omega), rd_nat, rd_nat, k_xor_u8 _ _ (byt_get bb _) (byt_get bz _), bx_comm, show bs.length - (n + 1) + 1 = bs.length - n by omega, Int.toNat_natCast, fillL]
    exact refTurn_l bs zs hz bb bz hl n j _ (by omega) (by rw [List.length_set]; exact hx)
theorem fillL_get (f : Nat → Int) (N : Nat) : ∀ (n : Nat) (xs : List Int), n ≤ N → xs.length = N → ∀ i, i < N → (fillL f N n xs).getD i 0 = if N - n ≤ i then f i else xs.getD i 0
  | 0, xs, _, hx, i, hi => by rw [fillL, if_neg (by omega)]
  | n + 1, xs, hn, hx, i, hi => by
    rw [fillL, fillL_get f N n _ (by omega) (by rw [List.length_set]; exact hx) i hi, get_set _ _ _ _ (by omega)]
    by_cases h1 : N - n ≤ i
    · rw [if_pos h1, if_pos (by omega)]
    · rw [if_neg h1]
      by_cases h2 : i = N - (n + 1)
      · rw [if_pos h2, if_pos (by omega), h2]
      · rw [if_neg h2, if_neg (by omega)]
theorem refTurn (key salt iv bs : List Int) (bk : Byt key) (b1 : Byt salt) (b2 : Byt iv) (bb : Byt bs) (hl : bs.length ≤ 400) (hz : strErr key.length salt.length iv.length (bs.length : Int) = 0 → Byt (strmS key salt iv bs.length)) :
    ∃ k, redoubtref09_Turn.f k key salt iv bs = some (if strErr key.length salt.length iv.length (bs.length : Int) = 0 then xorS (strmS key salt iv bs.length) bs else [], strErr key.length salt.length iv.length (bs.length : Int)) := by
  obtain ⟨k, hk⟩ := refStream key salt iv (bs.length : Int) bk b1 b2 (.inl (by omega))
  have hkj : ∀ j, redoubtref09_Stream.f (k + j) key salt iv (bs.length : Int) = some (if strErr key.length salt.length iv.length (bs.length : Int) = 0 then strmS key salt iv (bs.length : Int).toNat else [], strErr key.length salt.length iv.length (bs.length : Int)) := fun j => by
    induction j with
    | zero => exact hk
    | succ j ih => exact redoubtref09_Stream.mono _ _ _ _ _ _ ih
  refine ⟨k + 401, ?_⟩
  unfold redoubtref09_Turn.f
  rw [hkj 401, Option.bind_some, Int.toNat_natCast]
  by_cases hE : strErr key.length salt.length iv.length (bs.length : Int) = 0
  · have hb := hz hE
    simp only [hE, if_true]
    rw [if_pos (by omega), if_pos (by omega)]
    have := refTurn_l bs (strmS key salt iv bs.length) (strmS_len _ _ _ _) bb hb hl bs.length (k + 400 - bs.length) (List.replicate bs.length 0) (Nat.le_refl _) (by rw [List.length_replicate])
    rw [Nat.sub_self, show bs.length + 1 + (k + 400 - bs.length) = k + 401 by omega] at this
    refine this.trans ?_
    have hfl : (fillL (fun i => bx ((strmS key salt iv bs.length).getD i 0) (bs.getD i 0)) bs.length bs.length (List.replicate bs.length 0)).length = bs.length := by rw [fillL_len, List.length_replicate]
    rw [xorS_of (strmS key salt iv bs.length) bs (fillL (fun i => bx ((strmS key salt iv bs.length).getD i 0) (bs.getD i 0)) bs.length bs.length (List.replicate bs.length 0)) (by rw [strmS_len, hfl]) hfl.symm (fun i hi => by
      rw [fillL_get _ _ _ _ (Nat.le_refl _) (by rw [List.length_replicate]) i (by omega), if_pos (by omega)])]
  · simp only [hE, if_false]
theorem ctrAll_byt {ks salt iv : List Int} (bk : Byt ks) (bs : Byt salt) (bi : Byt iv) : ∀ n, n ≤ 100000 → Byt (ctrAll ks salt iv n)
  | 0, _ => byt_nil
  | n + 1, h => byt_append.2 ⟨ctrAll_byt bk bs bi n (by omega), blockS_byt bk (byt_append.2 ⟨bs, byt_append.2 ⟨bi, cntFour_byt (by omega) (by omega)⟩⟩)⟩
theorem strmS_byt {key salt iv : List Int} (bk : Byt key) (bs : Byt salt) (bi : Byt iv) (n : Nat) (hn : n ≤ 100000) : Byt (strmS key salt iv n) := byt_take (ctrAll_byt (keysS_byt bk) bs bi _ (by omega)) n
end Go.Proofs.Ytgkphopdmkfcgaa

namespace Go.Proofs.Ytgkphopdmkfcgaa
open Go.RowKit Go.Proofs.YtgkphopdmkfcgaaW.PrintWords Go.Proofs.Ytgkphopdmkfcgaa.PCtrTurns

theorem Bts.toC {w : World} {A : Option Addr} {n c : Nat} {xs : List Int} (h : Bts w A n c xs) : Kd.C (Kd.int .u8) w A n xs := Kd.C_of_reads (d := 0) h.rd
theorem reads_move {w W : World} {A : Option Addr} {n : Nat} {xs : List Int} (h : ReadsInt w .u8 A n xs) (hm : ∀ k, k < w.heap.size → W.heap[k]? = w.heap[k]?) : ReadsInt W .u8 A n xs := by
  refine ⟨h.1, h.2.1, fun hn => ?_⟩
  obtain ⟨ad, e, hc⟩ := h.2.2 hn
  refine ⟨ad, e, fun j hj => ?_⟩
  have hj' := hc j hj
  exact (World.cell?_of_block (hm _ (World.block_lt_of_cell? w _ hj'))).trans hj'
theorem Bts.toV {w : World} {A : Option Addr} {c : Nat} {xs : List Int} (e base : Nat) (h : Bts w A xs.length c xs) : Kd.V (Kd.int .u8) e w base (fun _ => True) (.slice A xs.length c) xs :=
  Kd.V_mk h.le (fun _ hW => Kd.C_of_reads (d := 0) (reads_move h.rd (fun k hk => hW k trivial hk)))
theorem OwnB.ofR {w : World} {base : Nat} {ok : Nat → Prop} {v : Value} {xs : List Int} (h : Kd.R (Kd.int .u8) 5 w base ok v xs) (hb : Byt xs) (hm : xs.length ≤ 140737488355328) : OwnB w base v xs := ⟨Kd.own_of_R h, hm, hb⟩
/-- What a call hands back, read. -/
def TwoPost (E : Int) (X : List Int) (w : World) (e : Ending) (w' : World) : Prop := ∃ A n c, e = .returned (.tuple #[.slice A n c, .int .i64 E]) ∧ Bts w' A n c X ∧ Below w.heap.size w w'
theorem OwnPost.two {err : Int} {bs : List Int} {w : World} {e : Ending} {w' : World} (h : OwnPost err bs w e w') : TwoPost err (if err = 0 then bs else []) w e w' := by
  obtain ⟨A, n, c, he, ho, hB⟩ := h
  exact ⟨A, n, c, he, ho.sl, hB⟩
theorem ref09_Counter (A : Option Addr) (a c : Nat) (xs : List Int) (B : Option Addr) (b d : Nat) (ys : List Int) (n : Int) (w : World) (hn : I64 n) (h : Bts w A a c xs) (h2 : Bts w B b d ys) (hb : Byt (if cntErr a b n = 0 then cntS xs ys n else [])) :
    Calls Try.prog 10 #[.slice A a c, .slice B b d, .int .i64 n] w (TwoPost (cntErr a b n) (if cntErr a b n = 0 then cntS xs ys n else []) w) := by
  obtain rfl := h.len
  obtain rfl := h2.len
  refine (redoubtref09_Counter.calls 5 (fun _ => True) A c xs (fun _ => True) B d ys n _ _ w (h.toV _ _) (h2.toV _ _) (refCounter 0 xs ys n hn)).mono ?_
  rintro e w' ⟨v, rfl, hR, hB⟩
  have hl : (if cntErr xs.length ys.length n = 0 then cntS xs ys n else []).length ≤ 140737488355328 := by
    split
    · next q =>
      have hk : cntOk xs.length ys.length n := by
        by_cases hk : cntOk xs.length ys.length n
        · exact hk
        · unfold cntErr at q; rw [if_neg hk] at q; cases q
      rw [cntS_len _ hk.1 hk.2.1]; omega
    · simp
  obtain ⟨A', n', c', rfl, t⟩ := (OwnB.ofR hR hb hl).bts
  exact ⟨A', n', c', rfl, t, hB⟩
theorem ref09_Stream (A : Option Addr) (a c : Nat) (xs : List Int) (B : Option Addr) (b d : Nat) (ys : List Int) (C : Option Addr) (e f : Nat) (zs : List Int) (n : Int) (w : World) (h : Bts w A a c xs) (h2 : Bts w B b d ys) (h3 : Bts w C e f zs) (hn : n ≤ 400 ∨ 65536 < n)
    (hb : Byt (if strErr a b e n = 0 then strmS xs ys zs n.toNat else [])) :
    Calls Try.prog 12 #[.slice A a c, .slice B b d, .slice C e f, .int .i64 n] w (TwoPost (strErr a b e n) (if strErr a b e n = 0 then strmS xs ys zs n.toNat else []) w) := by
  obtain rfl := h.len
  obtain rfl := h2.len
  obtain rfl := h3.len
  obtain ⟨k, hk⟩ := refStream xs ys zs n h.byt h2.byt h3.byt hn
  refine (redoubtref09_Stream.calls k A c xs B d ys C f zs n _ _ w h.toC h.le h2.toC h2.le h3.toC h3.le hk).mono ?_
  rintro e w' ⟨v, rfl, hR, hB⟩
  have hl : (if strErr xs.length ys.length zs.length n = 0 then strmS xs ys zs n.toNat else []).length ≤ 140737488355328 := by
    split
    · next q =>
      rw [strmS_len]
      rcases hn with hn | hn
      · omega
      · exfalso
        unfold strErr at q
        split at q
        · first
            | omega
            | (rw [if_pos hn] at q; omega)
        · omega
    · simp
  obtain ⟨A', n', c', rfl, t⟩ := (OwnB.ofR hR hb hl).bts
  exact ⟨A', n', c', rfl, t, hB⟩
theorem ref09_Turn (A : Option Addr) (a c : Nat) (xs : List Int) (B : Option Addr) (b d : Nat) (ys : List Int) (C : Option Addr) (e f : Nat) (zs : List Int) (D : Option Addr) (m k : Nat) (bs : List Int) (w : World) (h : Bts w A a c xs) (h2 : Bts w B b d ys) (h3 : Bts w C e f zs) (h4 : Bts w D m k bs) (hm : m ≤ 400)
    (hz : strErr a b e (m : Int) = 0 → Byt (strmS xs ys zs m)) (hb : Byt (if strErr a b e (m : Int) = 0 then xorS (strmS xs ys zs m) bs else [])) :
    Calls Try.prog 14 #[.slice A a c, .slice B b d, .slice C e f, .slice D m k] w (TwoPost (strErr a b e (m : Int)) (if strErr a b e (m : Int) = 0 then xorS (strmS xs ys zs m) bs else []) w) := by
  obtain rfl := h.len
  obtain rfl := h2.len
  obtain rfl := h3.len
  obtain rfl := h4.len
  obtain ⟨q, hq⟩ := refTurn xs ys zs bs h.byt h2.byt h3.byt h4.byt hm hz
  refine (redoubtref09_Turn.calls q A c xs B d ys C f zs D k bs _ _ w h.toC h.le h2.toC h2.le h3.toC h3.le h4.toC h4.le hq).mono ?_
  rintro e w' ⟨v, rfl, hR, hB⟩
  have hl : (if strErr xs.length ys.length zs.length (bs.length : Int) = 0 then xorS (strmS xs ys zs bs.length) bs else []).length ≤ 140737488355328 := by
    split
    · rw [xorS_len (strmS_len _ _ _ _)]; omega
    · simp
  obtain ⟨A', n', c', rfl, t⟩ := (OwnB.ofR hR hb hl).bts
  exact ⟨A', n', c', rfl, t, hB⟩





set_option maxHeartbeats 4000000 in
theorem CtrTurns_any (A : Option Addr) (a c : Nat) (xs : List Int) (B : Option Addr) (b d : Nat) (ys : List Int) (C : Option Addr) (e f : Nat) (zs : List Int) (D : Option Addr) (m k : Nat) (bs : List Int) (n : Int) (w : World)
    (h : Bts w A a c xs) (h2 : Bts w B b d ys) (h3 : Bts w C e f zs) (h4 : Bts w D m k bs) (hn : I64 n) :
    Calls Try.prog 3 #[.slice A a c, .slice B b d, .slice C e f, .slice D m k, .int .i64 n] w fun q w' => q = .returned (.bool true) ∧ Below w.heap.size w w' := by
  have ha := h.max
  have hb := h2.max
  have he := h3.max
  have hm := h4.max
  go_enter Try.func3, Try.ntmps3
  go_wp2_with fail
  refine (law09_few A a c B b d C e f _ ha hb he).mono ?_
  rintro e w' ⟨rfl, rfl⟩
  by_cases q1 : fewB a b e = true
  case neg =>
    rw [show fewB a b e = false from Bool.eq_false_iff.2 q1]
    go_wp2
    go_ret
    exact ⟨rfl, Below.refl _ _⟩
  rw [q1]
  by_cases q2 : 400 < m
  · have d2 : decide ((400 : Int) < (m : Int)) = true := decide_eq_true (by omega)
    have d2' : decide (400 < m) = true := decide_eq_true q2
    go_wp2
    go_ret
    exact ⟨rfl, Below.refl _ _⟩
  have d2 : decide ((400 : Int) < (m : Int)) = false := decide_eq_false (by omega)
  have d2' : decide (400 < m) = false := decide_eq_false q2
  by_cases q3 : 400 < n ∧ n ≤ 65536
  · have d3 : decide ((400 : Int) < n) = true := decide_eq_true q3.1
    have d4 : decide (n ≤ 65536) = true := decide_eq_true q3.2
    go_wp2
    go_ret
    exact ⟨rfl, Below.refl _ _⟩
  have hB := Below.refl w.heap.size w
  have hn4 : n ≤ 400 ∨ 65536 < n := by omega
  replace q1 := Lib.hid q1
  have hx4 : Hid (bs.length ≤ 400) := Lib.hid (by rw [h4.len]; omega)
  have hl4 := Lib.hid h4.len
  obtain ⟨E1, hE1⟩ : ∃ E, cntErr b e n = E := ⟨_, rfl⟩
  obtain ⟨E2, hE2⟩ : ∃ E, strErr a b e n = E := ⟨_, rfl⟩
  obtain ⟨E3, hE3⟩ : ∃ E, strErr a b e (m : Int) = E := ⟨_, rfl⟩
  obtain ⟨X1, hX1⟩ : ∃ X, (if E1 = 0 then cntS ys zs n else []) = X := ⟨_, rfl⟩
  obtain ⟨X2, hX2⟩ : ∃ X, (if E2 = 0 then strmS xs ys zs n.toNat else []) = X := ⟨_, rfl⟩
  obtain ⟨X3, hX3⟩ : ∃ X, (if E3 = 0 then xorS (strmS xs ys zs m) bs else []) = X := ⟨_, rfl⟩
  replace hE1 := Lib.hid hE1
  replace hE2 := Lib.hid hE2
  replace hE3 := Lib.hid hE3
  replace hX1 := Lib.hid hX1
  replace hX2 := Lib.hid hX2
  replace hX3 := Lib.hid hX3
  have hsz := Lib.hid (strmS_byt h.byt h2.byt h3.byt m (by omega))
  by_cases q5 : 400 < n
  · have d3 : decide ((400 : Int) < n) = true := decide_eq_true q5
    have d4 : decide (n ≤ 65536) = false := decide_eq_false (by omega)
    go_wp2_with fail
    refine (ref01_Both _ _ _ [bs] _ (Rws.one _ _ _ rfl h4) (by simp; have := hx4.out; omega)).mono ?_
    rintro e w1 ⟨vw1, rfl, oko, hB2⟩
    obtain ⟨B1, n1, p1, rfl, ko⟩ := oko.bts
    replace oko := Lib.hid oko
    replace hB2 := below_step2 (w := w) (by repeat (first | exact Below.refl _ _ | apply below_alloc | apply below_drew | apply pw_below_drewN)) hB2
    replace h := h.below hB2
    replace h2 := h2.below hB2
    replace h3 := h3.below hB2
    replace h4 := h4.below hB2
    replace hB := below_step2 hB hB2
    clear hB2
    simp only [List.flatten_cons, List.flatten_nil, List.append_nil] at ko oko
    clear oko
    obtain rfl : n1 = m := by have := ko.len; have := hl4.out; omega
    go_wp2_with fail
    refine ((ctr_Counter _ _ _ _ _ _ _ _ n w1 hn h2 h3).mono (fun _ _ q => q.two)).mono ?_
    rintro q w2 ⟨A2, n2, c2, rfl, t2, hB2⟩
    rw [hE1.out, hX1.out] at t2
    rw [hE1.out]
    replace h := h.below hB2
    replace h2 := h2.below hB2
    replace h3 := h3.below hB2
    replace h4 := h4.below hB2
    replace ko := ko.below hB2
    replace hB := below_step2 hB hB2
    clear hB2
    go_wp2_with fail
    refine ((ref09_Counter _ _ _ _ _ _ _ _ n w2 hn h2 h3 (by rw [hE1.out, hX1.out]; exact t2.byt))).mono ?_
    rintro q w3 ⟨A3, n3, c3, rfl, t3, hB2⟩
    rw [hE1.out, hX1.out] at t3
    rw [hE1.out]
    replace t2 := t2.below hB2
    replace h := h.below hB2
    replace h2 := h2.below hB2
    replace h3 := h3.below hB2
    replace h4 := h4.below hB2
    replace ko := ko.below hB2
    replace hB := below_step2 hB hB2
    clear hB2
    go_wp2_with fail
    refine ((ctr_Stream _ _ _ _ _ _ _ _ _ _ _ _ n w3 h h2 h3).mono (fun _ _ q => q.two)).mono ?_
    rintro q w4 ⟨A4, n4, c4, rfl, t4, hB2⟩
    rw [hE2.out, hX2.out] at t4
    rw [hE2.out]
    replace t2 := t2.below hB2
    replace t3 := t3.below hB2
    replace h := h.below hB2
    replace h2 := h2.below hB2
    replace h3 := h3.below hB2
    replace h4 := h4.below hB2
    replace ko := ko.below hB2
    replace hB := below_step2 hB hB2
    clear hB2
    go_wp2_with fail
    refine ((ref09_Stream _ _ _ _ _ _ _ _ _ _ _ _ n w4 h h2 h3 hn4 (by rw [hE2.out, hX2.out]; exact t4.byt))).mono ?_
    rintro q w5 ⟨A5, n5, c5, rfl, t5, hB2⟩
    rw [hE2.out, hX2.out] at t5
    rw [hE2.out]
    replace t2 := t2.below hB2
    replace t3 := t3.below hB2
    replace t4 := t4.below hB2
    replace h := h.below hB2
    replace h2 := h2.below hB2
    replace h3 := h3.below hB2
    replace h4 := h4.below hB2
    replace ko := ko.below hB2
    replace hB := below_step2 hB hB2
    clear hB2
    go_wp2_with fail
    refine ((ctr_Turn _ _ _ _ _ _ _ _ _ _ _ _ _ _ _ _ w5 h h2 h3 ko).mono (fun _ _ q => q.two)).mono ?_
    rintro q w6 ⟨A6, n6, c6, rfl, t6, hB2⟩
    rw [hE3.out, hX3.out] at t6
    rw [hE3.out]
    replace t2 := t2.below hB2
    replace t3 := t3.below hB2
    replace t4 := t4.below hB2
    replace t5 := t5.below hB2
    replace h := h.below hB2
    replace h2 := h2.below hB2
    replace h3 := h3.below hB2
    replace h4 := h4.below hB2
    replace ko := ko.below hB2
    replace hB := below_step2 hB hB2
    clear hB2
    go_wp2_with fail
    refine ((ref09_Turn _ _ _ _ _ _ _ _ _ _ _ _ _ _ _ _ w6 h h2 h3 h4 (by have := hx4.out; have := hl4.out; omega) (fun _ => hsz.out) (by rw [hE3.out, hX3.out]; exact t6.byt))).mono ?_
    rintro q w7 ⟨A7, n7, c7, rfl, t7, hB2⟩
    rw [hE3.out, hX3.out] at t7
    rw [hE3.out]
    replace t2 := t2.below hB2
    replace t3 := t3.below hB2
    replace t4 := t4.below hB2
    replace t5 := t5.below hB2
    replace t6 := t6.below hB2
    replace h := h.below hB2
    replace h2 := h2.below hB2
    replace h3 := h3.below hB2
    replace h4 := h4.below hB2
    replace ko := ko.below hB2
    replace hB := below_step2 hB hB2
    clear hB2
    clear hE1 hE2 hE3 hX1 hX2 hX3 h h2 h3
    go_wp2_with fail
    refine (awake09 _).mono ?_
    rintro q w8 ⟨rfl, hB2⟩
    have r1 := (ko.below hB2).run_string (P := Try.prog) 22 9 Try.underlying22 Try.underlying5 Try.underlying9
    have r2 := (h4.below hB2).run_string (P := Try.prog) 22 9 Try.underlying22 Try.underlying5 Try.underlying9
    have r3 := (t2.below hB2).run_string (P := Try.prog) 22 9 Try.underlying22 Try.underlying5 Try.underlying9
    have r4 := (t3.below hB2).run_string (P := Try.prog) 22 9 Try.underlying22 Try.underlying5 Try.underlying9
    have r5 := (t4.below hB2).run_string (P := Try.prog) 22 9 Try.underlying22 Try.underlying5 Try.underlying9
    have r6 := (t5.below hB2).run_string (P := Try.prog) 22 9 Try.underlying22 Try.underlying5 Try.underlying9
    have r7 := (t6.below hB2).run_string (P := Try.prog) 22 9 Try.underlying22 Try.underlying5 Try.underlying9
    have r8 := (t7.below hB2).run_string (P := Try.prog) 22 9 Try.underlying22 Try.underlying5 Try.underlying9
    replace hB := below_step2 hB hB2
    generalize strOfNums bs = s0 at r1 r2
    generalize strOfNums X1 = s1 at r3 r4
    generalize strOfNums X2 = s2 at r5 r6
    generalize strOfNums X3 = s3 at r7 r8
    clear t2 t3 t4 t5 t6 t7 ko h4 hB2
    go_wp2
    go_ret
    exact ⟨rfl, hB⟩
  · have d3 : decide ((400 : Int) < n) = false := decide_eq_false q5
    go_wp2_with fail
    refine (ref01_Both _ _ _ [bs] _ (Rws.one _ _ _ rfl h4) (by simp; have := hx4.out; omega)).mono ?_
    rintro e w1 ⟨vw1, rfl, oko, hB2⟩
    obtain ⟨B1, n1, p1, rfl, ko⟩ := oko.bts
    replace oko := Lib.hid oko
    replace hB2 := below_step2 (w := w) (by repeat (first | exact Below.refl _ _ | apply below_alloc | apply below_drew | apply pw_below_drewN)) hB2
    replace h := h.below hB2
    replace h2 := h2.below hB2
    replace h3 := h3.below hB2
    replace h4 := h4.below hB2
    replace hB := below_step2 hB hB2
    clear hB2
    simp only [List.flatten_cons, List.flatten_nil, List.append_nil] at ko oko
    clear oko
    obtain rfl : n1 = m := by have := ko.len; have := hl4.out; omega
    go_wp2_with fail
    refine ((ctr_Counter _ _ _ _ _ _ _ _ n w1 hn h2 h3).mono (fun _ _ q => q.two)).mono ?_
    rintro q w2 ⟨A2, n2, c2, rfl, t2, hB2⟩
    rw [hE1.out, hX1.out] at t2
    rw [hE1.out]
    replace h := h.below hB2
    replace h2 := h2.below hB2
    replace h3 := h3.below hB2
    replace h4 := h4.below hB2
    replace ko := ko.below hB2
    replace hB := below_step2 hB hB2
    clear hB2
    go_wp2_with fail
    refine ((ref09_Counter _ _ _ _ _ _ _ _ n w2 hn h2 h3 (by rw [hE1.out, hX1.out]; exact t2.byt))).mono ?_
    rintro q w3 ⟨A3, n3, c3, rfl, t3, hB2⟩
    rw [hE1.out, hX1.out] at t3
    rw [hE1.out]
    replace t2 := t2.below hB2
    replace h := h.below hB2
    replace h2 := h2.below hB2
    replace h3 := h3.below hB2
    replace h4 := h4.below hB2
    replace ko := ko.below hB2
    replace hB := below_step2 hB hB2
    clear hB2
    go_wp2_with fail
    refine ((ctr_Stream _ _ _ _ _ _ _ _ _ _ _ _ n w3 h h2 h3).mono (fun _ _ q => q.two)).mono ?_
    rintro q w4 ⟨A4, n4, c4, rfl, t4, hB2⟩
    rw [hE2.out, hX2.out] at t4
    rw [hE2.out]
    replace t2 := t2.below hB2
    replace t3 := t3.below hB2
    replace h := h.below hB2
    replace h2 := h2.below hB2
    replace h3 := h3.below hB2
    replace h4 := h4.below hB2
    replace ko := ko.below hB2
    replace hB := below_step2 hB hB2
    clear hB2
    go_wp2_with fail
    refine ((ref09_Stream _ _ _ _ _ _ _ _ _ _ _ _ n w4 h h2 h3 hn4 (by rw [hE2.out, hX2.out]; exact t4.byt))).mono ?_
    rintro q w5 ⟨A5, n5, c5, rfl, t5, hB2⟩
    rw [hE2.out, hX2.out] at t5
    rw [hE2.out]
    replace t2 := t2.below hB2
    replace t3 := t3.below hB2
    replace t4 := t4.below hB2
    replace h := h.below hB2
    replace h2 := h2.below hB2
    replace h3 := h3.below hB2
    replace h4 := h4.below hB2
    replace ko := ko.below hB2
    replace hB := below_step2 hB hB2
    clear hB2
    go_wp2_with fail
    refine ((ctr_Turn _ _ _ _ _ _ _ _ _ _ _ _ _ _ _ _ w5 h h2 h3 ko).mono (fun _ _ q => q.two)).mono ?_
    rintro q w6 ⟨A6, n6, c6, rfl, t6, hB2⟩
    rw [hE3.out, hX3.out] at t6
    rw [hE3.out]
    replace t2 := t2.below hB2
    replace t3 := t3.below hB2
    replace t4 := t4.below hB2
    replace t5 := t5.below hB2
    replace h := h.below hB2
    replace h2 := h2.below hB2
    replace h3 := h3.below hB2
    replace h4 := h4.below hB2
    replace ko := ko.below hB2
    replace hB := below_step2 hB hB2
    clear hB2
    go_wp2_with fail
    refine ((ref09_Turn _ _ _ _ _ _ _ _ _ _ _ _ _ _ _ _ w6 h h2 h3 h4 (by have := hx4.out; have := hl4.out; omega) (fun _ => hsz.out) (by rw [hE3.out, hX3.out]; exact t6.byt))).mono ?_
    rintro q w7 ⟨A7, n7, c7, rfl, t7, hB2⟩
    rw [hE3.out, hX3.out] at t7
    rw [hE3.out]
    replace t2 := t2.below hB2
    replace t3 := t3.below hB2
    replace t4 := t4.below hB2
    replace t5 := t5.below hB2
    replace t6 := t6.below hB2
    replace h := h.below hB2
    replace h2 := h2.below hB2
    replace h3 := h3.below hB2
    replace h4 := h4.below hB2
    replace ko := ko.below hB2
    replace hB := below_step2 hB hB2
    clear hB2
    clear hE1 hE2 hE3 hX1 hX2 hX3 h h2 h3
    go_wp2_with fail
    refine (awake09 _).mono ?_
    rintro q w8 ⟨rfl, hB2⟩
    have r1 := (ko.below hB2).run_string (P := Try.prog) 22 9 Try.underlying22 Try.underlying5 Try.underlying9
    have r2 := (h4.below hB2).run_string (P := Try.prog) 22 9 Try.underlying22 Try.underlying5 Try.underlying9
    have r3 := (t2.below hB2).run_string (P := Try.prog) 22 9 Try.underlying22 Try.underlying5 Try.underlying9
    have r4 := (t3.below hB2).run_string (P := Try.prog) 22 9 Try.underlying22 Try.underlying5 Try.underlying9
    have r5 := (t4.below hB2).run_string (P := Try.prog) 22 9 Try.underlying22 Try.underlying5 Try.underlying9
    have r6 := (t5.below hB2).run_string (P := Try.prog) 22 9 Try.underlying22 Try.underlying5 Try.underlying9
    have r7 := (t6.below hB2).run_string (P := Try.prog) 22 9 Try.underlying22 Try.underlying5 Try.underlying9
    have r8 := (t7.below hB2).run_string (P := Try.prog) 22 9 Try.underlying22 Try.underlying5 Try.underlying9
    replace hB := below_step2 hB hB2
    generalize strOfNums bs = s0 at r1 r2
    generalize strOfNums X1 = s1 at r3 r4
    generalize strOfNums X2 = s2 at r5 r6
    generalize strOfNums X3 = s3 at r7 r8
    clear t2 t3 t4 t5 t6 t7 ko h4 hB2
    go_wp2
    go_ret
    exact ⟨rfl, hB⟩
end Go.Proofs.Ytgkphopdmkfcgaa

namespace Go.Proofs.Ytgkphopdmkfcgaa.ctrTurns
open Go.ChangeShapes Go.WideShapes Go.ChangeAt Go.RowKit
open Go.ChangeMaps (open_string shut_string)
open Go.Proofs.YtgkphopdmkfcgaaW.PrintWords (sized_ints)
set_option linter.unusedVariables false
set_option maxRecDepth 100000 in
theorem lifted (os : Os) (started : os.Started) (H : Type) (enc : TypeId × Value → H) :
    ReturnsInHanded {} Try.checked os 3 .any (Rows.ctrTurnsSpec.pre6 enc Try.prog Try.f3 Rows.ctrTurnsRow.domain false) (Rows.ctrTurnsSpec.post enc Try.prog Try.f3 false true false false) := by
  refine returnsInHanded_of_change_sized (C := Try.checked) own started (by kernel_rfl) Try.func3
    (ChangeSpec.witness6 (enc := enc) (C := Try.checked) false ⟨#[], #[.slice none 0 0, .slice none 0 0, .slice none 0 0, .slice none 0 0, .int .i64 0], []⟩ 8 (by kernel_rfl) (by kernel_rfl) (by kernel_rfl) (by kernel_rfl)) ?_
  intro W base args ds gs before hval0 hW hcnd hsz0 _
  have hsz : (DataW.weightsEach Try.prog (Try.f3.params.toList ++ Rows.ctrTurnsSpec.plain.varTypes Try.prog) (ds ++ gs)).all (· ≤ reachBytes) = true := hsz0
  have hval : ∀ (j : Nat) t v, Try.f3.params[j]? = some t → args[j]? = some v → Value.okWide Try.prog W .any base t v := hval0
  have hW' := hW
  obtain ⟨p, q, hA0, hV, rfl, hfz, hnd⟩ := hW
  have hA : DataW.TrodAll enc Try.prog W 0 (fun _ => true) true Try.f3.params.toList args.toList ds p := hA0
  rw [Try.params3] at hA hval hsz
  obtain ⟨v0, vs0, d0, ds0, p0, q0, hargs, rfl, rfl, h0, r0⟩ := trodAll_cons hA
  obtain ⟨v1, vs1, d1, ds1, p1, q1, rfl, rfl, rfl, h1, r1⟩ := trodAll_cons r0
  obtain ⟨v2, vs2, d2, ds2, p2, q2, rfl, rfl, rfl, h2, r2⟩ := trodAll_cons r1
  obtain ⟨v3, vs3, d3, ds3, p3, q3, rfl, rfl, rfl, h3, r3⟩ := trodAll_cons r2
  obtain ⟨v4, vs4, d4, ds4, p4, q4, rfl, rfl, rfl, h4, r4⟩ := trodAll_cons r3
  obtain ⟨rfl, rfl, rfl⟩ := trodAll_nil r4
  obtain rfl : args = #[v0, v1, v2, v3, v4] := by cases args; simp_all
  obtain ⟨rfl, rfl⟩ := trodVars_none hV
  obtain ⟨a0, len0, cap0, rfl⟩ := okWide_slice Try.underlying22 (hval 0 22 v0 rfl rfl)
  have k0 := h0
  have lt0 : ∀ x ∈ p0, x.block < W.heap.size := by obtain ⟨m, hm⟩ := k0; exact DataW.trod_lt m _ _ _ hm
  obtain ⟨z0, w0⟩ : ∃ zs, IsRow .u8 W a0 len0 cap0 zs := by
    obtain ⟨fuel, hf⟩ := h0
    rcases open_ints Try.underlying22 Try.underlying5 (by kernel_rfl) hf with ⟨hcs, _⟩ | ⟨x, l, c, zs, hcs, _, hl, hm, hz, _, hcell, hwz⟩
    · simp [Value.cells] at hcs
      obtain ⟨rfl, rfl, rfl⟩ := hcs
      exact ⟨[], .inl ⟨rfl, rfl, rfl, rfl⟩⟩
    · simp [Value.cells] at hcs
      obtain ⟨rfl, rfl, rfl⟩ := hcs
      exact ⟨zs, .inr ⟨_, rfl, hl, hm, by simpa using hz, hcell, hwz⟩⟩
  have y0 : len0 * 1 ≤ 140737488351232 := sized_ints hsz (j := 0) (t := 22) rfl rfl Try.underlying22 Try.underlying5 (by kernel_rfl) (by kernel_rfl) h0
  obtain ⟨a1, len1, cap1, rfl⟩ := okWide_slice Try.underlying22 (hval 1 22 v1 rfl rfl)
  have k1 := h1
  have lt1 : ∀ x ∈ p1, x.block < W.heap.size := by obtain ⟨m, hm⟩ := k1; exact DataW.trod_lt m _ _ _ hm
  obtain ⟨z1, w1⟩ : ∃ zs, IsRow .u8 W a1 len1 cap1 zs := by
    obtain ⟨fuel, hf⟩ := h1
    rcases open_ints Try.underlying22 Try.underlying5 (by kernel_rfl) hf with ⟨hcs, _⟩ | ⟨x, l, c, zs, hcs, _, hl, hm, hz, _, hcell, hwz⟩
    · simp [Value.cells] at hcs
      obtain ⟨rfl, rfl, rfl⟩ := hcs
      exact ⟨[], .inl ⟨rfl, rfl, rfl, rfl⟩⟩
    · simp [Value.cells] at hcs
      obtain ⟨rfl, rfl, rfl⟩ := hcs
      exact ⟨zs, .inr ⟨_, rfl, hl, hm, by simpa using hz, hcell, hwz⟩⟩
  have y1 : len1 * 1 ≤ 140737488351232 := sized_ints hsz (j := 1) (t := 22) rfl rfl Try.underlying22 Try.underlying5 (by kernel_rfl) (by kernel_rfl) h1
  obtain ⟨a2, len2, cap2, rfl⟩ := okWide_slice Try.underlying22 (hval 2 22 v2 rfl rfl)
  have k2 := h2
  have lt2 : ∀ x ∈ p2, x.block < W.heap.size := by obtain ⟨m, hm⟩ := k2; exact DataW.trod_lt m _ _ _ hm
  obtain ⟨z2, w2⟩ : ∃ zs, IsRow .u8 W a2 len2 cap2 zs := by
    obtain ⟨fuel, hf⟩ := h2
    rcases open_ints Try.underlying22 Try.underlying5 (by kernel_rfl) hf with ⟨hcs, _⟩ | ⟨x, l, c, zs, hcs, _, hl, hm, hz, _, hcell, hwz⟩
    · simp [Value.cells] at hcs
      obtain ⟨rfl, rfl, rfl⟩ := hcs
      exact ⟨[], .inl ⟨rfl, rfl, rfl, rfl⟩⟩
    · simp [Value.cells] at hcs
      obtain ⟨rfl, rfl, rfl⟩ := hcs
      exact ⟨zs, .inr ⟨_, rfl, hl, hm, by simpa using hz, hcell, hwz⟩⟩
  have y2 : len2 * 1 ≤ 140737488351232 := sized_ints hsz (j := 2) (t := 22) rfl rfl Try.underlying22 Try.underlying5 (by kernel_rfl) (by kernel_rfl) h2
  obtain ⟨a3, len3, cap3, rfl⟩ := okWide_slice Try.underlying22 (hval 3 22 v3 rfl rfl)
  have k3 := h3
  have lt3 : ∀ x ∈ p3, x.block < W.heap.size := by obtain ⟨m, hm⟩ := k3; exact DataW.trod_lt m _ _ _ hm
  obtain ⟨z3, w3⟩ : ∃ zs, IsRow .u8 W a3 len3 cap3 zs := by
    obtain ⟨fuel, hf⟩ := h3
    rcases open_ints Try.underlying22 Try.underlying5 (by kernel_rfl) hf with ⟨hcs, _⟩ | ⟨x, l, c, zs, hcs, _, hl, hm, hz, _, hcell, hwz⟩
    · simp [Value.cells] at hcs
      obtain ⟨rfl, rfl, rfl⟩ := hcs
      exact ⟨[], .inl ⟨rfl, rfl, rfl, rfl⟩⟩
    · simp [Value.cells] at hcs
      obtain ⟨rfl, rfl, rfl⟩ := hcs
      exact ⟨zs, .inr ⟨_, rfl, hl, hm, by simpa using hz, hcell, hwz⟩⟩
  have y3 : len3 * 1 ≤ 140737488351232 := sized_ints hsz (j := 3) (t := 22) rfl rfl Try.underlying22 Try.underlying5 (by kernel_rfl) (by kernel_rfl) h3
  obtain ⟨a4, rfl, rfl, rfl, w4⟩ := open_int Try.underlying3 (hval 4 3 v4 rfl rfl) h4
  clear hA0 hval0 hsz0 hsz
  refine (CtrTurns_any a0 len0 cap0 _ a1 len1 cap1 _ a2 len2 cap2 _ a3 len3 cap3 _ a4 W (Bts.of_row w0 y0) (Bts.of_row w1 y1) (Bts.of_row w2 y2) (Bts.of_row w3 y3) (i64_of_wf w4)).mono fun e W' ⟨he, bel⟩ => ?_
  subst he
  exact ⟨_, rfl, _, _, _, [], _, [], hW', trodAll_mk1 (shut_bool Try.underlying4 _), (trodAll_cons_mk (Below.trod laidOut (by kernel_rfl) (of_decide_eq_true (by kernel_rfl)) k0 bel lt0) (trodAll_cons_mk (Below.trod laidOut (by kernel_rfl) (of_decide_eq_true (by kernel_rfl)) k1 bel lt1) (trodAll_cons_mk (Below.trod laidOut (by kernel_rfl) (of_decide_eq_true (by kernel_rfl)) k2 bel lt2) (trodAll_cons_mk (Below.trod laidOut (by kernel_rfl) (of_decide_eq_true (by kernel_rfl)) k3 bel lt3) (trodAll_cons_mk (shut_int Try.underlying3 w4) trodAll_mk0))))), rfl, bel.frame _, fun h => by cases h⟩
theorem over : Rows.ctrTurnsRow.holds Try.pinned (OpenSpec.ofChange Rows.ctrTurnsSpec) :=
  OpenClaim.holds_of_wide 3 Try.f3 rfl rfl rfl rfl rfl rfl rfl ⟨rfl, rfl, rfl, rfl, rfl⟩ rfl rfl rfl rfl rfl (by kernel_rfl) Try.func3 (by kernel_rfl)
    (of_decide_eq_true (by kernel_rfl)) (by unfold Func.isWrapper; first | (rw [if_pos (by decide +kernel)]; kernel_rfl) | (rw [if_neg (by decide +kernel)]; exact ⟨rfl, rfl⟩))
    (fun os started H enc _ => lifted os started H enc)
theorem proved : Rows.CtrTurnsSaid := over
end Go.Proofs.Ytgkphopdmkfcgaa.ctrTurns
namespace Go.Proofs.Ytgkphopdmkfcgaa
theorem ctrTurns_holds : Rows.CtrTurnsSaid := ctrTurns.proved
#print axioms ctrTurns_holds
end Go.Proofs.Ytgkphopdmkfcgaa

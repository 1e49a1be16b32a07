/- What is read out of bytes as a segment: numbers. Conditions: those that each lemma states. -/
import Derived.Test.YtljdkfgnoalgpaaCSegC
import Derived.Test.YtljdkfgnoalgpaaRngB
import Derived.Deep.RegionHeld3
namespace Go.Proofs.Ytljdkfgnoalgpaa
open Go.RowKit Go.Proofs.YtljdkfgnoalgpaaW.PrintWords

/-- The number of so many bytes from a place on. -/
def numL (xs : List Int) (a : Nat) : Nat → Int
  | 0 => 0
  | i + 1 => 256 * numL xs a i + xs.getD (a + i) 0
theorem numL_bd (xs : List Int) (h : Byt xs) (a : Nat) : ∀ i, i ≤ 4 → 0 ≤ numL xs a i ∧ numL xs a i < 256 ^ i
  | 0, _ => by simp [numL]
  | i + 1, hi => by
    have h1 := numL_bd xs h a i (by omega)
    have h2 := byt_get h (a + i)
    rw [numL]
    refine ⟨by omega, ?_⟩
    rw [Int.pow_succ]
    omega
theorem numL_four (xs : List Int) (h : Byt xs) (a i : Nat) (hi : i ≤ 4) : 0 ≤ numL xs a i ∧ numL xs a i < 4294967296 := by
  have := numL_bd xs h a i hi
  have e : (256 : Int) ^ i ≤ 256 ^ 4 := by
    obtain rfl | rfl | rfl | rfl | rfl : i = 0 ∨ i = 1 ∨ i = 2 ∨ i = 3 ∨ i = 4 := by omega
    all_goals decide
  have e2 : (256 : Int) ^ 4 = 4294967296 := by decide
  omega

set_option maxHeartbeats 1000000 in
theorem seg_number (gb : Nat) (ad : Addr) (n k : Nat) (xs : List Int) (a m : Int) (w : World) (h : Bts w (some ad) n k xs) (hb : w.cell? ⟨gb, 0, none⟩ = some (.slice (some ad) n k)) (ha : 0 ≤ a) (hm : m = 2 ∨ m = 4) (ham : a + m ≤ n) :
    Calls Try.prog 32 #[.int .i64 a, .int .i64 m, .pointer (some ⟨gb, 0, none⟩)] w fun e w' => e = .returned (.int .i64 (numL xs a.toNat m.toNat)) ∧ w = w' := by
  obtain ⟨p, rfl⟩ := Int.eq_ofNat_of_zero_le ha
  obtain ⟨q, rfl⟩ := Int.eq_ofNat_of_zero_le (show 0 ≤ m by omega)
  rw [Int.toNat_natCast, Int.toNat_natCast]
  have hle := h.le
  have hmx := h.cap
  have hx := h.max
  have T := Lib.hid ((h.drop_some p (by omega) (by omega)).take q (by omega))
  have hby := Lib.hid h.byt
  have w1 : IntKind.i64.wrap ((p : Int) + (q : Int)) = ((p + q : Nat) : Int) := by rw [IntWalk.i64_in _ (by omega)]; omega
  have j0 : (0 : Int) ≤ ((p + q : Nat) : Int) := by omega
  have j1 : ((p + q : Nat) : Int) ≤ (k : Int) := by omega
  have j2 : (p : Int) ≤ ((p + q : Nat) : Int) := by omega
  have j3 : ¬ (k = p) := by omega
  have j4 : p + q - p = q := by omega
  obtain ⟨z, hz⟩ : ∃ z, p + q = z := ⟨_, rfl⟩
  rw [hz] at w1 j0 j1 j2 j4
  clear h hz
  go_enter Try.func32, Try.ntmps32
  go_wp2
  go_loop [6, 16] (fun vn vi => ∃ i : Nat, i ≤ q ∧ vi = .int .i64 (i : Int) ∧ vn = .int .i64 (numL xs p i)) (fun _ vi => q - (intOf vi).toNat)
  case atStart => exact ⟨0, by omega, rfl, rfl⟩
  case round =>
    obtain ⟨i, hi, rfl, rfl⟩ := hrel
    by_cases hlt : i < q
    · obtain ⟨ad', e, ci⟩ := T.out.at_ i hlt
      injection e with e
      subst e
      have e1 : ((xs.drop p).take q).getD i 0 = xs.getD (p + i) 0 := by
        simp [List.getD_eq_getElem?_getD, hlt]
      rw [e1] at ci
      have hbd := numL_four xs hby.out p i (by omega)
      have hxb := byt_get hby.out (p + i)
      have hnx : Hid (numL xs p (i + 1) = 256 * numL xs p i + xs.getD (p + i) 0) := rfl
      have hor := k_or_shift (numL xs p i) (xs.getD (p + i) 0) (by omega) (by omega) hxb
      have i1 : (i : Int) < (q : Int) := by omega
      generalize numL xs p i = N at hbd hor hnx ⊢
      generalize xs.getD (p + i) 0 = X at ci hxb hor hnx
      clear e1
      go_wp2
      refine ⟨⟨i + 1, by omega, by go_num, val_int ?_⟩, by simp [intOf]; omega⟩
      exact hnx.out.symm
    · obtain rfl : i = q := by omega
      go_wp2
      go_ret
      exact ⟨rfl, rfl⟩
theorem numL_two8 (xs : List Int) (a : Nat) : numL xs a 2 = two8 (xs.getD a 0) (xs.getD (a + 1) 0) := by simp [numL, two8]
theorem numL_four8 (xs : List Int) (a : Nat) : numL xs a 4 = four8 (xs.getD a 0) (xs.getD (a + 1) 0) (xs.getD (a + 2) 0) (xs.getD (a + 3) 0) := by simp [numL, four8, two8]; omega
/-- A segment is stored, field by field. -/
abbrev set9 (w : World) (g : Nat) (S : Sg) (o : ByteArray) (v : Value) : World :=
  ((((((((w.setCell ⟨g, 0, none⟩ (.int .i64 S.p)).setCell ⟨g, 1, none⟩ (.int .i64 S.q)).setCell ⟨g, 2, none⟩ (.int .i64 S.s)).setCell ⟨g, 3, none⟩ (.int .i64 S.a)).setCell ⟨g, 4, none⟩ (.int .i64 S.f)).setCell ⟨g, 5, none⟩ (.int .i64 S.w)).setCell ⟨g, 6, none⟩ (.int .i64 S.u)).setCell ⟨g, 7, none⟩ (.string o)).setCell ⟨g, 8, none⟩ v
theorem Sb.set9 {w : World} {g : Nat} {S : Sg} {o : ByteArray} {A : Option Addr} {n k : Nat} (h : Sb w g S o A n k) (S' : Sg) (o' : ByteArray) (A' : Option Addr) (n' k' : Nat) : Sb (set9 w g S' o' (.slice A' n' k')) g S' o' A' n' k' := by
  have h0 : (w.setCell ⟨g, 0, none⟩ (.int .i64 S'.p)).heap[g]? = some (.cells #[.int .i64 S'.p, .int .i64 S.q, .int .i64 S.s, .int .i64 S.a, .int .i64 S.f, .int .i64 S.w, .int .i64 S.u, .string o, .slice A n k] 24 (0, 0)) := blk_set h.blk 0 _
  have h1 : ((w.setCell ⟨g, 0, none⟩ (.int .i64 S'.p)).setCell ⟨g, 1, none⟩ (.int .i64 S'.q)).heap[g]? = some (.cells #[.int .i64 S'.p, .int .i64 S'.q, .int .i64 S.s, .int .i64 S.a, .int .i64 S.f, .int .i64 S.w, .int .i64 S.u, .string o, .slice A n k] 24 (0, 0)) := blk_set h0 1 _
  have h2 : (((w.setCell ⟨g, 0, none⟩ (.int .i64 S'.p)).setCell ⟨g, 1, none⟩ (.int .i64 S'.q)).setCell ⟨g, 2, none⟩ (.int .i64 S'.s)).heap[g]? = some (.cells #[.int .i64 S'.p, .int .i64 S'.q, .int .i64 S'.s, .int .i64 S.a, .int .i64 S.f, .int .i64 S.w, .int .i64 S.u, .string o, .slice A n k] 24 (0, 0)) := blk_set h1 2 _
  have h3 : ((((w.setCell ⟨g, 0, none⟩ (.int .i64 S'.p)).setCell ⟨g, 1, none⟩ (.int .i64 S'.q)).setCell ⟨g, 2, none⟩ (.int .i64 S'.s)).setCell ⟨g, 3, none⟩ (.int .i64 S'.a)).heap[g]? = some (.cells #[.int .i64 S'.p, .int .i64 S'.q, .int .i64 S'.s, .int .i64 S'.a, .int .i64 S.f, .int .i64 S.w, .int .i64 S.u, .string o, .slice A n k] 24 (0, 0)) := blk_set h2 3 _
  have h4 : (((((w.setCell ⟨g, 0, none⟩ (.int .i64 S'.p)).setCell ⟨g, 1, none⟩ (.int .i64 S'.q)).setCell ⟨g, 2, none⟩ (.int .i64 S'.s)).setCell ⟨g, 3, none⟩ (.int .i64 S'.a)).setCell ⟨g, 4, none⟩ (.int .i64 S'.f)).heap[g]? = some (.cells #[.int .i64 S'.p, .int .i64 S'.q, .int .i64 S'.s, .int .i64 S'.a, .int .i64 S'.f, .int .i64 S.w, .int .i64 S.u, .string o, .slice A n k] 24 (0, 0)) := blk_set h3 4 _
  have h5 : ((((((w.setCell ⟨g, 0, none⟩ (.int .i64 S'.p)).setCell ⟨g, 1, none⟩ (.int .i64 S'.q)).setCell ⟨g, 2, none⟩ (.int .i64 S'.s)).setCell ⟨g, 3, none⟩ (.int .i64 S'.a)).setCell ⟨g, 4, none⟩ (.int .i64 S'.f)).setCell ⟨g, 5, none⟩ (.int .i64 S'.w)).heap[g]? = some (.cells #[.int .i64 S'.p, .int .i64 S'.q, .int .i64 S'.s, .int .i64 S'.a, .int .i64 S'.f, .int .i64 S'.w, .int .i64 S.u, .string o, .slice A n k] 24 (0, 0)) := blk_set h4 5 _
  have h6 : (((((((w.setCell ⟨g, 0, none⟩ (.int .i64 S'.p)).setCell ⟨g, 1, none⟩ (.int .i64 S'.q)).setCell ⟨g, 2, none⟩ (.int .i64 S'.s)).setCell ⟨g, 3, none⟩ (.int .i64 S'.a)).setCell ⟨g, 4, none⟩ (.int .i64 S'.f)).setCell ⟨g, 5, none⟩ (.int .i64 S'.w)).setCell ⟨g, 6, none⟩ (.int .i64 S'.u)).heap[g]? = some (.cells #[.int .i64 S'.p, .int .i64 S'.q, .int .i64 S'.s, .int .i64 S'.a, .int .i64 S'.f, .int .i64 S'.w, .int .i64 S'.u, .string o, .slice A n k] 24 (0, 0)) := blk_set h5 6 _
  have h7 : ((((((((w.setCell ⟨g, 0, none⟩ (.int .i64 S'.p)).setCell ⟨g, 1, none⟩ (.int .i64 S'.q)).setCell ⟨g, 2, none⟩ (.int .i64 S'.s)).setCell ⟨g, 3, none⟩ (.int .i64 S'.a)).setCell ⟨g, 4, none⟩ (.int .i64 S'.f)).setCell ⟨g, 5, none⟩ (.int .i64 S'.w)).setCell ⟨g, 6, none⟩ (.int .i64 S'.u)).setCell ⟨g, 7, none⟩ (.string o')).heap[g]? = some (.cells #[.int .i64 S'.p, .int .i64 S'.q, .int .i64 S'.s, .int .i64 S'.a, .int .i64 S'.f, .int .i64 S'.w, .int .i64 S'.u, .string o', .slice A n k] 24 (0, 0)) := blk_set h6 7 _
  have h8 : (((((((((w.setCell ⟨g, 0, none⟩ (.int .i64 S'.p)).setCell ⟨g, 1, none⟩ (.int .i64 S'.q)).setCell ⟨g, 2, none⟩ (.int .i64 S'.s)).setCell ⟨g, 3, none⟩ (.int .i64 S'.a)).setCell ⟨g, 4, none⟩ (.int .i64 S'.f)).setCell ⟨g, 5, none⟩ (.int .i64 S'.w)).setCell ⟨g, 6, none⟩ (.int .i64 S'.u)).setCell ⟨g, 7, none⟩ (.string o')).setCell ⟨g, 8, none⟩ (.slice A' n' k')).heap[g]? = some (.cells #[.int .i64 S'.p, .int .i64 S'.q, .int .i64 S'.s, .int .i64 S'.a, .int .i64 S'.f, .int .i64 S'.w, .int .i64 S'.u, .string o', .slice A' n' k'] 24 (0, 0)) := blk_set h7 8 _
  exact ⟨h8⟩
theorem below_set9 {w W : World} {base g : Nat} (h : Below base w W) (hg : base ≤ g) (S : Sg) (o : ByteArray) (v : Value) : Below base w (set9 W g S o v) :=
  below_set (below_set (below_set (below_set (below_set (below_set (below_set (below_set (below_set h (p := ⟨g, 0, none⟩) hg _) (p := ⟨g, 1, none⟩) hg _) (p := ⟨g, 2, none⟩) hg _) (p := ⟨g, 3, none⟩) hg _) (p := ⟨g, 4, none⟩) hg _) (p := ⟨g, 5, none⟩) hg _) (p := ⟨g, 6, none⟩) hg _) (p := ⟨g, 7, none⟩) hg _) (p := ⟨g, 8, none⟩) hg _
theorem OwnB.set9 {w : World} {base : Nat} {v : Value} {xs : List Int} (h : OwnB w base v xs) {g : Nat} (hg : g < base) (S : Sg) (o : ByteArray) (u : Value) : OwnB (Go.Proofs.Ytljdkfgnoalgpaa.set9 w g S o u) base v xs :=
  ((((((((h.far (p := ⟨g, 0, none⟩) hg _).far (p := ⟨g, 1, none⟩) hg _).far (p := ⟨g, 2, none⟩) hg _).far (p := ⟨g, 3, none⟩) hg _).far (p := ⟨g, 4, none⟩) hg _).far (p := ⟨g, 5, none⟩) hg _).far (p := ⟨g, 6, none⟩) hg _).far (p := ⟨g, 7, none⟩) hg _).far (p := ⟨g, 8, none⟩) hg _
/-- What is said of a Parse: refused, or read. -/
def SgPost (xs s d : List Int) (w : World) (e : Ending) (w' : World) : Prop :=
  Below w.heap.size w w' ∧ ((sgPErr xs s d ≠ 0 ∧ e = .returned (.tuple #[.agg (sgV sgZ (strOfNums []) none 0 0), .int .i64 (sgPErr xs s d)])) ∨
    (sgPErr xs s d = 0 ∧ ∃ A n k, e = .returned (.tuple #[.agg (sgV (sgOf xs) (strOfNums (sgOpt xs)) A n k), .int .i64 0]) ∧ OwnB w' w.heap.size (.slice A n k) (sgData xs)))
theorem SgPost.err {xs s d : List Int} {w w' : World} {k : Int} (h : sgPErr xs s d = k) (hk : k ≠ 0) (hB : Below w.heap.size w w') : SgPost xs s d w (.returned (.tuple #[.agg (sgV sgZ (strOfNums []) none 0 0), .int .i64 k])) w' :=
  ⟨hB, .inl ⟨by rw [h]; exact hk, by rw [h]⟩⟩
theorem SgPost.ok {xs s d : List Int} {w w' : World} {S : Sg} {o : ByteArray} {A : Option Addr} {n k : Nat} (h : sgPErr xs s d = 0) (hS : sgOf xs = S) (ho : strOfNums (sgOpt xs) = o) (hv : OwnB w' w.heap.size (.slice A n k) (sgData xs)) (hB : Below w.heap.size w w') : SgPost xs s d w (.returned (.tuple #[.agg (sgV S o A n k), .int .i64 0])) w' := by
  subst hS ho
  exact ⟨hB, .inr ⟨h, A, n, k, rfl, hv⟩⟩
/-- What two readings of the same bytes have alike. -/
theorem SgPost.view {xs s d : List Int} {w : World} {e : Ending} {w' : World} (h : SgPost xs s d w e w') :
    ∃ (S : Sg) (o : ByteArray) (A : Option Addr) (n k : Nat) (zs : List Int), e = .returned (.tuple #[.agg #[.int .i64 S.p, .int .i64 S.q, .int .i64 S.s, .int .i64 S.a, .int .i64 S.f, .int .i64 S.w, .int .i64 S.u, .string o, .slice A n k], .int .i64 (sgPErr xs s d)]) ∧ Bts w' A n k zs ∧ Below w.heap.size w w' ∧
      S = (if sgPErr xs s d = 0 then sgOf xs else sgZ) ∧ o = strOfNums (if sgPErr xs s d = 0 then sgOpt xs else []) ∧ zs = (if sgPErr xs s d = 0 then sgData xs else []) := by
  obtain ⟨hB, ⟨hn, rfl⟩ | ⟨h0, A, n, k, rfl, ho⟩⟩ := h
  · exact ⟨sgZ, strOfNums [], none, 0, 0, [], rfl, Bts.nil_ none 0 _ (by omega), hB, by rw [if_neg hn], by rw [if_neg hn], by rw [if_neg hn]⟩
  · exact ⟨_, _, A, n, k, _, by rw [h0], ho.sl, hB, by rw [if_pos h0], by rw [if_pos h0], by rw [if_pos h0]⟩
theorem and15 (x : Int) (hx : 0 ≤ x ∧ x ≤ 255) : bits .and .u8 x 15 = x % 16 := by
  obtain ⟨n, rfl⟩ := Int.eq_ofNat_of_zero_le hx.1
  have h : ∀ n : Nat, n < 256 → bits .and .u8 (n : Int) 15 = (n : Int) % 16 := by decide +kernel
  exact h n (by omega)

theorem Bts.set9 {w : World} {A : Option Addr} {n k : Nat} {xs : List Int} (h : Bts w A n k xs) {g : Nat} (hne : ∀ ad, A = some ad → ad.block ≠ g) (S : Sg) (o : ByteArray) (u : Value) : Bts (Go.Proofs.Ytljdkfgnoalgpaa.set9 w g S o u) A n k xs :=
  ((((((((h.far (p := ⟨g, 0, none⟩) hne _).far (p := ⟨g, 1, none⟩) hne _).far (p := ⟨g, 2, none⟩) hne _).far (p := ⟨g, 3, none⟩) hne _).far (p := ⟨g, 4, none⟩) hne _).far (p := ⟨g, 5, none⟩) hne _).far (p := ⟨g, 6, none⟩) hne _).far (p := ⟨g, 7, none⟩) hne _).far (p := ⟨g, 8, none⟩) hne _
/-- The bytes, and the variable that holds them. -/
structure ZZ (w : World) (gb : Nat) (ad : Addr) (n k : Nat) (xs : List Int) : Prop where
  box : w.cell? ⟨gb, 0, none⟩ = some (.slice (some ad) n k)
  bt : Bts w (some ad) n k xs
  lt : ad.block < gb ∧ gb < w.heap.size
theorem ZZ.below {w W : World} {gb : Nat} {ad : Addr} {n k : Nat} {xs : List Int} (h : ZZ w gb ad n k xs) (hb : Below w.heap.size w W) : ZZ W gb ad n k xs := ⟨(hb.cell (p := ⟨gb, 0, none⟩) h.lt.2).trans h.box, h.bt.below hb, h.lt.1, Nat.lt_of_lt_of_le h.lt.2 hb.size⟩
theorem ZZ.set9 {w : World} {gb : Nat} {ad : Addr} {n k : Nat} {xs : List Int} (h : ZZ w gb ad n k xs) {g : Nat} (hg : gb < g) (S : Sg) (o : ByteArray) (u : Value) : ZZ (Go.Proofs.Ytljdkfgnoalgpaa.set9 w g S o u) gb ad n k xs := by
  have e : ∀ (W : World) (i : Nat) (v : Value), (W.setCell ⟨g, i, none⟩ v).cell? ⟨gb, 0, none⟩ = W.cell? ⟨gb, 0, none⟩ := fun W i v => World.cell?_of_block (Below.heap_setCell W ⟨g, i, none⟩ v gb (by show gb ≠ g; omega))
  refine ⟨?_, h.bt.set9 (fun a ea => by injection ea with ea; subst ea; have := h.lt.1; omega) S o u, h.lt.1, ?_⟩
  · unfold Go.Proofs.Ytljdkfgnoalgpaa.set9
    rw [e, e, e, e, e, e, e, e, e]
    exact h.box
  · have := h.lt.2
    simp [World.setCell]
    exact this
theorem ZZ.cs {w : World} {gb : Nat} {ad : Addr} {n k : Nat} {xs : List Int} (h : ZZ w gb ad n k xs) (hn : 13 < n) {OV : Value} {so : ByteArray} {x13 : Int} (hx : xs.getD 13 0 = x13) (hO : ∀ W, ZZ W gb ad n k xs → (convert 22 9 OV).run Try.prog W = .ok (.string so) W) :
    w.cell? ⟨gb, 0, none⟩ = some (.slice (some ad) n k) ∧ w.cell? { block := ad.block, off := ad.off + 13 } = some (.int .u8 x13) ∧ (convert 22 9 OV).run Try.prog w = .ok (.string so) w := by
  obtain ⟨a, e, hc⟩ := h.bt.some_ (by omega)
  injection e with e
  subst e
  exact ⟨h.box, by rw [← hx]; exact cell_add (hc 13 hn) (by omega), hO w h⟩






set_option maxHeartbeats 4000000 in
theorem seg_Parse (A : Option Addr) (n k : Nat) (xs : List Int) (s d : ByteArray) (w : World) (hs : s.size ≤ 140737488351232) (hd : d.size ≤ 140737488351232) (h0 : Bts w A n k xs) :
    Calls Try.prog 18 #[.slice A n k, .string s, .string d] w (SgPost xs (bytesOf s) (bytesOf d) w) := by
  have hl := Lib.hid h0.len
  have ls := Lib.hid (bytesOf_length s)
  have ld := Lib.hid (bytesOf_length d)
  obtain ⟨g, hg⟩ : ∃ g, w.heap.size + 1 = g := ⟨_, rfl⟩
  obtain ⟨W1, hW1⟩ : ∃ W1, (w.alloc (.cells #[.slice A n k] 22)).alloc (.cells #[.int .i64 0, .int .i64 0, .int .i64 0, .int .i64 0, .int .i64 0, .int .i64 0, .int .i64 0, .string { data := #[] }, .slice none 0 0] 24) = W1 := ⟨_, rfl⟩
  have D : Hid (Boxed W1 w.heap.size 22 (.slice A n k)) := Lib.hid (by rw [← hW1]; exact (Boxed.new w 22 (.slice A n k)).alloc _)
  have R : Hid (Sb W1 g sgZ (strOfNums []) none 0 0) := Lib.hid (by rw [← hW1]; exact Sb.at (w.alloc (.cells #[.slice A n k] 22)) g sgZ (strOfNums []) none 0 0 (by rw [World.size_alloc]; exact hg))
  have HB : Hid (Below w.heap.size w W1) := Lib.hid (by rw [← hW1]; exact below_alloc (below_alloc (Below.refl w.heap.size w) _) _)
  have H0 := Lib.hid (h0.below HB.out)
  replace hW1 := Lib.hid hW1
  have hgh : Hid (w.heap.size ≤ g) := Lib.hid (by omega)
  have hge := hg
  have hlt : Hid (∀ ad : Addr, A = some ad → 0 < n → ad.block < w.heap.size) := Lib.hid (fun ad e hn => by
    obtain ⟨ad', e', q⟩ := h0.some_ hn
    rw [e] at e'
    injection e' with e'
    subst e'
    have q0 := q 0 hn
    rw [Addr.add_zero'] at q0
    exact World.block_lt_of_cell? w _ q0)
  replace hg := Lib.hid hg
  by_cases hp : pairOk s.size d.size
  case neg =>
    have hE : Hid (sgPErr xs (bytesOf s) (bytesOf d) = 1) := Lib.hid (if_pos (by rw [ls.out, ld.out]; exact hp))
    go_enter Try.func18, Try.ntmps18
    go_wp2_with fail
    rw [hW1.out]
    refine (inet_Pseudo_no _ _ _ _ _ hs hd (fun q => hp ((psOk_zero _ _).1 q))).mono ?_
    rintro e w2 ⟨rfl, rfl⟩
    have f0 := R.out.f 0
    have f1 := R.out.f 1
    have f2 := R.out.f 2
    have f3 := R.out.f 3
    have f4 := R.out.f 4
    have f5 := R.out.f 5
    have f6 := R.out.f 6
    have f7 := R.out.f 7
    have f8 := R.out.f 8
    have c0 := R.out.c0
    have c1 := R.out.c1
    have c2 := R.out.c2
    have c3 := R.out.c3
    have c4 := R.out.c4
    have c5 := R.out.c5
    have c6 := R.out.c6
    have c7 := R.out.c7
    have c8 := R.out.c8
    have cb := Boxed.cell D.out
    go_wp2
    have q := (R.out.set9 sgZ (strOfNums []) none 0 0).blk
    refine ret_cell2 rfl rfl q Try.underlying24 rfl (by kernel_rfl) (SgPost.err hE.out (by decide) ?_)
    exact below_set9 HB.out (by omega) sgZ (strOfNums []) (.slice none 0 0)
  case pos =>
  have hp' : pairOk (bytesOf s).length (bytesOf d).length := by rw [ls.out, ld.out]; exact hp
  have hPE : Hid (sgPErr xs (bytesOf s) (bytesOf d) = if xs.length < 20 then 8 else if xs.length < sgSize xs then 8 else if 65535 < xs.length then 2 else if sgSize xs < 20 ∨ xs.getD 12 0 % 16 ≠ 0 then 4 else if psSum 6 xs (bytesOf s) (bytesOf d) ≠ 65535 then 5 else 0) := Lib.hid (by
    unfold sgPErr; rw [if_neg (fun q => q hp')])
  have hmx := h0.max
  go_enter Try.func18, Try.ntmps18
  go_wp2_with fail
  rw [hW1.out]
  refine (inet_Pseudo_yes _ _ _ _ _ hs hd ((psOk_zero _ _).2 hp)).mono ?_
  rintro e w2 ⟨rfl, hB2⟩
  replace D : Hid (Boxed w2 w.heap.size 22 (.slice A n k)) := Lib.hid ((hB2.block _ D.out.lt).trans D.out)
  replace R := Lib.hid (R.out.below hB2)
  replace H0 := Lib.hid (H0.out.below hB2)
  replace HB := Lib.hid (below_step2 HB.out hB2)
  clear hB2
  clear hW1 h0
  have f0 := R.out.f 0
  have f1 := R.out.f 1
  have f2 := R.out.f 2
  have f3 := R.out.f 3
  have f4 := R.out.f 4
  have f5 := R.out.f 5
  have f6 := R.out.f 6
  have f7 := R.out.f 7
  have f8 := R.out.f 8
  have c0 := R.out.c0
  have c1 := R.out.c1
  have c2 := R.out.c2
  have c3 := R.out.c3
  have c4 := R.out.c4
  have c5 := R.out.c5
  have c6 := R.out.c6
  have c7 := R.out.c7
  have c8 := R.out.c8
  have cb := Boxed.cell D.out
  by_cases h20 : n < 20
  · have d1 : decide ((n : Int) < 20) = true := decide_eq_true (by omega)
    have hE : Hid (sgPErr xs (bytesOf s) (bytesOf d) = 8) := Lib.hid (by rw [hPE.out, if_pos (by rw [hl.out]; exact h20)])
    go_wp2
    have q := (R.out.set9 sgZ (strOfNums []) none 0 0).blk
    refine ret_cell2 rfl rfl q Try.underlying24 rfl (by kernel_rfl) (SgPost.err hE.out (by decide) ?_)
    exact below_set9 HB.out (by omega) sgZ (strOfNums []) (.slice none 0 0)
  have d1 : decide ((n : Int) < 20) = false := decide_eq_false (by omega)
  obtain ⟨ad, e1, aa⟩ := H0.out.some_ (by omega)
  subst e1
  replace hlt := Lib.hid (hlt.out ad rfl (by omega))
  have a12 := aa 12 (by omega)
  have b12 := byt_get H0.out.byt 12
  have hsd : sgSize xs = 4 * ((xs.getD 12 0).toNat / 16) := rfl
  have hsx : Hid (xs.getD 12 0 = xs.getD 12 0) := Lib.hid rfl
  obtain ⟨x12, hx12⟩ : ∃ x, xs.getD 12 0 = x := ⟨_, rfl⟩
  rw [hx12] at a12 b12 hsd
  obtain ⟨z, hz⟩ : ∃ z, sgSize xs = z := ⟨_, rfl⟩
  rw [hz] at hsd
  have hsz : x12 / 16 * 4 = (z : Int) := by omega
  have wz : IntKind.i64.wrap (x12 / 16 * 4) = (z : Int) := by rw [hsz]; exact IntWalk.i64_in _ (by omega)
  have ai12 : w2.cell? { block := ad.block, off := ad.off + 12 } = some (.int .u8 x12) := cell_add a12 (by omega)
  replace hx12 := Lib.hid hx12
  replace hz := Lib.hid hz
  replace aa := Lib.hid aa
  have i12 : (12 : Int) < (n : Int) := by omega
  clear hsd hsx a12
  by_cases h3 : n < z
  · have d3 : decide ((n : Int) < (z : Int)) = true := decide_eq_true (by omega)
    have d3' : decide (n < z) = true := decide_eq_true h3
    have hE : Hid (sgPErr xs (bytesOf s) (bytesOf d) = 8) := Lib.hid (by rw [hPE.out, if_neg (by rw [hl.out]; exact h20), if_pos (by rw [hl.out, hz.out]; exact h3)])
    go_wp2
    have q := (R.out.set9 sgZ (strOfNums []) none 0 0).blk
    refine ret_cell2 rfl rfl q Try.underlying24 rfl (by kernel_rfl) (SgPost.err hE.out (by decide) ?_)
    exact below_set9 HB.out (by omega) sgZ (strOfNums []) (.slice none 0 0)
  have d3 : decide ((n : Int) < (z : Int)) = false := decide_eq_false (by omega)
  have d3' : decide (n < z) = false := decide_eq_false h3
  by_cases h4 : 65535 < n
  · have d4 : decide ((65535 : Int) < (n : Int)) = true := decide_eq_true (by omega)
    have d4' : decide (65535 < n) = true := decide_eq_true h4
    have hE : Hid (sgPErr xs (bytesOf s) (bytesOf d) = 2) := Lib.hid (by rw [hPE.out, if_neg (by rw [hl.out]; exact h20), if_neg (by rw [hl.out, hz.out]; exact h3), if_pos (by rw [hl.out]; exact h4)])
    go_wp2
    have q := (R.out.set9 sgZ (strOfNums []) none 0 0).blk
    refine ret_cell2 rfl rfl q Try.underlying24 rfl (by kernel_rfl) (SgPost.err hE.out (by decide) ?_)
    exact below_set9 HB.out (by omega) sgZ (strOfNums []) (.slice none 0 0)
  have d4 : decide ((65535 : Int) < (n : Int)) = false := decide_eq_false (by omega)
  have d4' : decide (65535 < n) = false := decide_eq_false h4
  by_cases h5 : z < 20
  · have d5 : decide ((z : Int) < 20) = true := decide_eq_true (by omega)
    have d5' : decide (z < 20) = true := decide_eq_true h5
    have hE : Hid (sgPErr xs (bytesOf s) (bytesOf d) = 4) := Lib.hid (by rw [hPE.out, if_neg (by rw [hl.out]; exact h20), if_neg (by rw [hl.out, hz.out]; exact h3), if_neg (by rw [hl.out]; exact h4), if_pos (.inl (by rw [hz.out]; exact h5))])
    go_wp2
    have q := (R.out.set9 sgZ (strOfNums []) none 0 0).blk
    refine ret_cell2 rfl rfl q Try.underlying24 rfl (by kernel_rfl) (SgPost.err hE.out (by decide) ?_)
    exact below_set9 HB.out (by omega) sgZ (strOfNums []) (.slice none 0 0)
  have d5 : decide ((z : Int) < 20) = false := decide_eq_false (by omega)
  have d5' : decide (z < 20) = false := decide_eq_false h5
  have e15 := and15 x12 b12
  by_cases h6 : x12 % 16 = 0
  case neg =>
    have d6 : (x12 % 16 != 0) = true := bne_iff_ne.mpr h6
    have hE : Hid (sgPErr xs (bytesOf s) (bytesOf d) = 4) := Lib.hid (by rw [hPE.out, if_neg (by rw [hl.out]; exact h20), if_neg (by rw [hl.out, hz.out]; exact h3), if_neg (by rw [hl.out]; exact h4), if_pos (.inr (by rw [hx12.out]; exact h6))])
    go_wp2
    have q := (R.out.set9 sgZ (strOfNums []) none 0 0).blk
    refine ret_cell2 rfl rfl q Try.underlying24 rfl (by kernel_rfl) (SgPost.err hE.out (by decide) ?_)
    exact below_set9 HB.out (by omega) sgZ (strOfNums []) (.slice none 0 0)
  have d6 : (x12 % 16 != 0) = false := bne_eq_false_iff_eq.mpr h6
  go_wp2_with fail
  refine (seg_sum s d _ _ _ _ w2 hs hd H0.out hp (by omega)).mono ?_
  rintro e w3 ⟨rfl, hB2⟩
  have hlt2 : Hid (ad.block < w2.heap.size) := Lib.hid (World.block_lt_of_cell? w2 ⟨ad.block, ad.off + 12, none⟩ ai12)
  replace D : Hid (Boxed w3 w.heap.size 22 (.slice (some ad) n k)) := Lib.hid ((hB2.block _ D.out.lt).trans D.out)
  replace R := Lib.hid (R.out.below hB2)
  replace H0 := Lib.hid (H0.out.below hB2)
  replace HB := Lib.hid (below_step2 HB.out hB2)
  clear hB2
  clear f0 f1 f2 f3 f4 f5 f6 f7 f8 c0 c1 c2 c3 c4 c5 c6 c7 c8 cb
  clear ai12 i12
  have f0 := R.out.f 0
  have f1 := R.out.f 1
  have f2 := R.out.f 2
  have f3 := R.out.f 3
  have f4 := R.out.f 4
  have f5 := R.out.f 5
  have f6 := R.out.f 6
  have f7 := R.out.f 7
  have f8 := R.out.f 8
  have c0 := R.out.c0
  have c1 := R.out.c1
  have c2 := R.out.c2
  have c3 := R.out.c3
  have c4 := R.out.c4
  have c5 := R.out.c5
  have c6 := R.out.c6
  have c7 := R.out.c7
  have c8 := R.out.c8
  have cb := Boxed.cell D.out
  have hPF : Hid (sgPErr xs (bytesOf s) (bytesOf d) = if psSum 6 xs (bytesOf s) (bytesOf d) ≠ 65535 then 5 else 0) := Lib.hid (by
    rw [hPE.out, if_neg (by rw [hl.out]; exact h20), if_neg (by rw [hl.out, hz.out]; exact h3), if_neg (by rw [hl.out]; exact h4), if_neg (fun q => by rw [hz.out, hx12.out] at q; rcases q with q | q; exact h5 q; exact q h6)])
  by_cases h10 : psSum 6 xs (bytesOf s) (bytesOf d) = 65535
  case neg =>
    have d10 : (psSum 6 xs (bytesOf s) (bytesOf d) != 65535) = true := bne_iff_ne.mpr h10
    have hE : Hid (sgPErr xs (bytesOf s) (bytesOf d) = 5) := Lib.hid (by rw [hPF.out, if_pos h10])
    generalize psSum 6 xs (bytesOf s) (bytesOf d) = Q at d10
    clear h10 hPF
    go_wp2
    have q := (R.out.set9 sgZ (strOfNums []) none 0 0).blk
    refine ret_cell2 rfl rfl q Try.underlying24 rfl (by kernel_rfl) (SgPost.err hE.out (by decide) ?_)
    exact below_set9 HB.out (by omega) sgZ (strOfNums []) (.slice none 0 0)
  case pos =>
  have hE : Hid (sgPErr xs (bytesOf s) (bytesOf d) = 0) := Lib.hid (by rw [hPF.out, if_neg (fun q => q h10)])
  rw [h10]
  clear h10 hPF hPE d1 d3 d3' d4 d4' d5 d5' d6 wz hsz e15
  obtain ⟨x13, hx13⟩ : ∃ x, xs.getD 13 0 = x := ⟨_, rfl⟩
  have b13 := byt_get H0.out.byt 13
  rw [hx13] at b13
  have w13 : IntKind.i64.wrap x13 = x13 := IntWalk.i64_in _ (by omega)
  replace hx13 := Lib.hid hx13
  obtain ⟨so, hso⟩ : ∃ so, strOfNums (sgOpt xs) = so := ⟨_, rfl⟩
  replace hso := Lib.hid hso
  have hsn : Hid (sgOpt xs = (xs.drop 20).take (z - 20)) := Lib.hid (by unfold sgOpt; rw [hz.out])
  have hsd : Hid (sgData xs = xs.drop z) := Lib.hid (by unfold sgData; rw [hz.out])
  have hn13 : 13 < n := by omega
  have i13 : (13 : Int) < (n : Int) := by omega
  have hgg : Hid (w.heap.size < g) := Lib.hid (by omega)
  have hle := H0.out.le
  have RD := Lib.hid (R.out.below (below_drew (Below.refl _ _)))
  have BD := Lib.hid (below_drew HB.out)
  have ZD := Lib.hid ((⟨Boxed.cell D.out, H0.out, hlt.out, D.out.lt⟩ : ZZ w3 w.heap.size ad n k xs).below (below_drew (Below.refl _ _)))
  have hnum : ∀ a m : Int, 0 ≤ a → (m = 2 ∨ m = 4) → a + m ≤ 20 → ∃ y, Hid (numL xs a.toNat m.toNat = y) ∧ Hid (Calls Try.prog 32 #[.int .i64 a, .int .i64 m, .pointer (some ⟨w.heap.size, 0, none⟩)] w3.drew fun e w' => e = .returned (.int .i64 y) ∧ w3.drew = w') :=
    fun a m h1 h2 h3 => ⟨_, Lib.hid rfl, Lib.hid (seg_number w.heap.size ad n k xs a m _ ZD.out.bt ZD.out.box h1 h2 (by omega))⟩
  obtain ⟨y0, Y0, N0⟩ := hnum 0 2 (by decide) (by decide) (by decide)
  obtain ⟨y1, Y1, N1⟩ := hnum 2 2 (by decide) (by decide) (by decide)
  obtain ⟨y2, Y2, N2⟩ := hnum 4 4 (by decide) (by decide) (by decide)
  obtain ⟨y3, Y3, N3⟩ := hnum 8 4 (by decide) (by decide) (by decide)
  obtain ⟨y4, Y4, N4⟩ := hnum 14 2 (by decide) (by decide) (by decide)
  obtain ⟨y5, Y5, N5⟩ := hnum 18 2 (by decide) (by decide) (by decide)
  clear hnum
  have HS : Hid (sgOf xs = Sg.mk y0 y1 y2 y3 x13 y4 y5) := Lib.hid (by
    have e0 := (numL_two8 xs 0).symm.trans Y0.out
    have e1 := (numL_two8 xs 2).symm.trans Y1.out
    have e2 := (numL_four8 xs 4).symm.trans Y2.out
    have e3 := (numL_four8 xs 8).symm.trans Y3.out
    have e4 := (numL_two8 xs 14).symm.trans Y4.out
    have e5 := (numL_two8 xs 18).symm.trans Y5.out
    unfold sgOf
    rw [← e0, ← e1, ← e2, ← e3, ← e4, ← e5, ← hx13.out])
  clear Y0 Y1 Y2 Y3 Y4 Y5
  have j20 : (20 : Int) ≤ (z : Int) := by omega
  have jzk : (z : Int) ≤ (k : Int) := by omega
  have jzn : (z : Int) ≤ (n : Int) := by omega
  have jz0 : (0 : Int) ≤ (z : Int) := by omega
  clear f0 f1 f2 f3 f4 f5 f6 f7 f8 c0 c1 c2 c3 c4 c5 c6 c7 c8 cb
  clear R HB H0 D hge hlt hlt2 b12
  go_wp2
  by_cases hk : k = z
  case neg =>
    have hk20 : ¬ (k = 20) := by omega
    have hO : ∀ W, ZZ W w.heap.size ad n k xs → (convert 22 9 ((.slice (some { block := ad.block, off := ad.off + 20 }) (z - 20) (k - 20)))).run Try.prog W = .ok (.string so) W := fun W hW => by
      rw [← hso.out, hsn.out]
      exact Bts.run_string (P := Try.prog) ((((hW.bt.drop_some 20 (by omega) hk20).take (z - 20) (by omega)))) 22 9 Try.underlying22 Try.underlying5 Try.underlying9
    replace hO := Lib.hid hO
    go_region_held3 (fun w' => w'.cell? ⟨w.heap.size, 0, none⟩ = some (.slice (some ad) n k) ∧ w'.cell? { block := ad.block, off := ad.off + 13 } = some (.int .u8 x13) ∧ (convert 22 9 ((.slice (some { block := ad.block, off := ad.off + 20 }) (z - 20) (k - 20)))).run Try.prog w' = .ok (.string so) w')
      ((refine ZZ.cs (xs := xs) ?_ hn13 hx13.out hO.out; first | (with_reducible exact Z7.out) | (with_reducible exact ZD.out) | exact Z7.out.set9 hgg.out (Sg.mk y0 y1 y2 y3 x13 y4 y5) so (.slice A7 n7 k7)))
      (first
        | (go_at_call 32
           with_reducible refine N0.out.mono ?_
           rintro e w' ⟨rfl, rfl⟩)
        | (go_at_call 32
           with_reducible refine N1.out.mono ?_
           rintro e w' ⟨rfl, rfl⟩)
        | (go_at_call 32
           with_reducible refine N2.out.mono ?_
           rintro e w' ⟨rfl, rfl⟩)
        | (go_at_call 32
           with_reducible refine N3.out.mono ?_
           rintro e w' ⟨rfl, rfl⟩)
        | (go_at_call 32
           with_reducible refine N4.out.mono ?_
           rintro e w' ⟨rfl, rfl⟩)
        | (go_at_call 32
           with_reducible refine N5.out.mono ?_
           rintro e w' ⟨rfl, rfl⟩)
        | (go_at_call 33
           refine (slices_Clone _ _ _ (sgData xs) _ ((by rw [hsd.out]; exact ZD.out.bt.drop_some z (by omega) hk))).mono ?_
           rintro e w7 ⟨v7, rfl, o7, hB7⟩
           have Z7 := Lib.hid (ZD.out.below hB7)
           have R7 := Lib.hid (RD.out.below hB7)
           obtain ⟨A7, n7, k7, rfl, _⟩ := o7.bts
           have b7 := blk_lt RD.out.blk
           have b8 := BD.out.size
           replace o7 := Lib.hid o7
           have B7 := Lib.hid (below_step2 BD.out hB7)
           have f0 := R7.out.f 0
           have f1 := R7.out.f 1
           have f2 := R7.out.f 2
           have f3 := R7.out.f 3
           have f4 := R7.out.f 4
           have f5 := R7.out.f 5
           have f6 := R7.out.f 6
           have f7 := R7.out.f 7
           have f8 := R7.out.f 8
           have c0 := R7.out.c0
           have c1 := R7.out.c1
           have c2 := R7.out.c2
           have c3 := R7.out.c3
           have c4 := R7.out.c4
           have c5 := R7.out.c5
           have c6 := R7.out.c6
           have c7 := R7.out.c7
           have c8 := R7.out.c8
           clear hB7))
    go_wp2
    have q := (R7.out.set9 (Sg.mk y0 y1 y2 y3 x13 y4 y5) so A7 n7 k7).blk
    refine ret_cell2 rfl rfl q Try.underlying24 rfl (by kernel_rfl) (SgPost.ok hE.out HS.out hso.out ?_ ?_)
    · exact (o7.out.set9 b7 (Sg.mk y0 y1 y2 y3 x13 y4 y5) so (.slice A7 n7 k7)).lower b8
    · exact below_set9 B7.out hgh.out (Sg.mk y0 y1 y2 y3 x13 y4 y5) so (.slice A7 n7 k7)
  case pos =>
    subst hk
    obtain rfl : n = k := by omega
    have hd0 : Hid (sgData xs = []) := Lib.hid (by rw [hsd.out, List.drop_of_length_le (by rw [hl.out]; exact Nat.le_refl _)])
    by_cases hk20 : n = 20
    case neg =>
      have hO : ∀ W, ZZ W w.heap.size ad n n xs → (convert 22 9 ((.slice (some { block := ad.block, off := ad.off + 20 }) (n - 20) (n - 20)))).run Try.prog W = .ok (.string so) W := fun W hW => by
        rw [← hso.out, hsn.out]
        exact Bts.run_string (P := Try.prog) ((((hW.bt.drop_some 20 (by omega) hk20).take (n - 20) (by omega)))) 22 9 Try.underlying22 Try.underlying5 Try.underlying9
      replace hO := Lib.hid hO
      go_region_held3 (fun w' => w'.cell? ⟨w.heap.size, 0, none⟩ = some (.slice (some ad) n n) ∧ w'.cell? { block := ad.block, off := ad.off + 13 } = some (.int .u8 x13) ∧ (convert 22 9 ((.slice (some { block := ad.block, off := ad.off + 20 }) (n - 20) (n - 20)))).run Try.prog w' = .ok (.string so) w')
        ((refine ZZ.cs (xs := xs) ?_ hn13 hx13.out hO.out; first | (with_reducible exact Z7.out) | (with_reducible exact ZD.out) | exact Z7.out.set9 hgg.out (Sg.mk y0 y1 y2 y3 x13 y4 y5) so (.slice A7 n7 k7)))
        (first
          | (go_at_call 32
             with_reducible refine N0.out.mono ?_
             rintro e w' ⟨rfl, rfl⟩)
          | (go_at_call 32
             with_reducible refine N1.out.mono ?_
             rintro e w' ⟨rfl, rfl⟩)
          | (go_at_call 32
             with_reducible refine N2.out.mono ?_
             rintro e w' ⟨rfl, rfl⟩)
          | (go_at_call 32
             with_reducible refine N3.out.mono ?_
             rintro e w' ⟨rfl, rfl⟩)
          | (go_at_call 32
             with_reducible refine N4.out.mono ?_
             rintro e w' ⟨rfl, rfl⟩)
          | (go_at_call 32
             with_reducible refine N5.out.mono ?_
             rintro e w' ⟨rfl, rfl⟩)
          | (go_at_call 33
             refine (slices_Clone _ _ _ (sgData xs) _ ((by rw [hd0.out]; exact Bts.nil_ _ _ _ (by omega)))).mono ?_
             rintro e w7 ⟨v7, rfl, o7, hB7⟩
             have Z7 := Lib.hid (ZD.out.below hB7)
             have R7 := Lib.hid (RD.out.below hB7)
             obtain ⟨A7, n7, k7, rfl, _⟩ := o7.bts
             have b7 := blk_lt RD.out.blk
             have b8 := BD.out.size
             replace o7 := Lib.hid o7
             have B7 := Lib.hid (below_step2 BD.out hB7)
             have f0 := R7.out.f 0
             have f1 := R7.out.f 1
             have f2 := R7.out.f 2
             have f3 := R7.out.f 3
             have f4 := R7.out.f 4
             have f5 := R7.out.f 5
             have f6 := R7.out.f 6
             have f7 := R7.out.f 7
             have f8 := R7.out.f 8
             have c0 := R7.out.c0
             have c1 := R7.out.c1
             have c2 := R7.out.c2
             have c3 := R7.out.c3
             have c4 := R7.out.c4
             have c5 := R7.out.c5
             have c6 := R7.out.c6
             have c7 := R7.out.c7
             have c8 := R7.out.c8
             clear hB7))
      go_wp2
      have q := (R7.out.set9 (Sg.mk y0 y1 y2 y3 x13 y4 y5) so A7 n7 k7).blk
      refine ret_cell2 rfl rfl q Try.underlying24 rfl (by kernel_rfl) (SgPost.ok hE.out HS.out hso.out ?_ ?_)
      · exact (o7.out.set9 b7 (Sg.mk y0 y1 y2 y3 x13 y4 y5) so (.slice A7 n7 k7)).lower b8
      · exact below_set9 B7.out hgh.out (Sg.mk y0 y1 y2 y3 x13 y4 y5) so (.slice A7 n7 k7)
    case pos =>
      subst hk20
      have hO : ∀ W, ZZ W w.heap.size ad 20 20 xs → (convert 22 9 ((.slice (some ad) 0 0))).run Try.prog W = .ok (.string so) W := fun W hW => by
        rw [← hso.out, hsn.out]
        exact Bts.run_string (P := Try.prog) ((show Bts W (some ad) 0 0 ((xs.drop 20).take (20 - 20)) from Bts.nil_ _ _ _ (by omega))) 22 9 Try.underlying22 Try.underlying5 Try.underlying9
      replace hO := Lib.hid hO
      go_region_held3 (fun w' => w'.cell? ⟨w.heap.size, 0, none⟩ = some (.slice (some ad) 20 20) ∧ w'.cell? { block := ad.block, off := ad.off + 13 } = some (.int .u8 x13) ∧ (convert 22 9 ((.slice (some ad) 0 0))).run Try.prog w' = .ok (.string so) w')
        ((refine ZZ.cs (xs := xs) ?_ hn13 hx13.out hO.out; first | (with_reducible exact Z7.out) | (with_reducible exact ZD.out) | exact Z7.out.set9 hgg.out (Sg.mk y0 y1 y2 y3 x13 y4 y5) so (.slice A7 n7 k7)))
        (first
          | (go_at_call 32
             with_reducible refine N0.out.mono ?_
             rintro e w' ⟨rfl, rfl⟩)
          | (go_at_call 32
             with_reducible refine N1.out.mono ?_
             rintro e w' ⟨rfl, rfl⟩)
          | (go_at_call 32
             with_reducible refine N2.out.mono ?_
             rintro e w' ⟨rfl, rfl⟩)
          | (go_at_call 32
             with_reducible refine N3.out.mono ?_
             rintro e w' ⟨rfl, rfl⟩)
          | (go_at_call 32
             with_reducible refine N4.out.mono ?_
             rintro e w' ⟨rfl, rfl⟩)
          | (go_at_call 32
             with_reducible refine N5.out.mono ?_
             rintro e w' ⟨rfl, rfl⟩)
          | (go_at_call 33
             refine (slices_Clone _ _ _ (sgData xs) _ ((by rw [hd0.out]; exact Bts.nil_ _ _ _ (by omega)))).mono ?_
             rintro e w7 ⟨v7, rfl, o7, hB7⟩
             have Z7 := Lib.hid (ZD.out.below hB7)
             have R7 := Lib.hid (RD.out.below hB7)
             obtain ⟨A7, n7, k7, rfl, _⟩ := o7.bts
             have b7 := blk_lt RD.out.blk
             have b8 := BD.out.size
             replace o7 := Lib.hid o7
             have B7 := Lib.hid (below_step2 BD.out hB7)
             have f0 := R7.out.f 0
             have f1 := R7.out.f 1
             have f2 := R7.out.f 2
             have f3 := R7.out.f 3
             have f4 := R7.out.f 4
             have f5 := R7.out.f 5
             have f6 := R7.out.f 6
             have f7 := R7.out.f 7
             have f8 := R7.out.f 8
             have c0 := R7.out.c0
             have c1 := R7.out.c1
             have c2 := R7.out.c2
             have c3 := R7.out.c3
             have c4 := R7.out.c4
             have c5 := R7.out.c5
             have c6 := R7.out.c6
             have c7 := R7.out.c7
             have c8 := R7.out.c8
             clear hB7))
      go_wp2
      have q := (R7.out.set9 (Sg.mk y0 y1 y2 y3 x13 y4 y5) so A7 n7 k7).blk
      refine ret_cell2 rfl rfl q Try.underlying24 rfl (by kernel_rfl) (SgPost.ok hE.out HS.out hso.out ?_ ?_)
      · exact (o7.out.set9 b7 (Sg.mk y0 y1 y2 y3 x13 y4 y5) so (.slice A7 n7 k7)).lower b8
      · exact below_set9 B7.out hgh.out (Sg.mk y0 y1 y2 y3 x13 y4 y5) so (.slice A7 n7 k7)
end Go.Proofs.Ytljdkfgnoalgpaa

/- What is laid down of a datagram: its bytes, or an error. Conditions: those that each lemma states. -/
import Derived.Test.YtbmlbomildfmcaaCUdpE
import Derived.Test.YtbmlbomildfmcaaUdpLaw
namespace Go.Proofs.Ytbmlbomildfmcaa
open Go.RowKit Go.Proofs.YtbmlbomildfmcaaW.PrintWords

theorem OwnB.sl {w : World} {base : Nat} {A : Option Addr} {n c : Nat} {xs : List Int} (h : OwnB w base (.slice A n c) xs) : Bts w A n c xs := by
  obtain ⟨A', n', c', e, hb⟩ := h.bts
  injection e with e1 e2 e3
  subst e1 e2 e3
  exact hb
theorem dgLayErr_zero {x y : Int} {n a b : Nat} : dgLayErr x y n a b = 0 ↔ (0 ≤ x ∧ x ≤ 65535 ∧ 0 ≤ y ∧ y ≤ 65535) ∧ pairOk a b ∧ 8 + n ≤ 65535 := by
  unfold dgLayErr
  constructor
  · intro h
    split at h
    · omega
    next q =>
    split at h
    · omega
    next q2 =>
    have q' := Decidable.not_not.1 q
    exact ⟨⟨q'.1, q'.2.1, q'.2.2.1, q'.2.2.2.1⟩, q'.2.2.2.2, by omega⟩
  · rintro ⟨⟨h1, h2, h3, h4⟩, h5, h6⟩
    rw [if_neg (fun q => q ⟨h1, h2, h3, h4, h5⟩), if_neg (by omega)]
/-- What a call of Bytes hands back. -/
def LaidPost (err : Int) (bs : List Int) (w : World) (e : Ending) (w' : World) : Prop :=
  ∃ A n c, e = .returned (.tuple #[.slice A n c, .int .i64 err]) ∧ OwnB w' w.heap.size (.slice A n c) (if err = 0 then bs else []) ∧ Below w.heap.size w w'

theorem udp_Bytes (x y : Int) (A : Option Addr) (n c : Nat) (xs : List Int) (s d : ByteArray) (w : World) (hx : I64 x) (hy : I64 y) (hs : s.size ≤ 140737488351232) (hd : d.size ≤ 140737488351232) (h0 : Bts w A n c xs) :
    Calls Try.prog 9 #[.agg #[.int .i64 x, .int .i64 y, .slice A n c], .string s, .string d] w (LaidPost (dgLayErr x y n s.size d.size) (dgBytes x y xs (bytesOf s) (bytesOf d)) w) := by
  have hm := h0.max
  by_cases h1 : 0 ≤ x ∧ x ≤ 65535 ∧ 0 ≤ y ∧ y ≤ 65535 ∧ pairOk s.size d.size
  · by_cases h2 : 65535 < 8 + n
    · refine (udp_Bytes_long x y A n c s d w hs hd hm ⟨h1.1, h1.2.1, h1.2.2.1, h1.2.2.2.1⟩ h1.2.2.2.2 h2).mono fun e w' ⟨he, hB⟩ => ?_
      have q : dgLayErr x y n s.size d.size = 2 := by unfold dgLayErr; rw [if_neg (fun q => q h1), if_pos h2]
      rw [q]
      exact ⟨none, 0, 0, he, OwnB.nil_ _ _, hB⟩
    · refine (udp_Bytes_ok x y A n c xs s d w hs hd h0 ⟨h1.1, h1.2.1, h1.2.2.1, h1.2.2.2.1⟩ h1.2.2.2.2 (by omega)).mono fun e w' ⟨v, he, ho, hB⟩ => ?_
      have q : dgLayErr x y n s.size d.size = 0 := dgLayErr_zero.2 ⟨⟨h1.1, h1.2.1, h1.2.2.1, h1.2.2.2.1⟩, h1.2.2.2.2, by omega⟩
      rw [q]
      obtain ⟨A', n', c', rfl, _⟩ := ho.bts
      exact ⟨A', n', c', he, ho, hB⟩
  · refine (udp_Bytes_bad x y A n c s d w hx hy hs hd hm h1).mono fun e w' ⟨he, hB⟩ => ?_
    have q : dgLayErr x y n s.size d.size = 1 := by unfold dgLayErr; rw [if_pos h1]
    rw [q]
    exact ⟨none, 0, 0, he, OwnB.nil_ _ _, hB⟩
theorem Dg.data {w : World} {g : Nat} {x y : Int} {A : Option Addr} {n c : Nat} (h : Dg w g x y A n c) (A' : Option Addr) (n' c' : Nat) : Dg (w.setCell ⟨g, 2, none⟩ (.slice A' n' c')) g x y A' n' c' := ⟨blk_set h.blk 2 _⟩
theorem Dg.far {w : World} {g : Nat} {x y : Int} {A : Option Addr} {n c : Nat} (h : Dg w g x y A n c) {p : Addr} (hne : g ≠ p.block) (v : Value) : Dg (w.setCell p v) g x y A n c := ⟨blk_far h.blk hne v⟩
theorem below_size_lt {w w1 : World} {o : Obj} (h : Below (w.alloc o).heap.size (w.alloc o) w1) : w.heap.size < w1.heap.size := by
  have := h.size
  simp at this
  omega
end Go.Proofs.Ytbmlbomildfmcaa

/- Contract of a block under a key. Conditions: each argument is of its Go type. -/
import Derived.Test.YtgkphopdmkfcgaaCAesE
import Derived.Test.YtgkphopdmkfcgaaAesE
namespace Go.Proofs.Ytgkphopdmkfcgaa
open Go.RowKit Go.Proofs.YtgkphopdmkfcgaaW.PrintWords

theorem encErr_ok {n m : Nat} (h1 : n = 16 ∨ n = 32) (h2 : m = 16) : encErr n m = 0 := if_pos ⟨h1, h2⟩
theorem encErr_no {n m : Nat} (h : ¬ ((n = 16 ∨ n = 32) ∧ m = 16)) : encErr n m = 1 := if_neg h
theorem keyErr_zero {n : Nat} : keyErr n = 0 ↔ n = 16 ∨ n = 32 := by
  unfold keyErr
  by_cases h : n = 16 ∨ n = 32
  · rw [if_pos h]; exact ⟨fun _ => h, fun _ => rfl⟩
  · rw [if_neg h]; exact ⟨(fun e => by cases e), fun e => absurd e h⟩
theorem keys_blk {ks : List Int} {n m : Nat} (hl : ks.length = n) (h : n = 16 ∨ n = 32) : blkErr (keysS ks).length m = encErr n m := by
  subst hl
  rw [keysS_len h]
  unfold blkErr encErr
  rcases h with h | h <;> rw [h] <;> simp

set_option maxHeartbeats 1000000 in
theorem aes_Encrypt (A : Option Addr) (n c : Nat) (ks : List Int) (B : Option Addr) (m d : Nat) (ys : List Int) (w : World) (h : Bts w A n c ks) (h2 : Bts w B m d ys) :
    Calls Try.prog 16 #[.slice A n c, .slice B m d] w (ReadPost (encErr n m) (blockS (keysS ks) ys) w) := by
  have hl := h.len
  go_enter Try.func16, Try.ntmps16
  go_wp2_with fail
  refine (aes_Keys A n c ks w h).mono ?_
  rintro e w2 ⟨A2, n2, c2, rfl, o2, hB2⟩
  replace h2 := h2.below hB2
  by_cases hn : n = 16 ∨ n = 32
  · rw [keyErr_zero.2 hn] at o2 ⊢
    rw [if_pos rfl] at o2
    have hl2 := o2.sl.len
    have hE := keys_blk (m := m) hl hn
    rw [hl2] at hE
    replace hE := Lib.hid hE
    clear hn hl hl2
    go_wp2_with fail
    refine (aes_Block A2 n2 c2 _ B m d ys w2 o2.sl h2).mono ?_
    rintro e w3 ⟨A3, n3, c3, rfl, t3, hB3⟩
    rw [hE.out] at t3 ⊢
    go_wp2
    go_ret2
    exact ⟨_, _, _, rfl, t3, below_step2 hB2 hB3⟩
  · rw [show keyErr n = 1 from if_neg hn]
    have hE := Lib.hid (encErr_no (m := m) (fun q => hn q.1))
    clear hn hl o2
    go_wp2
    go_ret2
    show ReadPost _ _ _ _ _
    rw [hE.out]
    exact ⟨none, 0, 0, rfl, Bts.nil_ none 0 _ (by omega), hB2⟩
end Go.Proofs.Ytgkphopdmkfcgaa

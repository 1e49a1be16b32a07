/- The examples of layer 23's document hold. Conditions: none. -/
import Derived.Test.YtmcidhdjbcjonaaCRto
namespace Go.Proofs.Ytmcidhdjbcjonaa
open Go.RowKit Go.Proofs.YtmcidhdjbcjonaaW.PrintWords

set_option maxHeartbeats 4000000 in
theorem awake23 (w : World) :
    Calls Try.prog 17 #[] w fun e w' => e = .returned (.bool true) ∧ Below w.heap.size w w' := by
  go_enter Try.func17, Try.ntmps17
  go_wp2_with fail
  refine (rto_New _).mono ?_
  rintro e w1 ⟨rfl, t1, hB1⟩
  go_wp2_with fail
  refine (rto_New _).mono ?_
  rintro e w2 ⟨rfl, u2, hB2⟩
  have hlt := t1.lt
  have t2 := t1.below hB2
  have hs2 := hB2.size
  have hB := below_step2 hB1 hB2
  have hgw : w.heap.size ≤ w1.heap.size := hB1.size
  have hne : w.heap.size ≠ w1.heap.size := by omega
  clear t1 hB1 hB2
  go_wp2_with fail
  refine (rto_Value _ _ _ t2 St.ok_new (by decide)).mono ?_
  rintro e w' ⟨rfl, nq, rfl⟩
  replace t2 := t2.drewN nq
  replace u2 := u2.drewN nq
  replace hB := pw_below_drewN hB nq
  generalize w2.drewN nq = w3 at t2 u2 hB ⊢
  rw [show St.new.value = 100 from rfl]
  go_wp2_with fail
  refine (rto_Back _ _ _ t2 (by decide)).mono ?_
  rintro e w4 ⟨rfl, t3, hg3⟩
  have u3 := u2.grown hg3 (by simpa using hne.symm)
  replace hB := below_grown hB hB.size hg3 (Nat.le_refl _)
  clear t2 u2 hg3
  go_wp2_with fail
  refine (rto_Value _ _ _ t3 (St.ok_back St.ok_new) (by decide)).mono ?_
  rintro e w' ⟨rfl, nq, rfl⟩
  replace u3 := u3.drewN nq
  replace hB := pw_below_drewN hB nq
  generalize w4.drewN nq = w5 at u3 hB ⊢
  rw [show St.new.back.value = 200 from rfl]
  go_wp2_with fail
  refine (rto_Sample _ _ 200 _ u3 St.ok_new (by decide) (by decide)).mono ?_
  rintro e w6 ⟨rfl, u4, hg4⟩
  replace hB := below_grown hB hB.size hg4 hgw
  have ok4 := St.ok_sample St.ok_new 200 (by decide) (by decide)
  clear t3 u3 hg4
  go_wp2_with fail
  refine (rto_Smooth _ _ _ u4).mono ?_
  rintro e w' ⟨rfl, nq, rfl⟩
  replace u4 := u4.drewN nq
  replace hB := pw_below_drewN hB nq
  generalize w6.drewN nq = w7 at u4 hB ⊢
  rw [show (St.new.sample 200).s = 1600 from rfl, show (St.new.sample 200).v = 400 from rfl]
  go_wp2_with fail
  refine (rto_Value _ _ _ u4 ok4 (by decide)).mono ?_
  rintro e w' ⟨rfl, nq, rfl⟩
  replace u4 := u4.drewN nq
  replace hB := pw_below_drewN hB nq
  generalize w7.drewN nq = w8 at u4 hB ⊢
  rw [show (St.new.sample 200).value = 600 from rfl]
  go_wp2_with fail
  refine (rto_Sample _ _ 100 _ u4 ok4 (by decide) (by decide)).mono ?_
  rintro e w9 ⟨rfl, u5, hg5⟩
  replace hB := below_grown hB hB.size hg5 hgw
  clear u4 hg5
  go_wp2_with fail
  refine (rto_Smooth _ _ _ u5).mono ?_
  rintro e w' ⟨rfl, nq, rfl⟩
  replace hB := pw_below_drewN hB nq
  generalize w9.drewN nq = w10 at hB ⊢
  rw [show ((St.new.sample 200).sample 100).s = 1500 from rfl, show ((St.new.sample 200).sample 100).v = 400 from rfl]
  go_wp2
  go_ret
  exact ⟨rfl, hB⟩
end Go.Proofs.Ytmcidhdjbcjonaa

/- The examples of layer 7's document hold; a view of what is made. Conditions: none. -/
import Derived.Test.YtfcccglkhdfodaaCIcmpE
namespace Go.Proofs.Ytfcccglkhdfodaa
open Go.RowKit Go.Proofs.YtfcccglkhdfodaaW.PrintWords

/-- What a Make hands back, as one form. -/
theorem MadePost.view {k r : Int} {wide : Bool} {xs : List Int} {w : World} {e : Ending} {w' : World} (h : MadePost k r wide xs w e w') :
    ∃ (x y q : Int) (A : Option Addr) (n c : Nat) (zs : List Int), e = .returned (.tuple #[.agg #[.int .i64 x, .int .i64 y, .int .i64 q, .slice A n c], .int .i64 (icMakeErr k r)]) ∧ Bts w' A n c zs ∧ Below w.heap.size w w' ∧
      x = (if icMakeErr k r = 0 then icType k wide else 0) ∧ y = (if icMakeErr k r = 0 then icCode k wide else 0) ∧ q = (if icMakeErr k r = 0 then r else 0) ∧ zs = (if icMakeErr k r = 0 then xs else []) := by
  obtain ⟨hB, ⟨hn, rfl⟩ | ⟨h0, v, rfl, ho⟩⟩ := h
  · have e1 : icMakeErr k r = 1 := by unfold icMakeErr at hn ⊢; split <;> simp_all
    exact ⟨0, 0, 0, none, 0, 0, [], by rw [e1], Bts.nil_ none 0 _ (by omega), hB, by rw [if_neg hn], by rw [if_neg hn], by rw [if_neg hn], by rw [if_neg hn]⟩
  · obtain ⟨A, n, c, rfl, hb⟩ := ho.bts
    exact ⟨_, _, _, A, n, c, _, by rw [h0], hb, hB, by rw [if_pos h0], by rw [if_pos h0], by rw [if_pos h0], by rw [if_pos h0]⟩
set_option maxRecDepth 100000 in
theorem awake07_bytes : icBytes 8 0 65537 [] (bytesOf ⟨#[10, 0, 0, 1]⟩) (bytesOf ⟨#[10, 0, 0, 2]⟩) = [8, 0, 247, 253, 0, 1, 0, 1] := by decide +kernel
set_option maxRecDepth 100000 in
theorem awake07_err : icErr [8, 0, 247, 253, 0, 1, 0, 1] (bytesOf ⟨#[10, 0, 0, 1]⟩) (bytesOf ⟨#[10, 0, 0, 2]⟩) = 0 := by decide +kernel
theorem awake07_made : icMakeErr 1 65537 = 0 := by decide
theorem awake07_lay : icLayErr 8 0 65537 0 4 4 = 0 := by decide
set_option maxHeartbeats 2000000 in
theorem awake07 (w : World) : Calls Try.prog 13 #[] w fun e w' => e = .returned (.bool true) ∧ Below w.heap.size w w' := by
  go_enter Try.func13, Try.ntmps13
  go_wp2_with fail
  refine (icmp_Make 1 65537 false none 0 0 [] w (by unfold I64; omega) (Bts.nil_ none 0 w (by omega))).mono ?_
  intro e w2 hp
  obtain ⟨x, y, q, A, n, c, zs, rfl, h, hB, rfl, rfl, rfl, rfl⟩ := hp.view
  clear hp
  rw [awake07_made] at h ⊢
  replace h : Bts w2 A n c [] := h
  obtain rfl : n = 0 := h.len.symm
  rw [if_pos rfl, if_pos rfl, if_pos rfl, show icType 1 false = 8 from rfl, show icCode 1 false = 0 from rfl]
  have G := Mg.new w2 8 0 65537 A 0 c
  replace h := h.alloc (.cells #[.int .i64 8, .int .i64 0, .int .i64 65537, .slice A 0 c] 24)
  replace hB := hB.alloc hB.size (.cells #[.int .i64 8, .int .i64 0, .int .i64 65537, .slice A 0 c] 24)
  go_wp2_with fail
  generalize w2.alloc (.cells #[.int .i64 8, .int .i64 0, .int .i64 65537, .slice A 0 c] 24) = w3 at G h hB ⊢
  refine (icmp_Bytes 8 0 65537 A 0 c [] ⟨#[10, 0, 0, 1]⟩ ⟨#[10, 0, 0, 2]⟩ w3 (by unfold I64; omega) (by unfold I64; omega) (by unfold I64; omega) (by decide) (by decide) h).mono ?_
  rintro e w4 ⟨A4, n4, c4, rfl, o4, hB4⟩
  rw [show icLayErr 8 0 65537 0 (ByteArray.mk #[10, 0, 0, 1]).size (ByteArray.mk #[10, 0, 0, 2]).size = 0 from awake07_lay] at o4 ⊢
  replace o4 : OwnB w4 w3.heap.size (.slice A4 n4 c4) (icBytes 8 0 65537 [] (bytesOf ⟨#[10, 0, 0, 1]⟩) (bytesOf ⟨#[10, 0, 0, 2]⟩)) := o4
  rw [awake07_bytes] at o4
  have t4 := o4.sl
  replace hB := below_step2 hB hB4
  clear hB4 o4 G h
  go_wp2_with fail
  refine (icmp_Parse A4 n4 c4 _ ⟨#[10, 0, 0, 1]⟩ ⟨#[10, 0, 0, 2]⟩ w4 (by decide) (by decide) t4).mono ?_
  intro e w5 hp
  obtain ⟨x5, y5, r5, A5, n5, c5, z5, rfl, t5, hB5, ex, ey, er, ez⟩ := hp.view
  clear hp t5 ex ey er ez
  rw [awake07_err]
  replace hB5 := hB5.alloc hB5.size (.cells #[.int .i64 x5, .int .i64 y5, .int .i64 r5, .slice A5 n5 c5] 24)
  replace t4 := t4.below hB5
  replace hB := below_step2 hB hB5
  clear hB5
  have k4 := t4.run_string (P := Try.prog) 22 9 Try.underlying22 Try.underlying5 Try.underlying9
  have ek : (strOfNums [8, 0, 247, 253, 0, 1, 0, 1]).toList = [8, 0, 247, 253, 0, 1, 0, 1] := by decide +kernel
  go_wp2_with fail
  generalize w5.alloc (.cells #[.int .i64 x5, .int .i64 y5, .int .i64 r5, .slice A5 n5 c5] 24) = w6 at t4 hB k4 ⊢
  clear k4 t4 ek
  refine (icmp_Kind 3 4 0 none 0 0 false w6).mono ?_
  rintro e w7 ⟨rfl, hB7⟩
  rw [show icKind 3 4 false = 4 from rfl]
  replace hB := below_step2 hB hB7
  clear hB7
  go_wp2_with fail
  refine (icmp_Kind 3 4 0 none 0 0 true w7).mono ?_
  rintro e w8 ⟨rfl, hB8⟩
  rw [show icKind 3 4 true = 5 from rfl]
  replace hB := below_step2 hB hB8
  clear hB8
  go_wp2_with fail
  refine (icmp_Error 6 _).mono ?_
  rintro e w' ⟨rfl, rfl⟩
  go_wp2
  go_ret
  exact ⟨rfl, hB⟩
end Go.Proofs.Ytfcccglkhdfodaa

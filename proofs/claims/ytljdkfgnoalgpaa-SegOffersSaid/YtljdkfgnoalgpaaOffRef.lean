/- What the reference makes of options, by the printed functions. Conditions: few bytes. -/
import Derived.Test.YtljdkfgnoalgpaaCMss
import Derived.Test.YtljdkfgnoalgpaaCSegC
import Derived.Test.YtljdkfgnoalgpaaPSegOffersx2
namespace Go.Proofs.Ytljdkfgnoalgpaa
open Go.RowKit Go.Proofs.YtljdkfgnoalgpaaW.PrintWords Go.Proofs.Ytljdkfgnoalgpaa.PSegOffers

theorem bt_get (o : ByteArray) (i : Nat) (h : i < o.size) : bt o (i : Int) = (bytesOf o).getD i 0 := by
  rw [bytesOf_get o i h, bt, Int.toNat_natCast, dif_pos h]
/-- The reference's account of what is found, as the pair. -/
def toT (x : Int) : Int × Int := if x < 0 then (0, 6) else (x, 0)
theorem drop_get (l : List Int) (i j : Nat) : (l.drop i).getD j 0 = l.getD (i + j) 0 := by
  simp [List.getD_eq_getElem?_getD]
theorem take_get (l : List Int) (m j : Nat) (h : j < m) : (l.take m).getD j 0 = l.getD j 0 := by
  simp [List.getD_eq_getElem?_getD, h]
theorem end_T (x : Int) : (if x < 0 then (some ((0 : Int), (6 : Int))) else some (x, 0)) = some (toT x) := by
  unfold toT
  split <;> rfl
theorem refMssL (o : ByteArray) (ho : o.size ≤ 140737488351232) : ∀ (d i : Nat), i ≤ o.size → o.size - i ≤ d → ∀ (k : Nat) (x : Int), 3 * d + 2 ≤ k →
    redoubtref06_Mss.l0 k o x i = some (mssL ((bytesOf o).drop i).length ((bytesOf o).drop i) (toT x)) := by
  intro d
  induction d with
  | zero =>
    intro i hi hd k x hk
    obtain ⟨k, rfl⟩ : ∃ j, k = j + 1 + 1 := ⟨k - 2, by omega⟩
    rw [redoubtref06_Mss.l0, if_neg (by omega), redoubtref06_Mss.j1, if_neg (by decide), end_T, mssL_end (.inl (List.drop_eq_nil_of_le (by rw [bytesOf_length]; omega)))]
  | succ d ih =>
    intro i hi hd k x hk
    obtain ⟨k, rfl⟩ : ∃ j, k = j + 1 + 1 + 1 := ⟨k - 3, by omega⟩
    by_cases h0 : i = o.size
    · rw [redoubtref06_Mss.l0, if_neg (by omega), redoubtref06_Mss.j1, if_neg (by decide), end_T, mssL_end (.inl (List.drop_eq_nil_of_le (by rw [bytesOf_length]; omega)))]
    have hlen : ((bytesOf o).drop i).length = o.size - i := by rw [List.length_drop, bytesOf_length]
    have g : ∀ j : Nat, i + j < o.size → bt o ((i : Int) + j) = ((bytesOf o).drop i).getD j 0 := fun j hj => by
      rw [drop_get, show (i : Int) + j = ((i + j : Nat) : Int) by omega]
      exact bt_get o (i + j) hj
    have by_ : ∀ j, 0 ≤ ((bytesOf o).drop i).getD j 0 ∧ ((bytesOf o).drop i).getD j 0 ≤ 255 := fun j => by rw [drop_get]; exact byt_get (byt_bytesOf o) _
    have dd : ∀ m, ((bytesOf o).drop i).drop m = (bytesOf o).drop (i + m) := fun m => by rw [List.drop_drop]
    obtain ⟨r, hr⟩ : ∃ r, (bytesOf o).drop i = r := ⟨_, rfl⟩
    rw [hr] at hlen dd ⊢
    simp only [hr] at g by_
    have hrn : r ≠ [] := fun e => by rw [e] at hlen; simp at hlen; omega
    have g0 := g 0 (by omega)
    rw [show (i : Int) + (0 : Nat) = i by omega] at g0
    have wr : ∀ y : Int, 0 ≤ y → y ≤ 255 → wrap64 ((i : Int) + y) = (i : Int) + y := fun y h1 h2 => by unfold wrap64; omega
    have wy : ∀ j, wrap64 (r.getD j 0) = r.getD j 0 := fun j => by have := by_ j; unfold wrap64; omega
    rw [redoubtref06_Mss.l0, if_pos (by omega), if_pos (by omega), g0, redoubtref06_Mss.j1]
    by_cases z0 : r.getD 0 0 = 0
    · rw [z0, if_neg (by decide), end_T, mssL_end (.inr z0)]
    rw [if_pos (bne_iff_ne.2 z0), if_pos (by omega), if_pos (by omega), g0, wr 1 (by omega) (by omega)]
    by_cases z1 : r.getD 0 0 = 1
    · have ho1 : optLen r = some 1 := by unfold optLen; rw [if_pos z1]
      rw [if_pos z1, show (i : Int) + 1 = ((i + 1 : Nat) : Int) by omega, ih (i + 1) (by omega) (by omega) _ _ (by omega), mssL_some hrn z0 ho1, dd,
        show mssStep (r.take 1) (toT x) = toT x from if_neg fun h => by have := h.2.1; rw [take_get _ _ _ (by omega), z1] at this; omega]
    rw [if_neg z1]
    have none_ : optLen r = none → (some ((0 : Int), (4 : Int))) = some (mssL r.length r (toT x)) := fun h => by rw [mssL_none hrn z0 h]
    by_cases z2 : r.length < 2
    · rw [if_pos (by omega), redoubtref06_Mss.j2, if_pos rfl]
      exact none_ (by unfold optLen; rw [if_neg z1, if_pos (.inl z2)])
    have g1 := g 1 (by omega)
    rw [show (i : Int) + (1 : Nat) = i + 1 by omega] at g1
    rw [if_neg (by omega), if_pos (by omega), if_pos (by omega), g1]
    by_cases z3 : r.getD 1 0 < 2
    · rw [if_pos z3, redoubtref06_Mss.j2, if_pos rfl]
      exact none_ (by unfold optLen; rw [if_neg z1, if_pos (.inr (.inl z3))])
    have b1 := by_ 1
    rw [if_neg z3, wy, wr _ (by omega) (by omega), redoubtref06_Mss.j2]
    by_cases z4 : (r.length : Int) < r.getD 1 0
    · rw [if_pos (decide_eq_true (by omega))]
      exact none_ (by unfold optLen; rw [if_neg z1, if_pos (.inr (.inr z4))])
    have hos : optLen r = some (r.getD 1 0).toNat := by unfold optLen; rw [if_neg z1, if_neg (by omega)]
    obtain ⟨m, hm⟩ : ∃ m : Nat, r.getD 1 0 = m := ⟨(r.getD 1 0).toNat, by omega⟩
    rw [hm, Int.toNat_natCast] at hos
    have next : ∀ y, redoubtref06_Mss.l0 k o y ((i : Int) + m) = some (mssL (r.drop m).length (r.drop m) (toT y)) := fun y => by
      rw [show (i : Int) + m = ((i + m : Nat) : Int) by omega, ih (i + m) (by omega) (by omega) _ _ (by omega), dd]
    rw [if_neg (by simp only [decide_eq_true_eq]; omega), if_pos (by omega), if_pos (by omega), g0, wr 1 (by omega) (by omega), g1, wy, hm, wr m (by omega) (by omega), mssL_some hrn z0 hos]
    by_cases z5 : r.getD 0 0 = 2
    · rw [if_pos z5, if_pos (by omega), if_pos (by omega)]
      by_cases z6 : (m : Int) = 4
      · rw [if_pos z6]
        obtain rfl : m = 4 := by omega
        have l4 : (r.take 4).length = 4 := by rw [List.length_take]; omega
        by_cases z7 : x < 0
        · have g2 := g 2 (by omega)
          have g3 := g 3 (by omega)
          have b2 := by_ 2
          have b3 := by_ 3
          rw [show (i : Int) + (2 : Nat) = i + 2 by omega] at g2
          rw [show (i : Int) + (3 : Nat) = i + 3 by omega] at g3
          rw [if_pos z7, wr 2 (by omega) (by omega), wr 3 (by omega) (by omega), if_pos (by omega), if_pos (by omega), if_pos (by omega), if_pos (by omega), g2, g3, wy, wy,
            show wrap64 (256 * r.getD 2 0) = 256 * r.getD 2 0 by unfold wrap64; omega, show wrap64 (256 * r.getD 2 0 + r.getD 3 0) = 256 * r.getD 2 0 + r.getD 3 0 by unfold wrap64; omega, next]
          have e : toT x = (0, 6) := if_pos z7
          rw [e, mssStep, if_pos ⟨l4, by rw [take_get _ _ _ (by omega)]; exact z5, rfl⟩, take_get _ _ _ (by omega), take_get _ _ _ (by omega), toT, if_neg (by omega)]
        · have e : toT x = (x, 0) := if_neg z7
          rw [if_neg z7, next, e, mssStep, if_neg fun h => by have := h.2.2; simp at this]
      · rw [if_neg z6, next, mssStep, if_neg fun h => by have := h.1; rw [List.length_take] at this; omega]
    · rw [if_neg z5, if_pos (by omega), if_pos (by omega), next, mssStep, if_neg fun h => z5 (by have := h.2.1; rwa [take_get _ _ _ (by omega)] at this)]
theorem refMss (o : ByteArray) (ho : o.size ≤ 140737488351232) : redoubtref06_Mss.f (3 * o.size + 2) o = some (mssS (bytesOf o)) := by
  rw [redoubtref06_Mss.f, show (0 : Int) = ((0 : Nat) : Int) from rfl, refMssL o ho o.size 0 (by omega) (by omega) _ _ (by omega)]
  rfl
theorem refOff (m : Int) : ∃ k, redoubtref06_Offer.f k m = some (strOfNums (offS m)) := by
  refine ⟨5, ?_⟩
  unfold redoubtref06_Offer.f offS
  by_cases h1 : m < 1
  · rw [if_pos h1, if_pos (.inl h1), redoubtref06_Offer.j0, if_pos rfl]; rfl
  rw [if_neg h1, redoubtref06_Offer.j0]
  by_cases h2 : m > 65535
  · rw [if_pos (decide_eq_true h2), if_pos (.inr h2)]; rfl
  rw [if_neg (by simp only [decide_eq_true_eq]; omega), if_neg (by omega), redoubtref01_Two.f, Option.bind_some, redoubtref01_Both.f]
  rw [redoubtref01_Both.l0, if_pos (by simp [wrap64]), if_pos (by simp), if_pos (by simp [rd_L2, wrap64])]
  rw [redoubtref01_Both.l0, if_pos (by simp [wrap64]), if_pos (by simp [wrap64]), if_pos (by simp [rd_L2, wrap64])]
  rw [redoubtref01_Both.l0, if_neg (by simp [wrap64])]
  have e1 : wrap64 (Int.tdiv m 256) = m / 256 := by rw [tdiv_pos _ _ (by omega)]; unfold wrap64; omega
  have e2 : Int.tmod m 256 = m % 256 := Int.tmod_eq_emod_of_nonneg (by omega)
  rw [e1, e2]
  have e3 : m / 256 % 256 = m / 256 := by omega
  simp [rd_L2, wrap64, e3]
theorem mss_offer (m : Int) (h1 : 1 ≤ m) (h2 : m ≤ 65535) : mssS ([1, 3, 3, 7] ++ offS m ++ [2, 4, 0, 9, 0, 2]) = (m, 0) := by
  have e : [1, 3, 3, 7] ++ offS m ++ [2, 4, 0, 9, 0, 2] = [1, 3, 3, 7, 2, 4, m / 256, m % 256, 2, 4, 0, 9, 0, 2] := by
    unfold offS
    rw [if_neg (by omega)]; rfl
  rw [e]
  simp [mssS, mssL, optLen, mssStep]
  omega
end Go.Proofs.Ytljdkfgnoalgpaa

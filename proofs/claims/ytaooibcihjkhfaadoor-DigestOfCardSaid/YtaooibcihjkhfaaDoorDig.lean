/- The digest as plain functions: words, rounds, blocks. Conditions: those that each lemma states. -/
import Derived.Test.YtaooibcihjkhfaaDoorInet
import Derived.Test.YtaooibcihjkhfaaDoorNum
namespace Go.Proofs.YtaooibcihjkhfaaDoor

/-- A number of 32 bits. -/
def W32 (x : Int) : Prop := 0 ≤ x ∧ x ≤ 4294967295
def bx (a b : Int) : Int := ((a.toNat ^^^ b.toNat : Nat) : Int)
def ba (a b : Int) : Int := ((a.toNat &&& b.toNat : Nat) : Int)
def bo (a b : Int) : Int := ((a.toNat ||| b.toNat : Nat) : Int)
/-- A number, turned right. -/
def rot (x : Int) (n : Nat) : Int := x / 2 ^ n + x % 2 ^ n * 2 ^ (32 - n)
def m32 (x : Int) : Int := x % 4294967296
theorem m32_w (x : Int) : W32 (m32 x) := by unfold W32 m32; omega
theorem m32_of {x : Int} (h : W32 x) : m32 x = x := by unfold W32 at h; unfold m32; omega
theorem bx_w {a b : Int} (ha : W32 a) (hb : W32 b) : W32 (bx a b) := by
  have := Nat.xor_lt_two_pow (n := 32) (x := a.toNat) (y := b.toNat) (by unfold W32 at ha; omega) (by unfold W32 at hb; omega)
  unfold W32 bx; omega
theorem ba_w {a b : Int} (ha : W32 a) : W32 (ba a b) := by
  have := Nat.and_le_left (n := a.toNat) (m := b.toNat)
  unfold W32 at ha
  unfold W32 ba; omega
theorem bo_w {a b : Int} (ha : W32 a) (hb : W32 b) : W32 (bo a b) := by
  have := Nat.or_lt_two_pow (n := 32) (x := a.toNat) (y := b.toNat) (by unfold W32 at ha; omega) (by unfold W32 at hb; omega)
  unfold W32 bo; omega
theorem rot_w {x : Int} (h : W32 x) (n : Nat) (hn : n ≤ 32) : W32 (rot x n) := by
  obtain ⟨a, rfl⟩ := Int.eq_ofNat_of_zero_le h.1
  have hp : (0 : Nat) < 2 ^ n := Nat.two_pow_pos n
  have hq : 2 ^ n * 2 ^ (32 - n) = 4294967296 := by rw [← Nat.pow_add, show n + (32 - n) = 32 by omega]
  have ha : a < 4294967296 := by have := h.2; omega
  have e : rot (a : Int) n = ((a / 2 ^ n + a % 2 ^ n * 2 ^ (32 - n) : Nat) : Int) := by unfold rot; simp
  rw [e]
  have h1 : a / 2 ^ n < 2 ^ (32 - n) := by rw [Nat.div_lt_iff_lt_mul hp, Nat.mul_comm, hq]; exact ha
  have h2 : a % 2 ^ n + 1 ≤ 2 ^ n := Nat.mod_lt _ hp
  have h3 : (a % 2 ^ n + 1) * 2 ^ (32 - n) ≤ 2 ^ n * 2 ^ (32 - n) := Nat.mul_le_mul_right _ h2
  rw [hq, Nat.add_mul] at h3
  generalize a / 2 ^ n = q at h1 ⊢
  generalize a % 2 ^ n * 2 ^ (32 - n) = r at h3 ⊢
  generalize 2 ^ (32 - n) = p at h1 h3
  unfold W32
  omega
def sg0 (x : Int) : Int := bx (bx (rot x 7) (rot x 18)) (x / 8)
def sg1 (x : Int) : Int := bx (bx (rot x 17) (rot x 19)) (x / 1024)
def sm0 (x : Int) : Int := bx (bx (rot x 2) (rot x 13)) (rot x 22)
def sm1 (x : Int) : Int := bx (bx (rot x 6) (rot x 11)) (rot x 25)
def chs (e f g : Int) : Int := bo (ba e f) (ba (4294967295 - e) g)
def maj (a b c : Int) : Int := bo (ba a (bo b c)) (ba b c)
theorem shr_w {x : Int} (h : W32 x) (k : Int) (hk : 0 < k) : W32 (x / k) := by
  refine ⟨Int.ediv_nonneg h.1 (by omega), ?_⟩
  have := Int.ediv_le_self (b := k) (a := x) h.1
  have := h.2
  omega
theorem sg0_w {x : Int} (h : W32 x) : W32 (sg0 x) := bx_w (bx_w (rot_w h 7 (by omega)) (rot_w h 18 (by omega))) (shr_w h 8 (by omega))
theorem sg1_w {x : Int} (h : W32 x) : W32 (sg1 x) := bx_w (bx_w (rot_w h 17 (by omega)) (rot_w h 19 (by omega))) (shr_w h 1024 (by omega))
theorem sm0_w {x : Int} (h : W32 x) : W32 (sm0 x) := bx_w (bx_w (rot_w h 2 (by omega)) (rot_w h 13 (by omega))) (rot_w h 22 (by omega))
theorem sm1_w {x : Int} (h : W32 x) : W32 (sm1 x) := bx_w (bx_w (rot_w h 6 (by omega)) (rot_w h 11 (by omega))) (rot_w h 25 (by omega))
theorem not_w {x : Int} (h : W32 x) : W32 (4294967295 - x) := by unfold W32 at *; omega
theorem chs_w {e f g : Int} (he : W32 e) : W32 (chs e f g) := bo_w (ba_w he) (ba_w (not_w he))
theorem maj_w {a b c : Int} (ha : W32 a) (hb : W32 b) : W32 (maj a b c) := bo_w (ba_w ha) (ba_w hb)
/-- The word of number i, out of those ahead of it. -/
def nextW (b l : List Int) (i : Nat) : Int :=
  if i < 16 then 16777216 * b.getD (4 * i) 0 + 65536 * b.getD (4 * i + 1) 0 + 256 * b.getD (4 * i + 2) 0 + b.getD (4 * i + 3) 0
  else m32 (l.getD (i - 16) 0 + sg0 (l.getD (i - 15) 0) + l.getD (i - 7) 0 + sg1 (l.getD (i - 2) 0))
/-- So many words of a block. -/
def wordsL (b : List Int) : Nat → List Int
  | 0 => []
  | i + 1 => wordsL b i ++ [nextW b (wordsL b i) i]
def wordsS (b : List Int) : List Int := wordsL b 64
def K64 : List Int := [1116352408, 1899447441, 3049323471, 3921009573, 961987163, 1508970993, 2453635748, 2870763221, 3624381080, 310598401, 607225278, 1426881987, 1925078388, 2162078206, 2614888103, 3248222580, 3835390401, 4022224774, 264347078, 604807628, 770255983, 1249150122, 1555081692, 1996064986, 2554220882, 2821834349, 2952996808, 3210313671, 3336571891, 3584528711, 113926993, 338241895, 666307205, 773529912, 1294757372, 1396182291, 1695183700, 1986661051, 2177026350, 2456956037, 2730485921, 2820302411, 3259730800, 3345764771, 3516065817, 3600352804, 4094571909, 275423344, 430227734, 506948616, 659060556, 883997877, 958139571, 1322822218, 1537002063, 1747873779, 1955562222, 2024104815, 2227730452, 2361852424, 2428436474, 2756734187, 3204031479, 3329325298, 1779033703, 3144134277, 1013904242, 2773480762, 1359893119, 2600822924, 528734635, 1541459225]
/-- The two sums of a round. -/
def tS (v : List Int) (k w : Int) : Int := m32 (v.getD 7 0 + sm1 (v.getD 4 0) + chs (v.getD 4 0) (v.getD 5 0) (v.getD 6 0) + k + w)
def uS (v : List Int) : Int := m32 (sm0 (v.getD 0 0) + maj (v.getD 0 0) (v.getD 1 0) (v.getD 2 0))
def stepS (v : List Int) (k w : Int) : List Int := [m32 (tS v k w + uS v), v.getD 0 0, v.getD 1 0, v.getD 2 0, m32 (v.getD 3 0 + tS v k w), v.getD 4 0, v.getD 5 0, v.getD 6 0]
/-- So many rounds. -/
def roundsL (W : List Int) (v : List Int) : Nat → List Int
  | 0 => v
  | i + 1 => stepS (roundsL W v i) (K64.getD i 0) (W.getD i 0)
/-- The sums with what was there, at so many places. -/
def sumS (s : List Int) (v : List Int) : Nat → List Int
  | 0 => v
  | i + 1 => (sumS s v i).set i (m32 ((sumS s v i).getD i 0 + s.getD i 0))
/-- A state with a block in it. -/
def addS (s b : List Int) : List Int := sumS s (roundsL (wordsS b) s 64) 8
def initS : List Int := K64.drop 64
/-- So many blocks. -/
def foldS : Nat → List Int → List Int → List Int
  | 0, s, _ => s
  | k + 1, s, m => foldS k (addS s (m.take 64)) (m.drop 64)
/-- What is padded. -/
def lenS (n : Nat) : List Int := [((n * 8 / 72057594037927936 % 256 : Nat) : Int), ((n * 8 / 281474976710656 % 256 : Nat) : Int), ((n * 8 / 1099511627776 % 256 : Nat) : Int), ((n * 8 / 4294967296 % 256 : Nat) : Int), ((n * 8 / 16777216 % 256 : Nat) : Int), ((n * 8 / 65536 % 256 : Nat) : Int), ((n * 8 / 256 % 256 : Nat) : Int), ((n * 8 % 256 : Nat) : Int)]
def tailS (n : Nat) : List Int := 128 :: (List.replicate ((119 - n % 64) % 64) 0 ++ lenS n)
def outS : List Int → List Int
  | [] => []
  | x :: r => x / 16777216 % 256 :: x / 65536 % 256 :: x / 256 % 256 :: x % 256 :: outS r
def padS (m : List Int) : List Int := m ++ tailS m.length
def digestS (m : List Int) : List Int := outS (foldS ((padS m).length / 64) initS (padS m))
theorem digest_abc : digestS [97, 98, 99] = [186, 120, 22, 191, 143, 1, 207, 234, 65, 65, 64, 222, 93, 174, 34, 35, 176, 3, 97, 163, 150, 23, 122, 156, 180, 16, 255, 97, 242, 0, 21, 173] := by decide +kernel

theorem wordsL_len (b : List Int) : ∀ i, (wordsL b i).length = i
  | 0 => rfl
  | i + 1 => by rw [wordsL, List.length_append, wordsL_len b i]; rfl
def All32 (l : List Int) : Prop := ∀ x ∈ l, W32 x
theorem all32_get {l : List Int} (h : All32 l) (i : Nat) : W32 (l.getD i 0) := by
  rw [List.getD_eq_getElem?_getD]
  rcases Nat.lt_or_ge i l.length with hi | hi
  · rw [List.getElem?_eq_getElem hi]; exact h _ (List.getElem_mem hi)
  · rw [List.getElem?_eq_none hi]; exact ⟨by decide, by decide⟩
theorem nextW_w {b l : List Int} (hb : Byt b) (i : Nat) : W32 (nextW b l i) := by
  unfold nextW
  split
  · have h0 := byt_get hb (4 * i)
    have h1 := byt_get hb (4 * i + 1)
    have h2 := byt_get hb (4 * i + 2)
    have h3 := byt_get hb (4 * i + 3)
    unfold W32; omega
  · exact m32_w _
theorem wordsL_w {b : List Int} (hb : Byt b) : ∀ i, All32 (wordsL b i)
  | 0 => fun x hx => by simp [wordsL] at hx
  | i + 1 => fun x hx => by
    rw [wordsL, List.mem_append, List.mem_singleton] at hx
    rcases hx with hx | rfl
    · exact wordsL_w hb i x hx
    · exact nextW_w hb i
theorem stepS_len (v : List Int) (k w : Int) : (stepS v k w).length = 8 := rfl
theorem roundsL_len (W : List Int) {v : List Int} (hv : v.length = 8) : ∀ i, (roundsL W v i).length = 8
  | 0 => hv
  | _ + 1 => rfl
theorem stepS_w {v : List Int} (hv : All32 v) (k w : Int) : All32 (stepS v k w) := fun x hx => by
  simp only [stepS, List.mem_cons, List.not_mem_nil, or_false] at hx
  rcases hx with rfl | rfl | rfl | rfl | rfl | rfl | rfl | rfl
  · exact m32_w _
  · exact all32_get hv 0
  · exact all32_get hv 1
  · exact all32_get hv 2
  · exact m32_w _
  · exact all32_get hv 4
  · exact all32_get hv 5
  · exact all32_get hv 6
theorem roundsL_w (W : List Int) {v : List Int} (hv : All32 v) : ∀ i, All32 (roundsL W v i)
  | 0 => hv
  | i + 1 => stepS_w (roundsL_w W hv i) _ _
theorem sumS_len (s : List Int) {v : List Int} : ∀ i, (sumS s v i).length = v.length
  | 0 => rfl
  | i + 1 => by rw [sumS, List.length_set, sumS_len s i]
theorem all32_set {l : List Int} (h : All32 l) (i : Nat) {x : Int} (hx : W32 x) : All32 (l.set i x) := fun y hy => by
  rcases List.mem_or_eq_of_mem_set hy with hy | rfl
  · exact h y hy
  · exact hx
theorem sumS_w (s : List Int) {v : List Int} (hv : All32 v) : ∀ i, All32 (sumS s v i)
  | 0 => hv
  | i + 1 => all32_set (sumS_w s hv i) i (m32_w _)
theorem addS_len {s : List Int} (b : List Int) (hs : s.length = 8) : (addS s b).length = 8 := by
  unfold addS; rw [sumS_len, roundsL_len _ hs]
theorem addS_w {s : List Int} (b : List Int) (hs : All32 s) : All32 (addS s b) := sumS_w _ (roundsL_w _ hs _) _
theorem initS_len : initS.length = 8 := by decide
theorem K64_len : K64.length = 72 := by decide
theorem K64_w : All32 K64 := by
  have h : K64.all (fun x => decide (0 ≤ x ∧ x ≤ 4294967295)) = true := by decide +kernel
  intro x hx
  have := of_decide_eq_true (List.all_eq_true.1 h x hx)
  exact this
theorem initS_w : All32 initS := fun x hx => K64_w x (List.mem_of_mem_drop hx)
theorem foldS_len : ∀ (k : Nat) (s m : List Int), s.length = 8 → (foldS k s m).length = 8
  | 0, _, _, h => h
  | k + 1, _, _, h => foldS_len k _ _ (addS_len _ h)
theorem foldS_w : ∀ (k : Nat) (s m : List Int), All32 s → All32 (foldS k s m)
  | 0, _, _, h => h
  | k + 1, _, _, h => foldS_w k _ _ (addS_w _ h)
theorem foldS_take : ∀ (k : Nat) (s m r : List Int), 64 * k ≤ m.length → foldS k s (m ++ r) = foldS k s m
  | 0, _, _, _, _ => rfl
  | k + 1, s, m, r, h => by
    rw [foldS, foldS, List.take_append_of_le_length (by omega), List.drop_append_of_le_length (by omega)]
    exact foldS_take k _ _ _ (by rw [List.length_drop]; omega)
theorem foldS_add : ∀ (k j : Nat) (s m : List Int), foldS (k + j) s m = foldS j (foldS k s m) (m.drop (64 * k))
  | 0, j, s, m => by simp [foldS]
  | k + 1, j, s, m => by
    rw [show k + 1 + j = (k + j) + 1 by omega, foldS, foldS, foldS_add k j, List.drop_drop]
    congr 2
    omega
/-- What was eaten. -/
structure Eaten (m s rest : List Int) : Prop where
  state : s = foldS (m.length / 64) initS m
  rest : rest = m.drop (64 * (m.length / 64))
theorem Eaten.nil : Eaten [] initS [] := ⟨rfl, rfl⟩
theorem Eaten.rest_len {m s rest : List Int} (h : Eaten m s rest) : rest.length = m.length % 64 := by
  rw [h.rest, List.length_drop]; omega
/-- More bytes: so many blocks more. -/
theorem Eaten.more {m s rest : List Int} (h : Eaten m s rest) (x : List Int) :
    Eaten (m ++ x) (foldS ((rest ++ x).length / 64) s (rest ++ x)) ((rest ++ x).drop (64 * ((rest ++ x).length / 64))) := by
  have hr := h.rest_len
  have hl : (m ++ x).length / 64 = m.length / 64 + (rest ++ x).length / 64 := by
    rw [List.length_append, List.length_append, hr]; omega
  have hd : (m ++ x).drop (64 * (m.length / 64)) = rest ++ x := by
    rw [List.drop_append_of_le_length (by omega), h.rest]
  constructor
  · rw [hl, foldS_add, hd, foldS_take _ _ m x (by omega), h.state]
  · rw [hl, Nat.mul_add, ← List.drop_drop, hd]
theorem tailS_len (n : Nat) : (tailS n).length = 1 + (119 - n % 64) % 64 + 8 := by
  simp [tailS, lenS]; omega
theorem padS_len (m : List Int) : (padS m).length % 64 = 0 := by
  unfold padS
  rw [List.length_append, tailS_len]
  omega
theorem outS_len : ∀ l : List Int, (outS l).length = 4 * l.length
  | [] => rfl
  | x :: r => by simp only [outS, List.length_cons, outS_len r]; omega
theorem outS_snoc : ∀ (l : List Int) (x : Int), outS (l ++ [x]) = outS l ++ [x / 16777216 % 256, x / 65536 % 256, x / 256 % 256, x % 256]
  | [], _ => rfl
  | y :: r, x => by simp only [List.cons_append, outS, outS_snoc r x]
theorem outS_byt : ∀ l : List Int, Byt (outS l)
  | [] => byt_nil
  | x :: r => by
    simp only [outS, byt_cons]
    exact ⟨by omega, by omega, by omega, by omega, outS_byt r⟩
theorem digestS_len (m : List Int) : (digestS m).length = 32 := by
  unfold digestS
  rw [outS_len, foldS_len _ _ _ initS_len]
end Go.Proofs.YtaooibcihjkhfaaDoor

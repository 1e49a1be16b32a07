/- A law for ranges over functions whose iterator hands on what lies in memory that it has just made, or writes one block of its own between two rounds. Conditions: those that each lemma states. -/
import Derived.RangeFuncNested
import Derived.RangeFuncBound
import Derived.RangeFuncCalls
import Derived.RangeFuncLeaves
import Derived.Shelf.Abstract
import Derived.WalkKit
import Derived.OwnWalkIn
import Derived.TacticsInMore
import Derived.LoopNIn
import Derived.LoopIn
namespace Go.Proofs.Ytljdkfgnoalgpaa
open Go.RowKit

/-- What abides new blocks, a turn of the block row, and a turn of a block from B on that holds no cells. -/
def Abd (B : Nat) (row : Option Nat) (I : World → Prop) : Prop :=
  ∀ (X Y : World) (r : Option Nat), I X → X.grownBy Y r → (∀ k, r = some k → some k = row ∨ (B ≤ k ∧ ∃ o : Obj, X.heap[k]? = some o ∧ o.isCells = false)) → I Y
theorem Abd.alloc {B : Nat} {row : Option Nat} {I : World → Prop} (h : Abd B row I) {W : World} (o : Obj) (hs : I W) : I (W.alloc o) :=
  h W _ none hs (World.grownBy_alloc W o none) (fun r e => by cases e)
theorem Abd.putObj {B : Nat} {row : Option Nat} {I : World → Prop} (h : Abd B row I) {W : World} {l : Nat} {o : Obj} (o' : Obj) (hs : I W) (hB : B ≤ l) (hl : W.heap[l]? = some o) (ho : o.isCells = false) : I (W.putObj l o') :=
  h W _ (some l) hs (grownBy_putObj' W l o') (fun r e => by cases e; exact .inr ⟨hB, o, hl, ho⟩)
/-- The iterator's contract: at state s it may hand on x if Good s x W s', and is at s' then. -/
def SeqG {σ : Type} (n : Nat) (P : Program) (gf : Nat) (lb : Array Value) (row : Option Nat) (Kp : World → World → Prop) (Good : σ → Array Value → World → σ → Prop) (Fin : σ → Prop) (s0 : σ) (w : World) : Prop :=
  ∀ (l : Nat) (J Jx : σ → World → Prop) (W : World), Below w.heap.size w W → (∀ s X Y, J s X → X.grownBy Y row → J s Y) → (∀ s X Y, Jx s X → X.grownBy Y row → Jx s Y) →
    (∀ s x s' W1, J s W1 → Good s x W1 s' → YieldAt Fence.wide (n - 1) P l x W1 fun e W' => (e = .returned (.bool true) ∧ J s' W' ∧ Kp W1 W') ∨ (e = .returned (.bool false) ∧ Jx s' W')) →
    J s0 W →
    CallsIn Fence.wide n P gf (#[.func (.yield l) #[] #[]] ++ lb) W fun e W' => (∃ v, e = .returned v) ∧ ((∃ s, Fin s ∧ J s W') ∨ (∃ s, Jx s W'))
/-- How a round's body may be left. -/
def RngPost {σ : Type} (B : Nat) (Kp : World → World → Prop) (I : σ → World → Prop) (Ix : Code → σ → World → Prop) (s : σ) (W : World) : Exit → Act → World → Prop
  | .normal, _, W' => KeepsFrom B W W' ∧ Kp W W' ∧ I s W'
  | .ret, _, W' => KeepsFrom B W W' ∧ Ix .ret s W'
  | .exit id, _, W' => KeepsFrom B W W' ∧ Ix (.exit id) s W'
  | .goto t, _, W' => KeepsFrom B W W' ∧ Ix (.goto t) s W'
  | .panic _, _, _ => False
  | .outgrown, _, _ => False

theorem wpIn_rangeG {σ : Type} {n : Nat} {P : Program} {g : Operand} {ps : Array Tmp} {assign body : Code} {Q : Exit → Act → World → Prop} {a : Act} {w : World}
    {gf : Nat} {lb : Array Value} (hg : a.eval g = .func (.func gf) #[] lb) (eg : ∀ args w, (callFunc gf args).run P w = .ok (.enter gf args) w)
    {row : Option Nat} (hrow : ∀ r, row = some r → r < w.heap.size) {Kp : World → World → Prop} {Good : σ → Array Value → World → σ → Prop} {Fin : σ → Prop} {s0 : σ} {w0 : World} (hseq : SeqG (n - 1) P gf lb row Kp Good Fin s0 w0)
    (hKt : ∀ {X Y Z : World}, Kp X Y → Kp Y Z → Kp X Z) (hKb : ∀ (W : World) (l : Nat) (o o' : Obj), w.heap.size ≤ l → W.heap[l]? = some o → o.isCells = false → Kp W (W.putObj l o')) (hb0 : Below w0.heap.size w0 w)
    (hps : ∀ s x W s', Good s x W s' → x.size = ps.size) (hGood : ∀ s x s', Abd w.heap.size none (fun W => Good s x W s'))
    (I : σ → World → Prop) (Ix : Code → σ → World → Prop) (hI : ∀ s, Abd w.heap.size row (I s)) (hIx : ∀ c s, Abd w.heap.size row (Ix c s)) (h0 : I s0 w)
    (hround : ∀ (l : Nat) (s s' : σ) (x : Array Value) (W : World), w.heap.size ≤ l → I s W → Good s x W s' →
      assign.wpIn (Fence.wide.inRound l) (n - 1 - 1) P (Exit.then (fun a' W' => W' = W ∧ ∀ W2, I s W2 → Good s x W2 s' → body.wpIn (Fence.wide.inRound l) (n - 1 - 1) P (RngPost w.heap.size Kp I Ix s' W2) a' W2) (fun _ _ _ => False))
        { tmps := (ps.zip x).foldl (fun t (p, v) => t.setIfInBounds p v) a.tmps, defers := [] } W)
    (hdone : ∀ (D : Nat) (s : σ) (W : World), w.heap.size ≤ D → Fin s → I s W → W.heap[D]? = some (.deferred (some [])) → Q .normal { a with defers := { target := .collected D, args := #[] } :: a.defers } W)
    (hstop : ∀ (D : Nat) (c : Code) (s : σ) (W : World), w.heap.size ≤ D → Ix c s W → W.heap[D]? = some (.deferred (some [])) → c.wpIn Fence.wide n P Q { a with defers := { target := .collected D, args := #[] } :: a.defers } W) :
    (Code.rangeFunc g ps assign body).wpIn Fence.wide n P Q a w := by
  refine wpIn_rangeFunc ?_
  intro fn hfn
  rw [show Fence.wide.round = none from rfl]
  obtain ⟨rec, hrec⟩ : ∃ rec : LoopState → Option Code → Loop, rec = fun st pe => { state := st, pending := pe, fn, tmps := a.tmps, params := ps, assign, body, defers := w.heap.size } := ⟨_, rfl⟩
  obtain ⟨W1, hW1⟩ : ∃ W1, (w.alloc (.deferred (some []))).alloc (.loop (rec .ready none)) = W1 := ⟨_, rfl⟩
  have hL1 : W1.heap[w.heap.size + 1]? = some (.loop (rec .ready none)) := by
    rw [← hW1]; have := World.alloc_heap_new (w.alloc (.deferred (some []))) (.loop (rec .ready none)); rwa [World.size_alloc] at this
  have hK1 : W1.heap[w.heap.size]? = some (.deferred (some [])) := by
    rw [← hW1]; exact (Below.heap_alloc _ _ _ (by simp)).trans (World.alloc_heap_new w _)
  have hI1 : I s0 W1 := by rw [← hW1]; exact (hI s0).alloc _ ((hI s0).alloc _ h0)
  have hb1 : Below w0.heap.size w0 W1 := by
    rw [← hW1]; exact hb0.trans ((((Below.refl _ w).alloc (Nat.le_refl _) _).alloc (by simp) _).mono hb0.size)
  refine ⟨w.heap.size + 1, [{ target := .collected w.heap.size, args := #[] }], W1, { target := .fn (.func gf) lb, args := #[.func (.yield (w.heap.size + 1)) #[] #[]] }, W1, gf,
    #[.func (.yield (w.heap.size + 1)) #[] #[]] ++ lb, W1, ?_, ?_, ?_, ?_, fun h => (by cases h), ?_⟩
  · rw [← hW1, hrec]; exact run_enterLoop_outer _ _ _ _ _
  · simp only [resolve, hg]
    simp [go_sem]
  · intro f' _; exact trivial
  · simp [invoke, go_sem, eg]
  · have hkeep : ∀ {X Y : World}, X.grownBy Y row → ∀ (k : Nat) (o : Obj), w.heap.size ≤ k → X.heap[k]? = some o → Y.heap[k]? = some o := fun {X Y} hg' k o hk ho =>
      (hg'.block k (Array.getElem?_eq_some_iff.1 ho).1 (fun e => by have := hrow k e.symm; omega)).trans ho
    refine (hseq (w.heap.size + 1)
      (fun s W => I s W ∧ W.heap[w.heap.size + 1]? = some (.loop (rec .ready none)) ∧ W.heap[w.heap.size]? = some (.deferred (some [])))
      (fun s W => ∃ c, Ix c s W ∧ W.heap[w.heap.size + 1]? = some (.loop (rec .done (some c))) ∧ W.heap[w.heap.size]? = some (.deferred (some [])))
      W1 hb1
      (fun s A B hs hg' => ⟨hI s A B row hs.1 hg' (fun k e => .inl e.symm), hkeep hg' _ _ (by omega) hs.2.1, hkeep hg' _ _ (Nat.le_refl _) hs.2.2⟩)
      (fun s A B hs hg' => by
        obtain ⟨c, hc, hl, hk⟩ := hs
        exact ⟨c, hIx c s A B row hc hg' (fun k e => .inl e.symm), hkeep hg' _ _ (by omega) hl, hkeep hg' _ _ (Nat.le_refl _) hk⟩)
      ?_ ⟨hI1, hL1, hK1⟩).mono ?_
    · -- one round
      rintro s x s' W ⟨hi, hl, hk⟩ hgood
      have hlt : w.heap.size + 1 < W.heap.size := (Array.getElem?_eq_some_iff.1 hl).1
      have hy := run_yield (P := P) (args := x) hl (by rw [hrec]; exact hps _ _ _ _ hgood)
      rw [hrec] at hy
      refine ⟨fn, _, assign, body, hy, roundIn_of_wpIn hfn (wpIn_mono (hround _ s s' x W (by omega) hi hgood) ?_)⟩
      rintro e a' W' hp
      cases e
      any_goals exact hp.elim
      obtain ⟨e1, hb⟩ := hp
      rw [e1]
      refine ⟨_, run_beginRound hl (by rw [hrec]), ?_⟩
      have hl2 : (W.putObj (w.heap.size + 1) (.loop { rec .ready none with state := .busy })).heap[w.heap.size + 1]? = some (.loop { rec .ready none with state := .busy }) := World.putObj_heap_same hlt
      have hk2 : (W.putObj (w.heap.size + 1) (.loop { rec .ready none with state := .busy })).heap[w.heap.size]? = some (.deferred (some [])) := (World.putObj_heap_other (by omega)).trans hk
      have hw2 : Kp W (W.putObj (w.heap.size + 1) (.loop { rec .ready none with state := .busy })) := hKb _ _ _ _ (by omega) hl rfl
      refine wpIn_mono (hb _ ((hI s).putObj _ hi (by omega) hl rfl) ((hGood s x s').putObj _ hgood (by omega) hl rfl)) ?_
      have fin : ∀ (jump : Option Code) (W3 : World), KeepsFrom w.heap.size (W.putObj (w.heap.size + 1) (.loop { rec .ready none with state := .busy })) W3 →
          (Instr.endRound (w.heap.size + 1) jump).run P W3 = .ok (.bool jump.isNone) (W3.putObj (w.heap.size + 1) (.loop (rec (if jump.isNone then .ready else .done) jump))) ∧
          W3.heap[w.heap.size + 1]? = some (.loop { rec .ready none with state := .busy }) ∧
          (W3.putObj (w.heap.size + 1) (.loop (rec (if jump.isNone then .ready else .done) jump))).heap[w.heap.size + 1]? = some (.loop (rec (if jump.isNone then .ready else .done) jump)) ∧
          (W3.putObj (w.heap.size + 1) (.loop (rec (if jump.isNone then .ready else .done) jump))).heap[w.heap.size]? = some (.deferred (some [])) := fun jump W3 hk3 => by
        have hl3 := hk3.same _ _ (by omega) hl2 rfl
        have := run_endRound (P := P) jump hl3
        rw [hrec] at this ⊢
        exact ⟨this, by rw [hrec] at hl3; exact hl3, World.putObj_heap_same (Array.getElem?_eq_some_iff.1 hl3).1, (World.putObj_heap_other (by omega)).trans (hk3.same _ _ (Nat.le_refl _) hk2 rfl)⟩
      rintro e a3 W3 hp
      cases e with
      | normal =>
        obtain ⟨hk3, hkp3, hi3⟩ := hp
        obtain ⟨hr, hl3, hl4, hk4⟩ := fin none W3 hk3
        exact ⟨_, _, hr, .inl ⟨rfl, ⟨(hI _).putObj _ hi3 (by omega) hl3 rfl, hl4, hk4⟩, hKt (hKt hw2 hkp3) (hKb _ _ _ _ (by omega) hl3 rfl)⟩⟩
      | ret =>
        obtain ⟨hk3, hi3⟩ := hp
        obtain ⟨hr, hl3, hl4, hk4⟩ := fin (some .ret) W3 hk3
        exact ⟨_, _, hr, .inr ⟨rfl, .ret, (hIx _ _).putObj _ hi3 (by omega) hl3 rfl, hl4, hk4⟩⟩
      | exit id =>
        obtain ⟨hk3, hi3⟩ := hp
        obtain ⟨hr, hl3, hl4, hk4⟩ := fin (some (.exit id)) W3 hk3
        exact ⟨_, _, hr, .inr ⟨rfl, .exit id, (hIx _ _).putObj _ hi3 (by omega) hl3 rfl, hl4, hk4⟩⟩
      | goto t =>
        obtain ⟨hk3, hi3⟩ := hp
        obtain ⟨hr, hl3, hl4, hk4⟩ := fin (some (.goto t)) W3 hk3
        exact ⟨_, _, hr, .inr ⟨rfl, .goto t, (hIx _ _).putObj _ hi3 (by omega) hl3 rfl, hl4, hk4⟩⟩
      | panic ch => exact hp.elim
      | outgrown => exact hp.elim
    · -- behind the iterator
      rintro e W2 ⟨⟨v, rfl⟩, (⟨s, hS, hi, hl, hk⟩ | ⟨s, c, hi, hl, hk⟩)⟩
      · exact ⟨none, _, by have := run_endLoop (P := P) hl (by rw [hrec]; simp); rw [hrec] at this; exact this, hdone _ s _ (Nat.le_refl _) hS ((hI s).putObj _ hi (by omega) hl rfl) ((World.putObj_heap_other (by omega)).trans hk)⟩
      · exact ⟨some c, _, by have := run_endLoop (P := P) hl (by rw [hrec]; simp); rw [hrec] at this; exact this, hstop _ c s _ (Nat.le_refl _) ((hIx c s).putObj _ hi (by omega) hl rfl) ((World.putObj_heap_other (by omega)).trans hk)⟩
end Go.Proofs.Ytljdkfgnoalgpaa

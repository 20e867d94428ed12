/-
  A range over a function whose iterator keeps its state in one captured cell (block Bn): the contract of the iterator, and the law for its caller.
-/
import Derived.RangeFuncNested
import Derived.RangeFuncCalls
import Derived.RangeFuncLeaves
import Derived.OwnWalkIn
import Derived.TacticsInMore
import Derived.LoopIn
namespace Go.Proofs.Ytopemjbakpahfaa
open Go.RowKit
/-- What a round keeps: what lay below n₀, and the captured cell's block. -/
def Keep (n₀ Bn : Nat) (W W' : World) : Prop := Below n₀ W W' ∧ W'.heap[Bn]? = W.heap[Bn]?
theorem Keep.trans {n₀ Bn : Nat} {A B C : World} (h : Keep n₀ Bn A B) (k : Keep n₀ Bn B C) : Keep n₀ Bn A C := ⟨h.1.trans k.1, k.2.trans h.2⟩
/-- The iterator's contract: between two rounds it changes no old block but Bn; a round keeps what lay below n₀, and Bn. -/
def SeqCell {α : Type} (F : Fence) (n : Nat) (P : Program) (g : Nat) (lb : Array Value) (encs : α → Array Value) (n₀ Bn : Nat) (G : List α → α → Prop) (S : List α → Prop) (w : World) : Prop :=
  ∀ (l : Nat) (J : List α → World → Prop) (W : World), Keep n₀ Bn w W →
    (∀ s A B row, J s A → A.grownBy B row → (∀ r, row = some r → r = Bn) → J s B) →
    (∀ pre x W1, J pre W1 → G pre x → YieldAt F (n - 1) P l (encs x) W1 fun e W' => e = .returned (.bool true) ∧ J (pre ++ [x]) W' ∧ Keep n₀ Bn W1 W') →
    J [] W →
    CallsIn F n P g (#[.func (.yield l) #[] #[]] ++ lb) W fun e W' => (∃ v, e = .returned v) ∧ ∃ xs, S xs ∧ J xs W'
/-- How a round may end. -/
def roundCell {α : Type} (B n₀ Bn : Nat) (I : List α → World → Prop) (xs : List α) (W : World) : Exit → Act → World → Prop
  | .normal, _, W' => KeepsFrom B W W' ∧ Keep n₀ Bn W W' ∧ I xs W'
  | _, _, _ => False
theorem below_put {n₀ : Nat} {W : World} {l : Nat} {o : Obj} (o' : Obj) (hl : n₀ ≤ l) (h : W.heap[l]? = some o) : Below n₀ W (W.putObj l o') :=
  (Below.refl n₀ W).grown (grownBy_putObj' W l o') (by have := (Array.getElem?_eq_some_iff.1 h).1; omega) (fun k e => by cases e; omega)
theorem keep_put {n₀ Bn : Nat} {W : World} {l : Nat} {o : Obj} (o' : Obj) (hl : n₀ ≤ l) (hB : Bn ≠ l) (h : W.heap[l]? = some o) : Keep n₀ Bn W (W.putObj l o') :=
  ⟨below_put o' hl h, World.putObj_heap_other hB⟩
variable {F : Fence} {n : Nat} {P : Program}
theorem range_cell {α : Type} {g : Operand} {ps : Array Tmp} {assign body : Code} {Q : Exit → Act → World → Prop} {a : Act} {w : World}
    (hro : F.round = none) (h1 : 1 ≤ n) {gf : Nat} {lb : Array Value} (hg : a.eval g = .func (.func gf) #[] lb) (hFg : F.fn gf) (eg : ∀ args w, (callFunc gf args).run P w = .ok (.enter gf args) w)
    {encs : α → Array Value} {n₀ Bn : Nat} (hn : n₀ ≤ w.heap.size) (hB : Bn < w.heap.size) {G : List α → α → Prop} {S : List α → Prop} (hseq : SeqCell F (n - 1) P gf lb encs n₀ Bn G S w)
    (hps : ∀ x, (encs x).size = ps.size)
    (I : List α → World → Prop) (hI : ∀ s A B row, I s A → A.grownBy B row → (∀ r, row = some r → r = Bn ∨ (w.heap.size ≤ r ∧ ∃ o : Obj, A.heap[r]? = some o ∧ o.isCells = false)) → I s B) (h0 : I [] w) (a₁ : α → Act)
    (hassign : ∀ (l : Nat) (x : α) (W : World) (K : Act → World → Prop), K (a₁ x) W →
      assign.wpIn (F.inRound l) (n - 1 - 1) P (Exit.then K (fun _ _ _ => False)) { tmps := (ps.zip (encs x)).foldl (fun t (p, v) => t.setIfInBounds p v) a.tmps, defers := [] } W)
    (hbody : ∀ (l : Nat) (pre : List α) (x : α) (W : World), I pre W → G pre x → w.heap.size ≤ W.heap.size → body.wpIn (F.inRound l) (n - 1 - 1) P (roundCell w.heap.size n₀ Bn I (pre ++ [x]) W) (a₁ x) W)
    (hdone : ∀ (xs : List α) (W : World), S xs → I xs W → W.heap[w.heap.size]? = some (.deferred (some [])) → Q .normal { a with defers := { target := .collected w.heap.size, args := #[] } :: a.defers } W) :
    (Code.rangeFunc g ps assign body).wpIn F n P Q a w := by
  refine wpIn_rangeFunc fun fn hfn => ?_
  rw [hro]
  obtain ⟨rec, hrec⟩ : ∃ rec : LoopState → Loop, rec = fun st => { state := st, pending := none, fn, tmps := a.tmps, params := ps, assign, body, defers := w.heap.size } := ⟨_, rfl⟩
  obtain ⟨W1, hW1⟩ : ∃ W1, (w.alloc (.deferred (some []))).alloc (.loop (rec .ready)) = W1 := ⟨_, rfl⟩
  have hL1 : W1.heap[w.heap.size + 1]? = some (.loop (rec .ready)) := by
    rw [← hW1]; have := World.alloc_heap_new (w.alloc (.deferred (some []))) (.loop (rec .ready)); rwa [World.size_alloc] at this
  have hK1 : W1.heap[w.heap.size]? = some (.deferred (some [])) := by
    rw [← hW1]; exact (Below.heap_alloc _ _ _ (by simp)).trans (World.alloc_heap_new w _)
  have nil : ∀ {A : World}, (∀ r, (none : Option Nat) = some r → r = Bn ∨ (w.heap.size ≤ r ∧ ∃ o : Obj, A.heap[r]? = some o ∧ o.isCells = false)) := fun _ e => by cases e
  have hI1 : I [] W1 := by rw [← hW1]; exact hI _ _ _ none (hI _ _ _ none h0 (World.grownBy_alloc _ _ none) nil) (World.grownBy_alloc _ _ none) nil
  have hb1 : Keep n₀ Bn w W1 := by
    rw [← hW1]; exact ⟨((Below.refl _ w).alloc hn _).alloc (by simp; omega) _, (Below.heap_alloc _ _ _ (by simp; omega)).trans (Below.heap_alloc _ _ _ hB)⟩
  have put : ∀ {s : List α} {W : World} {l : Nat} {o : Obj} (o' : Obj), w.heap.size ≤ l → W.heap[l]? = some o → o.isCells = false → I s W → I s (W.putObj l o') := fun o' hl hW ho h =>
    hI _ _ _ (some _) h (grownBy_putObj' _ _ o') (fun r e => by cases e; exact .inr ⟨hl, _, hW, ho⟩)
  refine ⟨w.heap.size + 1, [{ target := .collected w.heap.size, args := #[] }], W1, { target := .fn (.func gf) lb, args := #[.func (.yield (w.heap.size + 1)) #[] #[]] }, W1, gf,
    #[.func (.yield (w.heap.size + 1)) #[] #[]] ++ lb, W1, ?_, ?_, ?_, ?_, fun _ => h1, ?_⟩
  · rw [← hW1, hrec]; exact run_enterLoop_outer _ _ _ _ _
  · simp only [resolve, hg]
    simp [go_sem]
  · intro f' hf'; simp [Target.leads] at hf'; subst hf'; exact hFg
  · simp [invoke, go_sem, eg]
  · refine (hseq (w.heap.size + 1)
      (fun pre W => I pre W ∧ W.heap[w.heap.size + 1]? = some (.loop (rec .ready)) ∧ W.heap[w.heap.size]? = some (.deferred (some [])))
      W1 hb1 ?_ ?_ ⟨hI1, hL1, hK1⟩).mono ?_
    · rintro s A B row ⟨hi, hl, hk⟩ hg' hr
      have ne : ∀ k, w.heap.size ≤ k → some k ≠ row := fun k hk e => by have := hr k e.symm; omega
      refine ⟨hI _ _ _ row hi hg' (fun r e => .inl (hr r e)), ?_, ?_⟩
      · exact (hg'.block _ (Array.getElem?_eq_some_iff.1 hl).1 (ne _ (by omega))).trans hl
      · exact (hg'.block _ (Array.getElem?_eq_some_iff.1 hk).1 (ne _ (Nat.le_refl _))).trans hk
    · rintro pre x W ⟨hi, hl, hk⟩ hx
      have hlt : w.heap.size + 1 < W.heap.size := (Array.getElem?_eq_some_iff.1 hl).1
      have hy := run_yield (P := P) (args := encs x) hl (by rw [hrec]; exact hps x)
      rw [hrec] at hy
      refine ⟨fn, _, assign, body, hy, roundIn_of_wpIn hfn (hassign _ x W _ ⟨_, run_beginRound hl (by rw [hrec]), ?_⟩)⟩
      have hl2 : (W.putObj (w.heap.size + 1) (.loop { rec .ready with state := .busy })).heap[w.heap.size + 1]? = some (.loop { rec .ready with state := .busy }) := World.putObj_heap_same hlt
      have hk2 : (W.putObj (w.heap.size + 1) (.loop { rec .ready with state := .busy })).heap[w.heap.size]? = some (.deferred (some [])) := (World.putObj_heap_other (by omega)).trans hk
      have hw2 : Keep n₀ Bn W (W.putObj (w.heap.size + 1) (.loop { rec .ready with state := .busy })) := keep_put _ (by omega) (by omega) hl
      refine wpIn_mono (hbody _ pre x _ (put _ (by omega) hl rfl hi) hx (by rw [World.putObj_size]; omega)) ?_
      rintro e a3 W3 hp
      cases e with
      | normal =>
        obtain ⟨hk3, hkp3, hi3⟩ := hp
        have hl3 := hk3.same _ _ (by omega) hl2 rfl
        have hr := run_endRound (P := P) none hl3
        have hd3 := hk3.same _ _ (Nat.le_refl _) hk2 rfl
        rw [hrec] at hr hl3 ⊢
        exact ⟨_, _, hr, rfl, ⟨put _ (by omega) hl3 rfl hi3, World.putObj_heap_same (Array.getElem?_eq_some_iff.1 hl3).1, (World.putObj_heap_other (by omega)).trans hd3⟩, (hw2.trans hkp3).trans (keep_put _ (by omega) (by omega) hl3)⟩
      | _ => exact hp.elim
    · rintro e W2 ⟨⟨v, rfl⟩, xs, hS, hi, hl, hk⟩
      exact ⟨none, _, by have := run_endLoop (P := P) hl (by rw [hrec]; simp); rw [hrec] at this; exact this, hdone xs _ hS (put _ (by omega) hl rfl hi) ((World.putObj_heap_other (by omega)).trans hk)⟩
end Go.Proofs.Ytopemjbakpahfaa

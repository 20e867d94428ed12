/-
  Frames by a set of blocks: what lies outside the set stays. Stores of many cells. It speaks of no program. No condition.
-/
import Derived.Test.YtopemjbakpahfaaMem
import Derived.Deep.MidRow
import Derived.RangeFuncBox
import Derived.Lib.SmallJoins
namespace Go.Proofs.Ytopemjbakpahfaa
open Go.RowKit
/-- Blocks outside F stay; new blocks may come. -/
structure Frm (F : Nat → Prop) (w w' : World) : Prop where
  os : w'.os = w.os
  tape : w'.tape = w.tape
  output : w'.output = w.output
  size : w.heap.size ≤ w'.heap.size
  block : ∀ k, k < w.heap.size → ¬ F k → w'.heap[k]? = w.heap[k]?
/-- The set, and the blocks that came. -/
def Grow (F : Nat → Prop) (w w' : World) (k : Nat) : Prop := F k ∨ (w.heap.size ≤ k ∧ k < w'.heap.size)
theorem Frm.refl (F : Nat → Prop) (w : World) : Frm F w w := ⟨rfl, rfl, rfl, Nat.le_refl _, fun _ _ _ => rfl⟩
theorem Frm.trans {F G : Nat → Prop} {a b c : World} (h : Frm F a b) (k : Frm G b c) (hG : ∀ k, G k → F k ∨ a.heap.size ≤ k) : Frm F a c :=
  ⟨k.os.trans h.os, k.tape.trans h.tape, k.output.trans h.output, Nat.le_trans h.size k.size, fun i hi hF => (k.block i (Nat.lt_of_lt_of_le hi h.size) (fun hg => by have := hG i hg; rcases this with h1 | h1; exact hF h1; omega)).trans (h.block i hi hF)⟩
theorem Frm.of_below {F : Nat → Prop} {w w' : World} (h : Below w.heap.size w w') : Frm F w w' := ⟨h.os, h.tape, h.output, h.size, fun k hk _ => h.block k hk⟩
theorem Frm.below {F : Nat → Prop} {w w' : World} {n : Nat} (h : Frm F w w') (hF : ∀ k, F k → n ≤ k) (hn : n ≤ w.heap.size) : Below n w w' :=
  ⟨h.os, h.tape, h.output, h.size, fun k hk => h.block k (by omega) (fun hf => by have := hF k hf; omega)⟩
theorem Frm.grown {F : Nat → Prop} {w w' : World} {row : Option Nat} (h : w.grownBy w' row) (hr : ∀ k, row = some k → F k) : Frm F w w' := ⟨h.os, h.tape, h.output, h.size, fun k hk hF => h.block k hk (fun e => hF (hr k e.symm))⟩
theorem Frm.setCell {F : Nat → Prop} (w : World) {b : Nat} (o : Nat) (v : Value) (hb : F b) : Frm F w (w.setCell ⟨b, o, none⟩ v) :=
  ⟨rfl, rfl, rfl, by simp, fun k _ hk => Below.heap_setCell _ _ _ _ (fun e => hk (by rw [e]; exact hb))⟩
theorem frm_setCells {F : Nat → Prop} {b : Nat} (hb : F b) : ∀ (vs : List Value) (o : Nat) (w : World), Frm F w (w.setCells b o vs) := by
  intro vs
  induction vs with
  | nil => intro o w; exact Frm.refl _ _
  | cons v vs ih =>
    intro o w
    rw [World.setCells]
    exact (Frm.setCell w o v hb).trans (ih _ _) (fun k hk => .inl hk)
theorem size_setCells (b : Nat) : ∀ (vs : List Value) (o : Nat) (w : World), (w.setCells b o vs).heap.size = w.heap.size := by
  intro vs
  induction vs with
  | nil => intro o w; rfl
  | cons v vs ih => intro o w; rw [World.setCells, ih]; simp
theorem heap_setCells {b k : Nat} (h : k ≠ b) : ∀ (vs : List Value) (o : Nat) (w : World), (w.setCells b o vs).heap[k]? = w.heap[k]? := by
  intro vs
  induction vs with
  | nil => intro o w; rfl
  | cons v vs ih => intro o w; rw [World.setCells, ih, Below.heap_setCell _ _ _ _ h]
/-- A block of cells stays one of its type. -/
def Typed (w : World) (b : Nat) (t : TypeId) : Prop := ∃ C : Array Value, w.heap[b]? = some (.cells C t (0, 0))
theorem typed_setCells {b : Nat} {t : TypeId} : ∀ (vs : List Value) (o : Nat) (w : World), Typed w b t → Typed (w.setCells b o vs) b t := by
  intro vs
  induction vs with
  | nil => intro o w h; exact h
  | cons v vs ih =>
    intro o w ⟨C, h⟩
    rw [World.setCells]
    exact ih _ _ ⟨_, Joins.block_setCell h v⟩
theorem range_block {A B : World} {b o : Nat} {cs : List Value} (h : A.rangeAt b o cs) (e : B.heap[b]? = A.heap[b]?) : B.rangeAt b o cs := fun j v hv => (World.cell?_of_block e).trans (h j v hv)
theorem there_block {A B : World} {b o n : Nat} (h : A.there b o n) (e : B.heap[b]? = A.heap[b]?) : B.there b o n := fun j hj => by
  obtain ⟨h1, h2⟩ := h j hj
  exact ⟨by rw [World.cell?_of_block e]; exact h1, (World.frozen?_of_block e).trans h2⟩
theorem owns_block {A B : World} {base n s : Nat} {t : TypeId} {v : Value} {xs : List Value} (h : A.ownsRow base t s v n xs) (e : ∀ k, v.ownBlock = some k → B.heap[k]? = A.heap[k]?) : B.ownsRow base t s v n xs :=
  ⟨h.1, h.2.imp_right fun ⟨g, cap, cur, hv, hb, hh, r⟩ => ⟨g, cap, cur, hv, hb, (e g (by rw [hv]; rfl)).trans hh, r⟩⟩
end Go.Proofs.Ytopemjbakpahfaa

/-
  Small lemmas of this claim's own about regions that draw their order while what they call makes memory: no condition.
-/
import Derived.Test.YtopemjbakpahfaaProg
import Derived.WalkKit
import Derived.LoopTactic
import Derived.Outline
import Derived.LoopN
import Derived.BigQuiet
import Derived.Deep.QuietTactic
import Derived.Lib.Hide
import Derived.Laws.StructEq
namespace Go.Proofs.Ytopemjbakpahfaa
open Go.RowKit

theorem wp_region_keep {P : Program} {Q : Exit → Act → World → Prop} {a : Act} {w : World} {id : Nat} {l : List Oper} (hm : P.follows .mixedOrders = true) (hB : Region.lexB .any l.toArray = true)
    (h : wpQuiet P l.toArray (Below w.heap.size w) (fun a' => ∀ w1, Below w.heap.size w w1 → Q .normal a' w1) l a) : (Code.region id l.toArray true).wp P Q a w :=
  wp_region_quiet (C := Below w.heap.size w) hm hB ⟨rfl, rfl, rfl, Nat.le_refl _, fun _ _ => rfl⟩ (by simpa using h)
theorem below_fact {w : World} {a : Addr} {v : Value} (h : w.cell? a = some v) : ∀ w1, Below w.heap.size w w1 → w1.cell? a = some v :=
  fun _ hw => (hw.cell (World.block_lt_of_cell? w a h)).trans h
theorem below_on {w w1 w2 : World} (h : Below w.heap.size w w1) (h2 : Below w1.heap.size w1 w2) : Below w.heap.size w w2 := h.trans (h2.mono h.size)
theorem below_onto {B : Nat} {w w1 w2 : World} (h : Below B w w1) (hB : B ≤ w.heap.size) (h2 : Below w1.heap.size w1 w2) : Below B w w2 := h.trans (h2.mono (Nat.le_trans hB h.size))
theorem quiet_mk {P : Program} {C : World → Prop} {o : Oper} {a : Act} {K : Act → Prop} {v : Value} (h : ∀ w, C w → Oper.quietUpon P C w v ((execOp a.eval o).run P w)) (hk : K (a.put o.dst v)) : o.quiet P a C K := ⟨v, h, hk⟩
@[go_sem ↓] theorem isSome_setCell (w : World) (a b : Addr) (v : Value) : ((w.setCell a v).cell? b).isSome = (w.cell? b).isSome := by
  simp only [World.cell?, World.setCell, Array.getElem?_modify]
  by_cases h : a.block = b.block
  · rw [if_pos h, ← h]
    cases hh : w.heap[a.block]? with
    | none => simp
    | some o =>
      cases o <;> simp
      split
      · rfl
      · split
        · rfl
        · rw [Array.getElem?_setIfInBounds]
          split
          · split <;> simp_all
          · rfl
  · rw [if_neg h]
@[go_sem ↓] theorem setCell_twice (w : World) (a : Addr) (u v : Value) : (w.setCell a u).setCell a v = w.setCell a v := by
  simp only [World.setCell]
  congr 1
  ext i
  · simp
  · rename_i h1 h2
    simp only [Array.getElem_modify]
    split
    · rename_i h3
      cases w.heap[i]'(by simpa using h1) <;> simp
      split <;> simp
    · rfl
theorem below_free {w w1 : World} {b : Nat} (h : ∀ o, w.frozen? ⟨b, o, none⟩ = false) (hb : Below w.heap.size w w1) (hlt : b < w.heap.size) : ∀ o, w1.frozen? ⟨b, o, none⟩ = false :=
  fun o => (hb.frozen (p := ⟨b, o, none⟩) hlt).trans (h o)
theorem bcell {W w1 : World} (hb : Below W.heap.size W w1) : (∀ b o, b < W.heap.size → w1.cell? ⟨b, o, none⟩ = W.cell? ⟨b, o, none⟩) ∧ (∀ b o, b < W.heap.size → w1.frozen? ⟨b, o, none⟩ = W.frozen? ⟨b, o, none⟩) :=
  ⟨fun b o h => hb.cell (p := ⟨b, o, none⟩) h, fun b o h => hb.frozen (p := ⟨b, o, none⟩) h⟩
end Go.Proofs.Ytopemjbakpahfaa

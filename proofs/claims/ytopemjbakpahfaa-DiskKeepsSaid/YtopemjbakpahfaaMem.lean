/-
  Small facts on worlds: blocks that are carried over calls, slices of bytes as plain lists. They speak of no program. No condition.
-/
import Derived.Test.YtopemjbakpahfaaKit
import Derived.Maps.AppendAt
namespace Go.Proofs.Ytopemjbakpahfaa
open Go.RowKit
theorem below_blk {w w1 : World} {b : Nat} {f : Nat → Option Value} (hb : Below w.heap.size w w1) (h : ∀ o, w.cell? ⟨b, o, none⟩ = f o) (hlt : b < w.heap.size) : ∀ o, w1.cell? ⟨b, o, none⟩ = f o := by
  intro o
  rw [hb.cell (p := ⟨b, o, none⟩) hlt, ← h o]
theorem alloc_blk {w : World} {X : Obj} {b : Nat} {f : Nat → Option Value} (h : ∀ o, w.cell? ⟨b, o, none⟩ = f o) (hlt : b < w.heap.size) : ∀ o, (w.alloc X).cell? ⟨b, o, none⟩ = f o := by
  intro o
  rw [← h o]
  exact World.cell?_of_block (w := w) (Below.heap_alloc w X b hlt)
theorem alloc_free {w : World} {X : Obj} {b : Nat} (h : ∀ j, w.frozen? ⟨b, j, none⟩ = false) (hlt : b < w.heap.size) : ∀ j, (w.alloc X).frozen? ⟨b, j, none⟩ = false := by
  intro j
  rw [← h j]
  exact World.frozen?_of_block (w := w) (Below.heap_alloc w X b hlt)
theorem below_alloc (w : World) (X : Obj) : Below w.heap.size w (w.alloc X) := (Below.refl _ _).alloc (Nat.le_refl _) X
theorem new_blk (w : World) (xs : Array Value) (t : TypeId) : ∀ o, (w.alloc (.cells xs t)).cell? ⟨w.heap.size, o, none⟩ = xs[o]? := by
  intro o
  exact cell_of_row (w.alloc (.cells xs t)) w.heap.size o xs t (0, 0) (heap_alloc_new w _)
theorem new_free (w : World) (xs : Array Value) (t : TypeId) : ∀ j, (w.alloc (.cells xs t)).frozen? ⟨w.heap.size, j, none⟩ = false := by
  intro j; go_simp
theorem alloc_cell {w : World} {X : Obj} {a : Addr} {v : Value} (h : w.cell? a = some v) : (w.alloc X).cell? a = some v :=
  below_fact h _ (below_alloc w X)
theorem cell_one_at {w : World} {n : Nat} (hn : w.heap.size = n) {x : Value} {t : TypeId} : ∀ j u, [x][j]? = some u → (w.alloc (.cells #[x] t)).cell? ((⟨n, 0, none⟩ : Addr).add j) = some u := by
  subst hn; exact cell_one_new w x t
theorem below_drewN {B : Nat} {a w : World} (h : Below B a w) (n : Nat) : Below B a (w.drewN n) := h.trans ⟨by simp [World.drewN], by simp [World.drewN], by simp [World.drewN], by simp [World.drewN], fun _ _ => by simp [World.drewN]⟩
theorem ownsRow_base {w : World} {base base' : Nat} {t : TypeId} {s n : Nat} {v : Value} {xs : List Value} (h : w.ownsRow base t s v n xs) (hb : base' ≤ base) : w.ownsRow base' t s v n xs := by
  refine ⟨h.1, ?_⟩
  rcases h.2 with h2 | ⟨g, cap, cur, hv, hg, r⟩
  · exact .inl h2
  · exact .inr ⟨g, cap, cur, hv, Nat.le_trans hb hg, r⟩
theorem owns_below {w w1 : World} {base : Nat} {t : TypeId} {s n : Nat} {v : Value} {xs : List Value} (h : w.ownsRow base t s v n xs) (hb : Below w.heap.size w w1) : w1.ownsRow base t s v n xs :=
  h.kept (row := none) ⟨hb.os, hb.tape, hb.output, hb.size, fun k hk _ => hb.block k hk⟩ (by cases v.ownBlock <;> simp)
/-- A byte's cell. -/
def byteV (b : UInt8) : Value := .int .u8 (b.toNat : Int)
/-- The slice at a reads as these bytes. -/
def RB (w : World) (a : Option Addr) (l : List UInt8) : Prop :=
  ∀ i, i < l.length → ∃ g off, a = some ⟨g, off, none⟩ ∧ g < w.heap.size ∧ w.cell? ⟨g, off + i, none⟩ = some (byteV (l.getD i 0))
theorem RB.below {w w1 : World} {a : Option Addr} {l : List UInt8} (h : RB w a l) (hb : Below w.heap.size w w1) : RB w1 a l := by
  intro i hi
  obtain ⟨g, off, e, hg, hc⟩ := h i hi
  exact ⟨g, off, e, Nat.lt_of_lt_of_le hg hb.size, (hb.cell (p := ⟨g, off + i, none⟩) hg).trans hc⟩
theorem RB.alloc {w : World} {a : Option Addr} {l : List UInt8} (h : RB w a l) (X : Obj) : RB (w.alloc X) a l := h.below (below_alloc w X)
theorem RB.drewN {w : World} {a : Option Addr} {l : List UInt8} (h : RB w a l) (n : Nat) : RB (w.drewN n) a l := h.below (below_drewN (Below.refl _ _) n)
theorem RB.nil (w : World) (a : Option Addr) : RB w a [] := fun i hi => absurd hi (by simp)
theorem RB.take {w : World} {a : Option Addr} {l : List UInt8} (h : RB w a l) (k : Nat) : RB w a (l.take k) := by
  intro i hi
  simp at hi
  obtain ⟨g, off, e, hg, hc⟩ := h i (by omega)
  refine ⟨g, off, e, hg, ?_⟩
  rw [hc]
  simp [List.getD, show i < k by omega]
theorem RB.drop {w : World} {g off : Nat} {l : List UInt8} (h : RB w (some ⟨g, off, none⟩) l) (k : Nat) : RB w (some ⟨g, off + k, none⟩) (l.drop k) := by
  intro i hi
  simp at hi
  obtain ⟨g', off', e, hg, hc⟩ := h (k + i) (by omega)
  simp at e
  obtain ⟨rfl, rfl⟩ := e
  refine ⟨g, off + k, rfl, hg, ?_⟩
  rw [Nat.add_assoc, hc]
  simp [List.getD]
theorem RB.news {w : World} {ad : Addr} {l : List UInt8} (h : RB w (some ad) l) : ∀ j u, (l.map byteV)[j]? = some u → w.cell? (ad.add j) = some u := by
  intro j u hu
  have hj : j < l.length := by
    rcases Nat.lt_or_ge j l.length with h1 | h1
    · exact h1
    · rw [List.getElem?_eq_none (by simpa using h1)] at hu; cases hu
  obtain ⟨g, off, e, _, hc⟩ := h j hj
  simp at e
  subst e
  simp [hj] at hu
  subst hu
  unfold Addr.add
  split
  · rename_i h0; subst h0; simpa [hj] using hc
  · simpa [hj] using hc
theorem RB.of_owns {w : World} {base n : Nat} {t : TypeId} {v : Value} {l : List UInt8} (h : w.ownsRow base t 1 v n (l.map byteV)) : ∃ a cap, v = .slice a l.length cap ∧ l.length ≤ cap ∧ (a = none → cap = 0) ∧ RB w a l := by
  have hn : n = l.length := by have := h.1; simp at this; omega
  subst hn
  rcases h.2 with ⟨rfl, h0⟩ | ⟨g, cap, cur, rfl, hg, hh, h1, h2, h3, h4⟩
  · exact ⟨none, 0, by rw [h0], by omega, fun _ => rfl, fun i hi => by omega⟩
  · refine ⟨_, _, rfl, h1, fun e => (by cases e), fun i hi => ⟨g, 0, rfl, lt_of_block hh, ?_⟩⟩
    rw [Nat.zero_add, cell_of_row w g i cur t (0, 0) hh]
    have : (cur.toList.take (l.length * 1))[i]? = (l.map byteV)[i]? := by rw [h4]
    rw [List.getElem?_take, if_pos (by omega)] at this
    simpa [hi] using this
theorem take_snoc {α : Type} (l : List α) (k : Nat) (d : α) (h : k < l.length) : l.take (k + 1) = l.take k ++ [l.getD k d] := by
  rw [List.take_succ_eq_append_getElem h]; simp [h]
theorem oneCell_bytes (l : List UInt8) : ∀ u ∈ l.map byteV, u.oneCell' = true := by
  intro u hu
  simp only [List.mem_map] at hu
  obtain ⟨b, _, rfl⟩ := hu
  rfl
end Go.Proofs.Ytopemjbakpahfaa

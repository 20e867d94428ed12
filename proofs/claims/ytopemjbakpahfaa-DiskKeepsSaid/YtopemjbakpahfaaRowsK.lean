/-
  A row of rows of bytes, as it reads; frames together in plain Lean. No condition.
-/
import Derived.Test.YtopemjbakpahfaaTellsL
import Derived.Test.YtopemjbakpahfaaRAll
namespace Go.Proofs.Ytopemjbakpahfaa
open Go.RowKit Crc
/-- The slice at a reads as these rows of bytes. -/
def RR (w : World) (a : Option Addr) (L : List (List UInt8)) : Prop :=
  ∀ i, i < L.length → ∃ g off u, a = some ⟨g, off, none⟩ ∧ g < w.heap.size ∧ w.cell? ⟨g, off + i, none⟩ = some u ∧ Bs w u (L.getD i [])
theorem RR.below {w w1 : World} {a : Option Addr} {L : List (List UInt8)} (h : RR w a L) (hb : Below w.heap.size w w1) : RR w1 a L := by
  intro i hi
  obtain ⟨g, off, u, e, hg, hc, hu⟩ := h i hi
  exact ⟨g, off, u, e, Nat.lt_of_lt_of_le hg hb.size, (hb.cell (p := ⟨g, off + i, none⟩) hg).trans hc, hu.below hb⟩
theorem RR.nil (w : World) (a : Option Addr) : RR w a [] := fun i hi => absurd hi (by simp)
theorem RR.take {w : World} {a : Option Addr} {L : List (List UInt8)} (h : RR w a L) (k : Nat) : RR w a (L.take k) := by
  intro i hi
  simp at hi
  obtain ⟨g, off, u, e, hg, hc, hu⟩ := h i (by omega)
  exact ⟨g, off, u, e, hg, hc, by simpa [List.getD, show i < k by omega] using hu⟩
theorem bs_of_owns {w : World} {base n : Nat} {v : Value} {l : List UInt8} (h : w.ownsRow base 5 1 v n (l.map byteV)) : Bs w v l := by
  obtain ⟨a, cap, e, h1, h2, h3⟩ := RB.of_owns h
  exact ⟨a, cap, e, h1, h2, h3⟩
/-- Rows that the call owns read as rows. -/
theorem RR.of_rows {w : World} {base : Nat} {v : Value} {L : List (List UInt8)} (h : RowsOf w base v L) : ∃ a cap, v = .slice a L.length cap ∧ L.length ≤ cap ∧ (a = none → cap = 0) ∧ RR w a L := by
  obtain ⟨vs, h1, h2, h3⟩ := h
  rw [h2] at h1
  rcases h1.2 with ⟨rfl, h0⟩ | ⟨g, cap, cur, rfl, hg, hh, h4, h5, h6, h7⟩
  · exact ⟨none, 0, by rw [h0], by omega, fun _ => rfl, fun i hi => by omega⟩
  · refine ⟨_, _, rfl, h4, fun e => (by cases e), fun i hi => ?_⟩
    have hv : i < vs.length := by omega
    refine ⟨g, 0, vs[i], rfl, lt_of_block hh, ?_, ?_⟩
    · rw [Nat.zero_add, cell_of_row w g i cur 22 (0, 0) hh]
      have : (cur.toList.take (L.length * 1))[i]? = vs[i]? := by rw [h7]
      rw [List.getElem?_take, if_pos (by omega)] at this
      simpa [hv] using this
    · exact bs_of_owns (h3 i vs[i] (L.getD i []) (by simp [hv]) (by simp [List.getD, hi]))
/-- Frames together: what is there, and what is still to come. -/
theorem join_cons (l : List UInt8) (m : List (List UInt8)) : join (l :: m) = if 4096 < l.length then none else (join m).map (frame l ++ ·) := rfl
theorem join_at {L : List (List UInt8)} {k : Nat} (hk : k < L.length) : join (L.drop k) = if 4096 < (L.getD k []).length then none else (join (L.drop (k + 1))).map (frame (L.getD k []) ++ ·) := by
  rw [List.drop_eq_getElem_cons hk, join_cons]
  simp [List.getD, hk]
end Go.Proofs.Ytopemjbakpahfaa

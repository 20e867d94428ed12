/-
  Contracts and plain laws, part 24 (texts: Do2, OpenF). No condition but what each states.
-/
import Derived.Test.YtopemjbakpahfaaDiskPlaysH
/-
  Plain facts of a step: the numbers stay small. No condition.
-/
namespace Go.Proofs.Ytopemjbakpahfaa
open Go.RowKit Disk
structure SmallD (d : Dev) (i : Nat) : Prop where
  pend : d.pend.length ≤ i
  writes : d.writes ≤ i
  syncs : d.syncs ≤ i
theorem SmallD.doD {d : Dev} {i : Nat} (h : SmallD d i) (x y z : Int) : SmallD (doD d x y z) (i + 1) := by
  have h1 := h.pend
  have h2 := h.writes
  have h3 := h.syncs
  unfold Ytopemjbakpahfaa.doD
  split
  · unfold Dev.write
    split
    · exact ⟨by show d.pend.length ≤ _; omega, by show d.writes ≤ _; omega, by show d.syncs ≤ _; omega⟩
    · split
      · exact ⟨by show d.pend.length ≤ _; omega, by show d.writes ≤ _; omega, by show d.syncs ≤ _; omega⟩
      · split
        · exact ⟨by show d.pend.length ≤ _; omega, by show d.writes ≤ _; omega, by show d.syncs ≤ _; omega⟩
        · exact ⟨by simp; omega, by show d.writes + 1 ≤ _; omega, by show d.syncs ≤ _; omega⟩
  · split
    · unfold Dev.sync
      split
      · exact ⟨by show d.pend.length ≤ _; omega, by show d.writes ≤ _; omega, by show d.syncs ≤ _; omega⟩
      · split
        · exact ⟨by show d.pend.length ≤ _; omega, by show d.writes ≤ _; omega, by show d.syncs ≤ _; omega⟩
        · exact ⟨Nat.zero_le _, by show d.writes ≤ _; omega, by show d.syncs + 1 ≤ _; omega⟩
    · split
      · exact ⟨by show d.pend.length ≤ _; omega, by show d.writes ≤ _; omega, by show d.syncs ≤ _; omega⟩
      · split
        · exact ⟨Nat.zero_le _, by show d.writes ≤ _; omega, by show d.syncs ≤ _; omega⟩
        · exact ⟨by omega, by omega, by omega⟩
end Go.Proofs.Ytopemjbakpahfaa
/-
  Opening an argument of a law: a row of numbers. No condition.
-/
namespace Go.Proofs.Ytopemjbakpahfaa
open Go.ChangeShapes Go.WideShapes Go.ChangeAt Go.RowKit Go.Deep
section
variable {H : Type} {enc : TypeId × Value → H} {P : Program} {w : World} {base : Nat} {spare : Nat → Bool} {held : Bool}
theorem open_nums {r : Reach} {b0 : Nat} {t e : TypeId} {v : Value} {d : DataW H} {p : List MemPlace} (ht : P.underlying t = some (.slice e)) (he : P.underlying e = some (.int .i64)) (hE : P.cellsOf e = 1)
    (hv : Value.okWide P w r b0 t v) (h : DataW.Trod enc P w 0 (fun _ => true) held t v d p) :
    ∃ (l : List Int) (a : Option Addr) (cap : Nat), v = .slice a l.length cap ∧ l.length ≤ cap ∧ cap ≤ maxLen ∧ (a = none → cap = 0) ∧ RI w a l ∧ ∀ x ∈ l, -9223372036854775808 ≤ x ∧ x ≤ 9223372036854775807 := by
  obtain ⟨a0, len0, cap0, rfl⟩ := okWide_slice ht hv
  obtain ⟨fuel, hf⟩ := h
  rcases open_ints ht he hE hf with ⟨hcs, _⟩ | ⟨x, l, c, zs, hcs, _, hl, hm, hz, _, hcell, hwz⟩
  · simp [Value.cells] at hcs
    obtain ⟨rfl, rfl, rfl⟩ := hcs
    exact ⟨[], none, 0, rfl, Nat.le_refl _, Nat.zero_le _, fun _ => rfl, fun i hi => absurd hi (by simp), fun x hx => by simp at hx⟩
  · simp [Value.cells] at hcs
    obtain ⟨rfl, rfl, rfl⟩ := hcs
    have hz : zs.length = cap0 := by simpa using hz
    have hlen : (zs.take len0).length = len0 := by simp; omega
    refine ⟨zs.take len0, some x, cap0, by rw [hlen], by omega, hm, fun e => (by cases e), ?_, fun y hy => wf_i64 (hwz y (List.mem_of_mem_take hy))⟩
    intro i hi
    rw [hlen] at hi
    have h0 := hcell 0 (by omega)
    obtain ⟨g, off, spot⟩ := x
    have hspot : spot = none := by simpa [Addr.add] using World.cell?_spot h0
    subst hspot
    refine ⟨g, off, rfl, World.block_lt_of_cell? w _ h0, ?_⟩
    have h := hcell i (by omega)
    rw [Addr.add_lit] at h
    rw [h]
    simp [List.getD, hi]
end
end Go.Proofs.Ytopemjbakpahfaa

/-
  Opening an argument of a law: rows of bytes. No condition.
-/
import Derived.Test.YtopemjbakpahfaaOpenC
import Derived.Test.YtopemjbakpahfaaRowsK
import Derived.Deep.Matrix
namespace Go.Proofs.Ytopemjbakpahfaa
open Go.ChangeShapes Go.WideShapes Go.ChangeAt Go.RowKit Go.Deep
section
variable {H : Type} {enc : TypeId × Value → H} {P : Program} {w : World} {base : Nat} {spare : Nat → Bool} {held : Bool}
theorem choose_list {α : Type} (d : α) (n : Nat) (p : Nat → α → Prop) (h : ∀ i, i < n → ∃ x, p i x) : ∃ L : List α, L.length = n ∧ ∀ i, i < n → p i (L.getD i d) := by
  induction n with
  | zero => exact ⟨[], rfl, fun i hi => by omega⟩
  | succ n ih =>
    obtain ⟨L, h1, h2⟩ := ih (fun i hi => h i (by omega))
    obtain ⟨x, hx⟩ := h n (by omega)
    refine ⟨L ++ [x], by simp [h1], fun i hi => ?_⟩
    rcases Nat.lt_or_ge i n with h3 | h3
    · have := h2 i h3
      simpa [List.getD, List.getElem?_append_left (show i < L.length by omega)] using this
    · obtain rfl : i = n := by omega
      simpa [List.getD, ← h1] using hx
theorem open_rows {r : Reach} {b0 : Nat} {t e q : TypeId} {v : Value} {d : DataW H} {p : List MemPlace} (ht : P.underlying t = some (.slice e)) (he : P.underlying e = some (.slice q)) (hq : P.underlying q = some (.int .u8)) (ce : P.cellsOf e = 1) (cq : P.cellsOf q = 1)
    (hv : Value.okWide P w r b0 t v) (h : DataW.Trod enc P w 0 (fun _ => true) held t v d p) :
    ∃ (L : List (List UInt8)) (a : Option Addr) (cap : Nat), v = .slice a L.length cap ∧ L.length ≤ cap ∧ cap ≤ maxLen ∧ (a = none → cap = 0) ∧ RR w a L ∧ ∀ i, i < L.length → (L.getD i []).length ≤ maxLen := by
  obtain ⟨a0, len0, cap0, rfl⟩ := okWide_slice ht hv
  obtain ⟨fuel, hf⟩ := h
  rcases open_int_rows ht he hq ce cq hf with ⟨hcs, _⟩ | ⟨x, len, cap, A, Le, C, Z, hcs, _, hl, hm, _, hr⟩
  · simp [Value.cells] at hcs
    obtain ⟨rfl, rfl, rfl⟩ := hcs
    exact ⟨[], none, 0, rfl, Nat.le_refl _, Nat.zero_le _, fun _ => rfl, RR.nil _ _, fun i hi => by simp at hi⟩
  · simp [Value.cells] at hcs
    obtain ⟨rfl, rfl, rfl⟩ := hcs
    obtain ⟨L, hLl, hL⟩ := choose_list (α := List UInt8) [] len0 (fun i l => l.length = Le i ∧ Bs w (.slice (A i) (Le i) (C i)) l) (fun i hi => by
      obtain ⟨_, h2, h3, h4, h5, h6, h7⟩ := hr i (by omega)
      cases hA : A i with
      | none =>
        have := h6 hA
        exact ⟨[], by simp; omega, none, _, by rw [show Le i = 0 by omega]; rfl, by simp, fun _ => this, RB.nil _ _⟩
      | some a' =>
        obtain ⟨_, h8⟩ := h7 a' hA
        obtain ⟨l, hl1, hl2⟩ := bytes_of_cells (a := a') h2 h4 (fun c hc => h8 c (by omega)) h5
        exact ⟨l, hl1, some a', C i, by rw [hl1], by omega, fun e => (by cases e), hl2⟩)
    refine ⟨L, some x, cap0, by rw [hLl], by omega, hm, fun e => (by cases e), ?_, fun i hi => ?_⟩
    · intro i hi
      have hc0 := (hr 0 (by omega)).1
      obtain ⟨g, off, spot⟩ := x
      have hspot : spot = none := by simpa [Addr.add] using World.cell?_spot hc0
      subst hspot
      have hc := (hr i (by omega)).1
      have e : (⟨g, off, none⟩ : Addr).add i = ⟨g, off + i, none⟩ := by
        unfold Addr.add; split
        · rename_i h; subst h; rfl
        · rfl
      rw [e] at hc
      exact ⟨g, off, _, rfl, World.block_lt_of_cell? w _ hc0, hc, (hL i (by omega)).2⟩
    · have h1 := hr i (by omega)
      rw [(hL i (by omega)).1]
      omega
end
end Go.Proofs.Ytopemjbakpahfaa

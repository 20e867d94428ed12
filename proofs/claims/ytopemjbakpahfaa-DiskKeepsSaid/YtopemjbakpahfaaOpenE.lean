/-
  Opening an argument of a law: rows of three numbers each. No condition.
-/
import Derived.Test.YtopemjbakpahfaaOpenD
import Derived.Deep.Slices
namespace Go.Proofs.Ytopemjbakpahfaa
open Go.ChangeShapes Go.WideShapes Go.ChangeAt Go.RowKit Go.Deep
/-- Three numbers of the machine. -/
structure Three where
  x : Int
  y : Int
  z : Int
def Three.fits (t : Three) : Prop := (-9223372036854775808 ≤ t.x ∧ t.x ≤ 9223372036854775807) ∧ (-9223372036854775808 ≤ t.y ∧ t.y ≤ 9223372036854775807) ∧ (-9223372036854775808 ≤ t.z ∧ t.z ≤ 9223372036854775807)
def zero3 : Three := ⟨0, 0, 0⟩
/-- The slice at a reads as these rows of three numbers. -/
def R3 (w : World) (a : Option Addr) (l : List Three) : Prop :=
  ∀ i, i < l.length → ∃ g off, a = some ⟨g, off, none⟩ ∧ g < w.heap.size ∧ w.cell? ⟨g, off + i * 3, none⟩ = some (.int .i64 (l.getD i zero3).x) ∧
    w.cell? ⟨g, off + i * 3 + 1, none⟩ = some (.int .i64 (l.getD i zero3).y) ∧ w.cell? ⟨g, off + i * 3 + 2, none⟩ = some (.int .i64 (l.getD i zero3).z)
theorem R3.below {w w1 : World} {a : Option Addr} {l : List Three} (h : R3 w a l) (hb : Below w.heap.size w w1) : R3 w1 a l := by
  intro i hi
  obtain ⟨g, off, e, hg, h0, h1, h2⟩ := h i hi
  exact ⟨g, off, e, Nat.lt_of_lt_of_le hg hb.size, (hb.cell (p := ⟨g, off + i * 3, none⟩) hg).trans h0, (hb.cell (p := ⟨g, off + i * 3 + 1, none⟩) hg).trans h1, (hb.cell (p := ⟨g, off + i * 3 + 2, none⟩) hg).trans h2⟩
theorem wf_i64 {n : Int} (h : (Lit.int .i64 n).wf = true) : -9223372036854775808 ≤ n ∧ n ≤ 9223372036854775807 := by
  simp [Lit.wf, IntKind.min, IntKind.max, IntKind.signed, IntKind.bits] at h
  omega
section
variable {H : Type} {enc : TypeId × Value → H} {P : Program} {w : World} {base : Nat} {spare : Nat → Bool} {held : Bool}
theorem trod_three {n : Nat} {t e : TypeId} {cs : List Value} {y : DataW H × List MemPlace} (ht : P.underlying t = some (.array 3 e)) (he : P.underlying e = some (.int .i64)) (hC : P.cellsOf t = 3) (hE : P.cellsOf e = 1)
    (h : DataW.trod enc P w base spare held n t cs = some y) : ∃ t : Three, cs = [.int .i64 t.x, .int .i64 t.y, .int .i64 t.z] ∧ t.fits := by
  obtain ⟨xs, m, _, _, hlen3, hlen, hg⟩ := DataW.trod_array ht h
  rw [hC] at hlen3
  match cs, hlen3 with
  | [c0, c1, c2], _ =>
    match xs, hlen with
    | [y0, y1, y2], _ =>
      have g0 := hg 0 (by omega)
      have g1 := hg 1 (by omega)
      have g2 := hg 2 (by omega)
      simp [hE] at g0 g1 g2
      obtain ⟨x, e0, _, w0⟩ := DataW.trod_int he g0
      obtain ⟨y, e1, _, w1⟩ := DataW.trod_int he g1
      obtain ⟨z, e2, _, w2⟩ := DataW.trod_int he g2
      simp at e0 e1 e2
      subst e0 e1 e2
      exact ⟨⟨x, y, z⟩, rfl, wf_i64 w0, wf_i64 w1, wf_i64 w2⟩
theorem open_threes {r : Reach} {b0 : Nat} {t e q : TypeId} {v : Value} {d : DataW H} {p : List MemPlace} (ht : P.underlying t = some (.slice e)) (he : P.underlying e = some (.array 3 q)) (hq : P.underlying q = some (.int .i64)) (ce : P.cellsOf e = 3) (cq : P.cellsOf q = 1)
    (hv : Value.okWide P w r b0 t v) (h : DataW.Trod enc P w 0 (fun _ => true) held t v d p) :
    ∃ (l : List Three) (a : Option Addr) (cap : Nat), v = .slice a l.length cap ∧ l.length ≤ cap ∧ cap ≤ maxLen ∧ (a = none → cap = 0) ∧ R3 w a l ∧ ∀ i, i < l.length → (l.getD i zero3).fits := by
  obtain ⟨a0, len0, cap0, rfl⟩ := okWide_slice ht hv
  obtain ⟨fuel, hf⟩ := h
  rcases open_slice ht hf with ⟨hcs, _⟩ | ⟨x, len, cap, m, n, D, Pl, hcs, _, hl, hm, hmm, _, hr⟩
  · simp [Value.cells] at hcs
    obtain ⟨rfl, rfl, rfl⟩ := hcs
    exact ⟨[], none, 0, rfl, Nat.le_refl _, Nat.zero_le _, fun _ => rfl, fun i hi => absurd hi (by simp), fun i hi => by simp at hi⟩
  · simp [Value.cells] at hcs
    obtain ⟨rfl, rfl, rfl⟩ := hcs
    simp only [if_true] at hmm
    obtain ⟨l, hl1, hl2⟩ := choose_list (α := Three) zero3 len0 (fun i t => (w.cell? (x.add (i * 3)) = some (.int .i64 t.x) ∧ w.cell? ((x.add (i * 3)).add 1) = some (.int .i64 t.y) ∧ w.cell? ((x.add (i * 3)).add 2) = some (.int .i64 t.z)) ∧ t.fits) (fun i hi => by
      obtain ⟨cs', h1, h2⟩ := hr i (by omega)
      rw [ce] at h1
      obtain ⟨t, rfl, hfit⟩ := trod_three he hq ce cq h2
      obtain ⟨_, _, hc⟩ := World.cells?_some h1
      refine ⟨t, ⟨?_, hc 1 (by omega), hc 2 (by omega)⟩, hfit⟩
      have := hc 0 (by omega)
      simpa [Addr.add] using this)
    refine ⟨l, some x, cap0, by rw [hl1], by omega, hm, fun e => (by cases e), ?_, fun i hi => (hl2 i (by omega)).2⟩
    intro i hi
    have hc0 := (hl2 0 (by omega)).1.1
    obtain ⟨g, off, spot⟩ := x
    have hspot : spot = none := by simpa [Addr.add] using World.cell?_spot hc0
    subst hspot
    obtain ⟨h0, h1, h2⟩ := (hl2 i (by omega)).1
    rw [Addr.add_lit] at h0 h1 h2
    rw [Addr.add_lit] at h1 h2
    rw [Addr.add_lit] at hc0
    exact ⟨g, off, rfl, World.block_lt_of_cell? w _ hc0, h0, h1, h2⟩
end
end Go.Proofs.Ytopemjbakpahfaa

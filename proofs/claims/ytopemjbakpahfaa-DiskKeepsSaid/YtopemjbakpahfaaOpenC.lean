/-
  Opening an argument of a law: four bytes. No condition.
-/
import Derived.Test.YtopemjbakpahfaaOpenB
namespace Go.Proofs.Ytopemjbakpahfaa
open Go.ChangeShapes Go.WideShapes Go.ChangeAt Go.RowKit
section
variable {H : Type} {enc : TypeId × Value → H} {P : Program} {w : World} {base : Nat} {spare : Nat → Bool} {held : Bool}
theorem okWide_arr {r : Reach} {b0 n : Nat} {t e : TypeId} {v : Value} (ht : P.underlying t = some (.array n e)) (hv : Value.okWide P w r b0 t v) : ∃ cs : Array Value, v = .agg cs ∧ cs.size = P.cellsOf t := by
  unfold Value.okWide at hv
  rw [ht] at hv
  obtain ⟨cs, h1, h2, _⟩ := hv
  exact ⟨cs, h1, h2⟩
theorem trod_u8 {n : Nat} {e : TypeId} {c : Value} {y : DataW H × List MemPlace} (he : P.underlying e = some (.int .u8)) (h : DataW.trod enc P w base spare held n e [c] = some y) : ∃ b : UInt8, c = .int .u8 (b.toNat : Int) := by
  obtain ⟨n, e, _, w⟩ := DataW.trod_int he h
  obtain ⟨b, rfl⟩ := u8_of w
  simp at e; exact ⟨b, e⟩
theorem open_four {r : Reach} {b0 : Nat} {t e : TypeId} {v : Value} {d : DataW H} {p : List MemPlace} (ht : P.underlying t = some (.array 4 e)) (he : P.underlying e = some (.int .u8)) (hC : P.cellsOf t = 4) (hE : P.cellsOf e = 1)
    (hv : Value.okWide P w r b0 t v) (h : DataW.Trod enc P w base spare held t v d p) :
    ∃ x y z u : UInt8, v = .agg #[.int .u8 (x.toNat : Int), .int .u8 (y.toNat : Int), .int .u8 (z.toNat : Int), .int .u8 (u.toNat : Int)] := by
  obtain ⟨cs, rfl, hsz⟩ := okWide_arr ht hv
  obtain ⟨l⟩ := cs
  match l, hsz.trans hC with
  | [c0, c1, c2, c3], _ =>
    obtain ⟨fuel, hf⟩ := h
    obtain ⟨xs, m, _, _, _, hlen, hg⟩ := DataW.trod_array ht hf
    match xs, hlen with
    | [y0, y1, y2, y3], _ =>
      have g0 := hg 0 (by omega)
      have g1 := hg 1 (by omega)
      have g2 := hg 2 (by omega)
      have g3 := hg 3 (by omega)
      simp [Value.cells, hE] at g0 g1 g2 g3
      obtain ⟨x, rfl⟩ := trod_u8 he g0
      obtain ⟨y, rfl⟩ := trod_u8 he g1
      obtain ⟨z, rfl⟩ := trod_u8 he g2
      obtain ⟨u, rfl⟩ := trod_u8 he g3
      exact ⟨x, y, z, u, rfl⟩
end
end Go.Proofs.Ytopemjbakpahfaa

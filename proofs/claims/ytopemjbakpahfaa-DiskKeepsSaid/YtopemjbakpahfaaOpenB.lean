/-
  Opening an argument of a law: bytes, a word of 32 bits, a byte, as plain values. No condition.
-/
import Derived.Test.YtopemjbakpahfaaMem
import Derived.Test.YtopemjbakpahfaaCrc
import Derived.ProofKit
import Derived.OpenShut
import Derived.Below
import Derived.Lib.SmallJoins
import Derived.Deep.Fields
import Derived.Laws.IdiomStrings
import Derived.Lib.BufferRead
namespace Go.Proofs.Ytopemjbakpahfaa
open Go.ChangeShapes Go.WideShapes Go.ChangeAt Go.RowKit
section
variable {H : Type} {enc : TypeId × Value → H} {P : Program} {w : World} {base : Nat} {spare : Nat → Bool} {held : Bool}
theorem wf_u8 {n : Int} (h : (Lit.int .u8 n).wf = true) : 0 ≤ n ∧ n < 256 := by
  simp [Lit.wf, IntKind.min, IntKind.max, IntKind.signed, IntKind.bits] at h
  omega
theorem wf_u32 {n : Int} (h : (Lit.int .u32 n).wf = true) : 0 ≤ n ∧ n < 4294967296 := by
  simp [Lit.wf, IntKind.min, IntKind.max, IntKind.signed, IntKind.bits] at h
  omega
theorem u8_of {n : Int} (h : (Lit.int .u8 n).wf = true) : ∃ b : UInt8, n = (b.toNat : Int) := by
  have := wf_u8 h
  refine ⟨UInt8.ofNat n.toNat, ?_⟩
  simp only [UInt8.toNat_ofNat']
  omega
theorem u32_of {n : Int} (h : (Lit.int .u32 n).wf = true) : ∃ c : Crc.W32, n = (c.toNat : Int) := by
  have := wf_u32 h
  refine ⟨BitVec.ofNat 32 n.toNat, ?_⟩
  simp only [BitVec.toNat_ofNat]
  omega
theorem bytes_of_cells {a : Addr} {cap len : Nat} {zs : List Int} (hl : len ≤ cap) (hz : zs.length = cap) (hc : ∀ i, i < zs.length → w.cell? (a.add i) = some (.int .u8 (zs.getD i 0))) (hw : ∀ n ∈ zs, (Lit.int .u8 n).wf = true) :
    ∃ l : List UInt8, l.length = len ∧ RB w (some a) l := by
  refine ⟨(zs.take len).map (fun z => UInt8.ofNat z.toNat), by simp; omega, ?_⟩
  intro i hi
  have hi' : i < len := by simp at hi; omega
  have h0 := hc 0 (by omega)
  obtain ⟨g, off, spot⟩ := a
  have hspot : spot = none := by simpa [Addr.add] using World.cell?_spot h0
  subst hspot
  refine ⟨g, off, rfl, World.block_lt_of_cell? w _ h0, ?_⟩
  have h := hc i (by omega)
  have e : (⟨g, off, none⟩ : Addr).add i = ⟨g, off + i, none⟩ := by
    unfold Addr.add; split
    · rename_i h; subst h; rfl
    · rfl
  rw [e] at h
  rw [h]
  have hiz : i < zs.length := by omega
  have hb := wf_u8 (hw (zs[i]) (List.getElem_mem hiz))
  have hx : (((zs.take len).map (fun z => UInt8.ofNat z.toNat)).getD i 0) = UInt8.ofNat (zs[i]).toNat := by simp [List.getD, hi', hiz]
  unfold byteV
  rw [hx, UInt8.toNat_ofNat']
  have hy : zs.getD i 0 = zs[i] := by simp [List.getD, hiz]
  rw [hy]
  congr 2
  omega
theorem open_bytes {r : Reach} {b0 : Nat} {t e : TypeId} {v : Value} {d : DataW H} {p : List MemPlace} (ht : P.underlying t = some (.slice e)) (he : P.underlying e = some (.int .u8)) (hE : P.cellsOf e = 1)
    (hv : Value.okWide P w r b0 t v) (h : DataW.Trod enc P w 0 (fun _ => true) held t v d p) :
    ∃ (l : List UInt8) (a : Option Addr) (cap : Nat), v = .slice a l.length cap ∧ l.length ≤ cap ∧ cap ≤ maxLen ∧ (a = none → cap = 0) ∧ RB w a l := by
  obtain ⟨a0, len0, cap0, rfl⟩ := okWide_slice ht hv
  obtain ⟨fuel, hf⟩ := h
  rcases open_ints ht he hE hf with ⟨hcs, _⟩ | ⟨x, l, c, zs, hcs, _, hl, hm, hz, _, hcell, hwz⟩
  · simp [Value.cells] at hcs
    obtain ⟨rfl, rfl, rfl⟩ := hcs
    exact ⟨[], none, 0, rfl, Nat.le_refl _, Nat.zero_le _, fun _ => rfl, RB.nil _ _⟩
  · simp [Value.cells] at hcs
    obtain ⟨rfl, rfl, rfl⟩ := hcs
    obtain ⟨l, rfl, hr⟩ := bytes_of_cells hl (by simpa using hz) hcell hwz
    exact ⟨l, _, _, rfl, hl, hm, fun e => (by cases e), hr⟩
end
/-- A string value out of bytes. -/
def strV (l : List UInt8) : Value := .string ⟨l.toArray⟩
theorem conv_str (w : World) (a : Option Addr) (cap : Nat) (l : List UInt8) (hn : a = none → l.length = 0) (hr : RB w a l) : (convert 22 9 (.slice a l.length cap)).run Try.prog w = .ok (strV l) w := by
  cases a with
  | none =>
    have := hn rfl
    rw [List.eq_nil_of_length_eq_zero this]
    exact Lib.run_convert_nil_bytes w 22 9 5 cap Try.underlying22 Try.underlying5 Try.underlying9
  | some ad =>
    refine run_convert_bytes_back w 22 9 5 ad cap l Try.underlying22 Try.underlying5 Try.underlying9 fun j hj => ?_
    exact hr.news j _ (by simp [hj, byteV])
theorem conv_bs {w : World} {v : Value} {base n : Nat} {l : List UInt8} (h : w.ownsRow base 5 1 v n (l.map byteV)) : (convert 22 9 v).run Try.prog w = .ok (strV l) w := by
  obtain ⟨a, cap, rfl, h1, h2, h3⟩ := RB.of_owns h
  exact conv_str w a cap l (fun e => by have := h2 e; omega) h3
theorem strV_inj {l m : List UInt8} (h : (⟨l.toArray⟩ : ByteArray) = ⟨m.toArray⟩) : l = m := by
  have : (⟨l.toArray⟩ : ByteArray).data = (⟨m.toArray⟩ : ByteArray).data := by rw [h]
  simpa using this
end Go.Proofs.Ytopemjbakpahfaa

/-
  Bytes of which up to four that stand together are changed: plain Lean. No condition.
-/
import Derived.Test.YtopemjbakpahfaaFramesP
namespace Go.Proofs.Ytopemjbakpahfaa.Crc
/-- The first k of the four bytes are laid over b, from the place at on. -/
def mix (b : List UInt8) (p : Nat) (ys : List UInt8) (k : Nat) : List UInt8 := b.take p ++ List.zipWith (· ^^^ ·) ((b.drop p).take k) (ys.take k) ++ b.drop (p + k)
def chg (ys : List UInt8) (k : Nat) : Bool := (ys.take k).any (· != 0)
theorem mix_zero (b : List UInt8) (p : Nat) (ys : List UInt8) : mix b p ys 0 = b := by simp [mix]
theorem mix_len {b : List UInt8} {p : Nat} {ys : List UInt8} {k : Nat} (h : p + k ≤ b.length) (hk : k ≤ ys.length) : (mix b p ys k).length = b.length := by
  simp [mix]; omega
theorem mix_mid {b : List UInt8} {p : Nat} {ys : List UInt8} {k : Nat} (h : p + k ≤ b.length) (hk : k ≤ ys.length) : (List.zipWith (· ^^^ ·) ((b.drop p).take k) (ys.take k)).length = k := by
  simp; omega
theorem mix_get {b : List UInt8} {p : Nat} {ys : List UInt8} {k : Nat} (h : p + k < b.length) (hk : k ≤ ys.length) : (mix b p ys k).getD (p + k) 0 = b.getD (p + k) 0 := by
  have hm := mix_mid (b := b) (p := p) (ys := ys) (k := k) (by omega) hk
  unfold mix
  simp only [List.getD]
  rw [List.getElem?_append_right (by rw [List.length_append, List.length_take, hm]; omega), List.length_append, List.length_take, hm, List.getElem?_drop]
  congr 2
  omega
theorem mix_succ {b : List UInt8} {p : Nat} {ys : List UInt8} {k : Nat} (h : p + k < b.length) (hk : k < ys.length) : (mix b p ys k).set (p + k) (b.getD (p + k) 0 ^^^ ys.getD k 0) = mix b p ys (k + 1) := by
  have hm := mix_mid (b := b) (p := p) (ys := ys) (k := k) (by omega) (by omega)
  unfold mix
  have hd : b.drop (p + k) = b.getD (p + k) 0 :: b.drop (p + (k + 1)) := by
    rw [← Nat.add_assoc, List.drop_eq_getElem_cons h]
    simp [List.getD, h]
  rw [hd, List.set_append_right _ _ (by rw [List.length_append, List.length_take, hm]; omega), List.length_append, List.length_take, hm]
  rw [show p + k - (min p b.length + k) = 0 by omega, List.set_cons_zero]
  have h1 : (b.drop p).take (k + 1) = (b.drop p).take k ++ [b.getD (p + k) 0] := by
    rw [List.take_succ_eq_append_getElem (by simp; omega)]
    simp [List.getD, h]
  have h2 : ys.take (k + 1) = ys.take k ++ [ys.getD k 0] := by
    rw [List.take_succ_eq_append_getElem hk]
    simp [List.getD, hk]
  rw [h1, h2, List.zipWith_append (by simp; omega)]
  simp
theorem chg_succ {ys : List UInt8} {k : Nat} (hk : k < ys.length) : chg ys (k + 1) = (chg ys k || ys.getD k 0 != 0) := by
  unfold chg
  rw [List.take_succ_eq_append_getElem hk, List.any_append, List.any_cons, List.any_nil, Bool.or_false]
  simp only [List.getD, List.getElem?_eq_getElem hk, Option.getD_some]
theorem zip_same : ∀ (l ys : List UInt8), l.length = ys.length → (List.zipWith (· ^^^ ·) l ys = l ↔ ys.any (· != 0) = false) := by
  intro l
  induction l with
  | nil =>
    intro ys h
    have : ys = [] := List.eq_nil_of_length_eq_zero (by simpa using h.symm)
    subst this; simp
  | cons x l ih =>
    intro ys h
    cases ys with
    | nil => simp at h
    | cons y ys =>
      have := ih ys (by simpa using h)
      have hx : x ^^^ y = x ↔ y = 0 := by
        constructor
        · intro e
          have : x ^^^ (x ^^^ y) = x ^^^ x := by rw [e]
          simpa [← UInt8.xor_assoc] using this
        · rintro rfl; simp
      rw [List.zipWith_cons_cons, List.cons.injEq, this, List.any_cons, hx]
      simp
theorem mix_sum {b : List UInt8} {p : Nat} {ys : List UInt8} {k : Nat} (h : p + k ≤ b.length) (hk : k ≤ ys.length) (h4 : k ≤ 4) : (sum b = sum (mix b p ys k)) ↔ chg ys k = false := by
  have hl : ((b.drop p).take k).length = k := by simp; omega
  have hz := zip_same ((b.drop p).take k) (ys.take k) (by rw [hl]; simp; omega)
  have hb : b = b.take p ++ (b.drop p).take k ++ b.drop (p + k) := by
    rw [List.append_assoc, ← List.drop_drop, List.take_append_drop, List.take_append_drop]
  unfold chg
  rw [← hz]
  constructor
  · intro hs
    have : sum (b.take p ++ (b.drop p).take k ++ b.drop (p + k)) = sum (b.take p ++ List.zipWith (· ^^^ ·) ((b.drop p).take k) (ys.take k) ++ b.drop (p + k)) := by
      rw [← hb]; exact hs
    exact (apart (by rw [hl, mix_mid h hk]) (by omega) this).symm
  · intro e
    unfold mix
    rw [e, ← hb]
theorem mix_beq {b : List UInt8} {p : Nat} {ys : List UInt8} {k : Nat} (h : p + k ≤ b.length) (hk : k ≤ ys.length) (h4 : k ≤ 4) : (((sum b).toNat : Int) == ((sum (mix b p ys k)).toNat : Int)) = !(chg ys k) := by
  have h1 := mix_sum (b := b) (p := p) (ys := ys) h hk h4
  cases hc : chg ys k with
  | false =>
    rw [hc] at h1
    have := h1.2 rfl
    rw [← this]; simp
  | true =>
    rw [hc] at h1
    rw [Bool.not_true, beq_eq_false_iff_ne]
    intro e
    have : sum b = sum (mix b p ys k) := BitVec.eq_of_toNat_eq (by omega)
    exact absurd (h1.1 this) (by simp)
end Go.Proofs.Ytopemjbakpahfaa.Crc

/-
  Contracts and plain laws, part 23 (texts: RA1). No condition but what each states.
-/
import Derived.Test.YtopemjbakpahfaaSn22
/-
  The parts of some bytes, sector by sector: the same as the parts from byte to byte. Plain Lean. No condition but what each states.
-/
namespace Go.Proofs.Ytopemjbakpahfaa.Jour
open Disk
/-- Sector k of the area has none of the m bytes from p on. -/
def Away (p m k : Nat) : Prop := 32 * k + 32 ≤ p ∨ p + m ≤ 32 * k ∨ m = 0
instance (p m k : Nat) : Decidable (Away p m k) := by unfold Away; infer_instance
def secPart (f p m k : Nat) : Part := ⟨f + k, p - 32 * k, 32 * k - p, min (p + m - 32 * k) 32 - (p - 32 * k)⟩
def secFrom (f p m : Nat) : Nat → Nat → List Part
  | _, 0 => []
  | k, j + 1 => if Away p m k then secFrom f p m (k + 1) j else secPart f p m k :: secFrom f p m (k + 1) j
theorem secFrom_eq (f p m : Nat) : ∀ (j k fuel done : Nat), p + m ≤ 32 * (k + j) → done = min m (32 * k - p) → m - done ≤ fuel → secFrom f p m k j = parts (32 * f + p) m fuel done := by
  intro j
  induction j with
  | zero =>
    intro k fuel done hn hd hf
    have h : ¬ done < m := by omega
    cases fuel with
    | zero => rfl
    | succ fuel => unfold secFrom parts; rw [if_neg h]
  | succ j ih =>
    intro k fuel done hn hd hf
    unfold secFrom
    by_cases ha : Away p m k
    · rw [if_pos ha]
      refine ih (k + 1) fuel done (by omega) ?_ hf
      unfold Away at ha
      omega
    · rw [if_neg ha]
      unfold Away at ha
      have hlt : done < m := by omega
      obtain ⟨fu, rfl⟩ : ∃ fu, fuel = fu + 1 := ⟨fuel - 1, by omega⟩
      unfold parts
      rw [if_pos hlt]
      have hA : 32 * f + p + done = 32 * (f + k) + (p - 32 * k) := by omega
      have hi : p - 32 * k < 32 := by omega
      have h1 : (32 * f + p + done) / 32 = f + k := by rw [hA]; omega
      have h2 : (32 * f + p + done) % 32 = p - 32 * k := by rw [hA]; omega
      rw [h1, h2]
      have e : secPart f p m k = ⟨f + k, p - 32 * k, done, min (m - done) (32 - (p - 32 * k))⟩ := by
        unfold secPart
        congr 1
        · omega
        · omega
      rw [e]
      congr 1
      exact ih (k + 1) fu _ (by omega) (by omega) (by omega)
theorem secFrom_snoc (f p m : Nat) : ∀ (j k : Nat), secFrom f p m k (j + 1) = secFrom f p m k j ++ (if Away p m (k + j) then [] else [secPart f p m (k + j)]) := by
  intro j
  induction j with
  | zero =>
    intro k
    unfold secFrom
    rw [Nat.add_zero]
    split <;> simp [secFrom, *]
  | succ j ih =>
    intro k
    have h := ih (k + 1)
    rw [show k + 1 + j = k + (j + 1) by omega] at h
    rw [secFrom, h]
    conv => rhs; rw [secFrom]
    split <;> simp
/-- The parts in the first k sectors. -/
def secTo (f p m k : Nat) : List Part := secFrom f p m 0 k
theorem secTo_parts (f p m N : Nat) (h : p + m ≤ 32 * N) : parts (32 * f + p) m m 0 = secTo f p m N := (secFrom_eq f p m N 0 m 0 (by omega) (by omega) (by omega)).symm
theorem secTo_zero (f p m : Nat) : secTo f p m 0 = [] := rfl
theorem secTo_away {f p m k : Nat} (h : Away p m k) : secTo f p m (k + 1) = secTo f p m k := by
  unfold secTo; rw [secFrom_snoc, Nat.zero_add, if_pos h, List.append_nil]
theorem secTo_in {f p m k : Nat} (h : ¬ Away p m k) : secTo f p m (k + 1) = secTo f p m k ++ [secPart f p m k] := by
  unfold secTo; rw [secFrom_snoc, Nat.zero_add, if_neg h]
/-- Splitting off what is behind. -/
theorem secTo_le (f p m : Nat) {k : Nat} : ∀ (j : Nat), ∃ qs, secTo f p m (k + j) = secTo f p m k ++ qs := by
  intro j
  induction j with
  | zero => exact ⟨[], by simp⟩
  | succ j ih =>
    obtain ⟨qs, h⟩ := ih
    by_cases ha : Away p m (k + j)
    · exact ⟨qs, by rw [← Nat.add_assoc, secTo_away ha, h]⟩
    · exact ⟨qs ++ [secPart f p m (k + j)], by rw [← Nat.add_assoc, secTo_in ha, h, List.append_assoc]⟩
end Go.Proofs.Ytopemjbakpahfaa.Jour

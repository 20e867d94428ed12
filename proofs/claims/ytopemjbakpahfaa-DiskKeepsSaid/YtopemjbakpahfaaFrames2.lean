/-
  When the six bytes ahead are those of the frame: plain Lean, no condition.
-/
import Derived.Test.YtopemjbakpahfaaFrames
namespace Go.Proofs.Ytopemjbakpahfaa.Crc
theorem cut_match {b : List UInt8} {n : Nat} (h6 : 6 ≤ b.length) (hn : num (b.take 2) = n) (h1 : n ≤ 4096) (h2 : n ≤ b.length - 6)
    (h : ∀ i, i < 6 → (frame ((b.drop 6).take n)).getD i 0 = b.getD i 0) : cut b = some ((b.drop 6).take n, (b.drop 6).drop n) := by
  have ht : head ((b.drop 6).take n) = b.take 6 := by
    apply List.ext_getElem
    · rw [head_length]; simp; omega
    · intro i hi1 hi2
      rw [head_length] at hi1
      have := h i hi1
      simp only [List.getD, frame] at this
      rw [List.getElem?_append_left (by rw [head_length]; exact hi1), List.getElem?_eq_getElem (by rw [head_length]; exact hi1), List.getElem?_eq_getElem (by omega)] at this
      simpa using this
  have hs : be 4 (sum ((b.drop 6).take n)).toNat = (b.drop 2).take 4 := by
    have h3 : (head ((b.drop 6).take n)).drop 2 = (b.take 6).drop 2 := by rw [ht]
    rw [head, List.drop_append, be_length] at h3
    simp only [Nat.sub_self, List.drop_zero] at h3
    rw [List.drop_eq_nil_of_le (by rw [be_length]; omega), List.nil_append] at h3
    rw [h3, List.drop_take]
  unfold cut
  rw [hn, if_neg (by omega), if_neg (by omega), if_pos]
  rw [← hs, num_be]
  exact (Nat.mod_eq_of_lt (by have := (sum ((b.drop 6).take n)).isLt; omega)).symm
theorem cut_miss {b : List UInt8} {n i : Nat} (hn : num (b.take 2) = n) (hi : i < 6) (h : (frame ((b.drop 6).take n)).getD i 0 ≠ b.getD i 0) : cut b = none := by
  cases hc : cut b with
  | none => rfl
  | some q =>
    exfalso
    obtain ⟨x, r⟩ := q
    have hs := cut_some hc
    have hx : x = (b.drop 6).take n := by
      unfold cut at hc
      split at hc
      · cases hc
      · split at hc
        · cases hc
        · split at hc
          · simp only [Option.some.injEq, Prod.mk.injEq] at hc
            rw [← hc.1, hn]
          · cases hc
    rw [← hx] at h
    apply h
    have hb := hs.2.1
    have hl : (frame x).length = x.length + 6 := frame_length x
    have : b.getD i 0 = (frame x ++ r).getD i 0 := by rw [← hb]
    rw [this]
    simp only [List.getD]
    rw [List.getElem?_append_left (by omega)]
theorem num_two {b : List UInt8} (h : 2 ≤ b.length) : num (b.take 2) = (b.getD 0 0).toNat * 256 + (b.getD 1 0).toNat := by
  match b, h with
  | x :: y :: l, _ => simp [num]; omega
end Go.Proofs.Ytopemjbakpahfaa.Crc

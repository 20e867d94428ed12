/-
  What a frame with a byte less, or with a byte changed, is: plain Lean, no program. No condition beyond the lengths.
-/
import Derived.Test.YtopemjbakpahfaaFrames2
namespace Go.Proofs.Ytopemjbakpahfaa.Crc
theorem frame_take2 (l r : List UInt8) : (frame l ++ r).take 2 = be 2 l.length := by simp [frame, head, List.append_assoc, be_length]
theorem be2_inj {m n : Nat} (hm : m < 65536) (hn : n < 65536) (h : be 2 m = be 2 n) : m = n := by
  have := congrArg num h
  rw [num_be, num_be] at this
  omega
theorem be4_inj {x y : W32} (h : be 4 x.toNat = be 4 y.toNat) : x = y := by
  have := congrArg num h
  rw [num_be, num_be] at this
  apply BitVec.eq_of_toNat_eq
  have := x.isLt
  have := y.isLt
  omega
theorem frame_drop6 (l : List UInt8) : (frame l).drop 6 = l := by rw [frame, List.drop_append, head_length, List.drop_eq_nil_of_le (by rw [head_length]; omega)]; simp
theorem frame_take6 (l : List UInt8) : (frame l).take 6 = head l := by rw [frame, List.take_append, head_length, List.take_of_length_le (by rw [head_length]; omega)]; simp
theorem cut_len {x h r l : List UInt8} (hl : l.length ≤ 4096) (hx : x.take 2 = be 2 l.length) (hc : cut x = some (h, r)) : h.length = l.length := by
  obtain ⟨h1, rfl, _⟩ := cut_some hc
  rw [frame_take2] at hx
  exact be2_inj (by omega) (by omega) hx
theorem cut_less {l : List UInt8} (hl : l.length ≤ 4096) : cut ((frame l).take (l.length + 5)) = none := by
  cases hc : cut ((frame l).take (l.length + 5)) with
  | none => rfl
  | some q =>
    exfalso
    obtain ⟨h, r⟩ := q
    have h2 : ((frame l).take (l.length + 5)).take 2 = be 2 l.length := by
      rw [List.take_take, show min 2 (l.length + 5) = 2 by omega]
      simpa using frame_take2 l []
    have h3 := cut_len hl h2 hc
    have h4 := (cut_some hc).2.2
    rw [List.length_take, frame_length] at h4
    omega
theorem cut_changed {l : List UInt8} (hl : l.length ≤ 4096) {i : Nat} (hi2 : 2 ≤ i) (hi : i < l.length + 6) {y : UInt8} (hy : y ≠ 0) : cut ((frame l).set i ((frame l).getD i 0 ^^^ y)) = none := by
  have hfl := frame_length l
  have hz : ∀ z : UInt8, z = z ^^^ y → y = 0 := by
    intro z h
    have : z ^^^ z = z ^^^ (z ^^^ y) := by rw [← h]
    simpa [← UInt8.xor_assoc] using this.symm
  cases hc : cut ((frame l).set i ((frame l).getD i 0 ^^^ y)) with
  | none => rfl
  | some q =>
    exfalso
    obtain ⟨h, r⟩ := q
    have h2 : ((frame l).set i ((frame l).getD i 0 ^^^ y)).take 2 = be 2 l.length := by
      rw [List.take_set_of_le (by omega)]
      simpa using frame_take2 l []
    have h3 := cut_len hl h2 hc
    obtain ⟨h4, h5, h6⟩ := cut_some hc
    rw [List.length_set, hfl] at h6
    have hr : r = [] := List.eq_nil_of_length_eq_zero (by omega)
    rw [hr, List.append_nil] at h5
    rcases Nat.lt_or_ge i 6 with h7 | h7
    · have h8 := congrArg (List.drop 6) h5
      rw [List.drop_set_of_lt h7, frame_drop6, frame_drop6] at h8
      rw [← h8] at h5
      have h9 := congrArg (fun x => x.getD i 0) h5
      simp only [List.getD, List.getElem?_set_self (show i < (frame l).length by omega), Option.getD_some] at h9
      exact hy (hz _ h9.symm)
    · have h8 := congrArg (List.take 6) h5
      rw [List.take_set_of_le h7, frame_take6, frame_take6] at h8
      have hs : sum l = sum h := by
        have := congrArg (List.drop 2) h8
        unfold head at this
        rw [List.drop_left' (be_length 2 _), List.drop_left' (be_length 2 _)] at this
        exact be4_inj this
      have h9 := congrArg (List.drop 6) h5
      rw [List.drop_set, if_neg (by omega), frame_drop6, frame_drop6] at h9
      have hj : i - 6 < l.length := by omega
      have hg : (frame l).getD i 0 = l[i - 6] := by
        have : (frame l).getD i 0 = ((frame l).drop 6).getD (i - 6) 0 := by simp [List.getD, show 6 + (i - 6) = i by omega]
        rw [this, frame_drop6]
        simp [List.getD, hj]
      rw [hg] at h9
      have e1 : l = l.take (i - 6) ++ [l[i - 6]] ++ l.drop (i - 6 + 1) := by simp
      have e2 : l.set (i - 6) (l[i - 6] ^^^ y) = l.take (i - 6) ++ [l[i - 6] ^^^ y] ++ l.drop (i - 6 + 1) := by
        rw [List.set_eq_take_append_cons_drop, if_pos hj]; simp
      have h10 : sum (l.take (i - 6) ++ [l[i - 6]] ++ l.drop (i - 6 + 1)) = sum (l.take (i - 6) ++ [l[i - 6] ^^^ y] ++ l.drop (i - 6 + 1)) := by
        rw [← e1, ← e2, h9]; exact hs
      have h11 := apart (by simp) (by simp) h10
      simp only [List.cons.injEq, and_true] at h11
      exact hy (hz _ h11)
end Go.Proofs.Ytopemjbakpahfaa.Crc

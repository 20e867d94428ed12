/-
  Frames of bytes, in plain Lean: no program, no memory, no condition.
-/
import Derived.Test.YtopemjbakpahfaaCrc
namespace Go.Proofs.Ytopemjbakpahfaa.Crc
/-- A number in so many bytes, the greatest first. -/
def be : Nat → Nat → List UInt8
  | 0, _ => []
  | k + 1, n => UInt8.ofNat (n / 2 ^ (8 * k)) :: be k n
theorem be_length (k n : Nat) : (be k n).length = k := by
  induction k with
  | zero => rfl
  | succ k ih => simp [be, ih]
def num (l : List UInt8) : Nat := l.foldl (fun n x => 256 * n + x.toNat) 0
theorem num_acc (l : List UInt8) : ∀ a : Nat, l.foldl (fun n x => 256 * n + x.toNat) a = a * 256 ^ l.length + num l := by
  induction l with
  | nil => intro a; simp [num]
  | cons x l ih =>
    intro a
    simp only [List.foldl_cons, num, List.length_cons]
    rw [ih, ih (256 * 0 + x.toNat)]
    rw [Nat.pow_succ, Nat.add_mul, ← Nat.add_assoc]
    congr 2
    · rw [Nat.mul_comm 256 a, Nat.mul_assoc, Nat.mul_comm 256]
    · simp
theorem num_cons (x : UInt8) (l : List UInt8) : num (x :: l) = x.toNat * 256 ^ l.length + num l := by
  have := num_acc l (256 * 0 + x.toNat)
  simp only [num, List.foldl_cons]
  rw [this]; simp [num]
theorem num_snoc (l : List UInt8) (x : UInt8) : num (l ++ [x]) = 256 * num l + x.toNat := by simp [num]
theorem num_lt (l : List UInt8) : num l < 256 ^ l.length := by
  induction l with
  | nil => simp [num]
  | cons x l ih =>
    rw [num_cons, List.length_cons, Nat.pow_succ]
    have hx := UInt8.toNat_lt x
    have : (x.toNat + 1) * 256 ^ l.length ≤ 256 * 256 ^ l.length := Nat.mul_le_mul_right _ (by omega)
    rw [Nat.add_mul] at this
    omega
theorem num_be (k n : Nat) : num (be k n) = n % 256 ^ k := by
  induction k with
  | zero => simp [be, num, Nat.mod_one]
  | succ k ih =>
    rw [be, num_cons, be_length, ih, UInt8.toNat_ofNat']
    have h256 : (2 : Nat) ^ (8 * k) = 256 ^ k := by rw [Nat.pow_mul]
    have hm : n % (256 ^ k * 256) = n % 256 ^ k + 256 ^ k * (n / 256 ^ k % 256) := Nat.mod_mul
    rw [h256, Nat.pow_succ 256 k, hm, Nat.mul_comm, Nat.add_comm]
theorem num_inj : ∀ {l m : List UInt8}, l.length = m.length → num l = num m → l = m := by
  intro l
  induction l with
  | nil => intro m h _; exact (List.eq_nil_of_length_eq_zero h.symm).symm
  | cons x l ih =>
    intro m h hn
    cases m with
    | nil => simp at h
    | cons y m =>
      have hl : l.length = m.length := by simpa using h
      rw [num_cons, num_cons, ← hl] at hn
      have h1 := num_lt l
      have h2 := num_lt m
      rw [← hl] at h2
      have hp : 0 < 256 ^ l.length := Nat.pow_pos (by omega)
      have hq : x.toNat = y.toNat := by
        have e1 : (x.toNat * 256 ^ l.length + num l) / 256 ^ l.length = x.toNat := by
          rw [Nat.mul_comm, Nat.mul_add_div hp, Nat.div_eq_of_lt h1, Nat.add_zero]
        have e2 : (y.toNat * 256 ^ l.length + num m) / 256 ^ l.length = y.toNat := by
          rw [Nat.mul_comm, Nat.mul_add_div hp, Nat.div_eq_of_lt h2, Nat.add_zero]
        rw [← e1, ← e2, hn]
      rw [hq] at hn
      rw [ih hl (by omega), UInt8.toNat_inj.1 hq]
def head (l : List UInt8) : List UInt8 := be 2 l.length ++ be 4 (sum l).toNat
def frame (l : List UInt8) : List UInt8 := head l ++ l
theorem head_length (l : List UInt8) : (head l).length = 6 := by simp [head, be_length]
theorem frame_length (l : List UInt8) : (frame l).length = l.length + 6 := by simp [frame, head_length]; omega
/-- What the first frame holds, and what stands behind it. -/
def cut (b : List UInt8) : Option (List UInt8 × List UInt8) :=
  if b.length < 6 then none
  else if 4096 < num (b.take 2) ∨ b.length - 6 < num (b.take 2) then none
  else if (sum ((b.drop 6).take (num (b.take 2)))).toNat = num ((b.drop 2).take 4) then some ((b.drop 6).take (num (b.take 2)), (b.drop 6).drop (num (b.take 2)))
  else none
theorem cut_frame {l : List UInt8} (r : List UInt8) (hl : l.length ≤ 4096) : cut (frame l ++ r) = some (l, r) := by
  have h2 : (frame l ++ r).take 2 = be 2 l.length := by
    simp [frame, head, List.append_assoc, be_length]
  have h6 : (frame l ++ r).drop 6 = l ++ r := by
    rw [frame, List.append_assoc, List.drop_append, head_length]; simp [List.drop_eq_nil_of_le, head_length]
  have h4 : ((frame l ++ r).drop 2).take 4 = be 4 (sum l).toNat := by
    simp [frame, head, List.append_assoc, be_length]
  have hn : num (be 2 l.length) = l.length := by rw [num_be]; exact Nat.mod_eq_of_lt (by omega)
  unfold cut
  rw [h2, h6, h4, hn, num_be, Nat.mod_eq_of_lt (by have := (sum l).isLt; omega)]
  have hlen : (frame l ++ r).length = l.length + 6 + r.length := by rw [List.length_append, frame_length]
  rw [if_neg (by omega), if_neg (by omega)]
  simp
theorem cut_some {b h r : List UInt8} (hc : cut b = some (h, r)) : h.length ≤ 4096 ∧ b = frame h ++ r ∧ b.length = 6 + h.length + r.length := by
  unfold cut at hc
  split at hc
  · cases hc
  · rename_i h1
    split at hc
    · cases hc
    · rename_i h2
      split at hc
      · rename_i h3
        simp only [Option.some.injEq, Prod.mk.injEq] at hc
        obtain ⟨rfl, rfl⟩ := hc
        have hl : ((b.drop 6).take (num (b.take 2))).length = num (b.take 2) := by simp; omega
        have hb2 : b.take 2 = be 2 ((b.drop 6).take (num (b.take 2))).length := by
          rw [hl]
          apply num_inj
          · simp [be_length]; omega
          · rw [num_be]; exact (Nat.mod_eq_of_lt (by omega)).symm
        have hb4 : (b.drop 2).take 4 = be 4 (sum ((b.drop 6).take (num (b.take 2)))).toNat := by
          apply num_inj
          · simp [be_length]; omega
          · rw [num_be, h3]; exact (Nat.mod_eq_of_lt (by have := num_lt ((b.drop 2).take 4); simp at this; omega)).symm
        refine ⟨by omega, ?_, ?_⟩
        · unfold frame head
          rw [← hb2, ← hb4]
          rw [List.append_assoc, List.append_assoc, List.take_append_drop]
          rw [show b.drop 6 = (b.drop 2).drop 4 by simp, List.take_append_drop, List.take_append_drop]
        · simp; omega
      · cases hc
/-- What all frames hold with which bytes begin, and how long they are. -/
def allF : Nat → List UInt8 → List (List UInt8) × Nat
  | 0, _ => ([], 0)
  | k + 1, b =>
    match cut b with
    | none => ([], 0)
    | some (h, r) => (h :: (allF k r).1, 6 + h.length + (allF k r).2)
def all (b : List UInt8) : List (List UInt8) × Nat := allF (b.length + 1) b
theorem allF_more : ∀ (k : Nat) (b : List UInt8), b.length < k → ∀ k', b.length < k' → allF k b = allF k' b := by
  intro k
  induction k with
  | zero => intro b h; omega
  | succ k ih =>
    intro b h k' h'
    cases k' with
    | zero => omega
    | succ k' =>
      simp only [allF]
      cases hc : cut b with
      | none => rfl
      | some q =>
        obtain ⟨h1, r⟩ := q
        have := (cut_some hc).2.2
        simp only []
        rw [ih r (by omega) k' (by omega)]
theorem all_none {b : List UInt8} (h : cut b = none) : all b = ([], 0) := by unfold all allF; rw [h]
theorem all_some {b h r : List UInt8} (hc : cut b = some (h, r)) : all b = (h :: (all r).1, 6 + h.length + (all r).2) := by
  have hl := (cut_some hc).2.2
  unfold all
  rw [allF, hc]
  simp only []
  rw [allF_more b.length r (by omega) (r.length + 1) (by omega)]
/-- Frames together. -/
def join : List (List UInt8) → Option (List UInt8)
  | [] => some []
  | l :: m => if 4096 < l.length then none else (join m).map (frame l ++ ·)
theorem all_join : ∀ (l : List (List UInt8)) (b r : List UInt8), join l = some b → all (b ++ r) = (l ++ (all r).1, b.length + (all r).2) := by
  intro l
  induction l with
  | nil => intro b r h; simp [join] at h; subst h; simp
  | cons x l ih =>
    intro b r h
    unfold join at h
    split at h
    · cases h
    · cases hj : join l with
      | none => rw [hj] at h; cases h
      | some c =>
        rw [hj] at h
        simp at h
        subst h
        rw [List.append_assoc, all_some (cut_frame (c ++ r) (by omega)), ih c r hj]
        simp [frame_length]
        omega
end Go.Proofs.Ytopemjbakpahfaa.Crc

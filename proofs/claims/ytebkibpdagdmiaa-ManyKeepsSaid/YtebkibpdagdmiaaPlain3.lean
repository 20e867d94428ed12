/-
  What rows of steps keep, in plain Lean: no program, no memory, no condition.
-/
import Derived.Test.YtebkibpdagdmiaaPlain2
namespace Go.Proofs.Ytebkibpdagdmiaa
def count (b : B) : Int := b.o + b.d + b.f
theorem over_iff {b : B} (h : right b = true) : over b = true ↔ b.e ≤ b.d ∨ b.o = 0 := by simp [over, h]
theorem pstep_cases {b : B} {x : Int} (hr : right b = true) :
    (over b = true ∧ (pstep b x).1 = b ∧ ((0 ≤ x ∧ x ≤ 2 ∧ (pstep b x).2 = 12) ∨ ((x < 0 ∨ 2 < x) ∧ (pstep b x).2 = 0))) ∨
    (over b = false ∧ x = 0 ∧ b.o + b.d + b.f = b.m ∧ (pstep b x).1 = b ∧ (pstep b x).2 = 2) ∨
    (over b = false ∧ x = 0 ∧ b.o + b.d + b.f ≠ b.m ∧ (pstep b x).1 = ⟨b.m, b.e, b.o + 1, b.d, b.f⟩ ∧ (pstep b x).2 = 0) ∨
    (over b = false ∧ x = 1 ∧ (pstep b x).1 = ⟨b.m, b.e, b.o - 1, b.d + 1, b.f⟩ ∧ (pstep b x).2 = 0) ∨
    (over b = false ∧ x = 2 ∧ (pstep b x).1 = ⟨b.m, b.e, b.o - 1, b.d, b.f + 1⟩ ∧ (pstep b x).2 = 0) ∨
    (over b = false ∧ (x < 0 ∨ 2 < x) ∧ (pstep b x).1 = b ∧ (pstep b x).2 = 0) := by
  by_cases ho : over b = true
  · refine .inl ⟨ho, by simp [pstep, step, hr, ho], ?_⟩
    by_cases hx : x < 0 ∨ 2 < x
    · exact .inr ⟨hx, by simp only [pstep]; rw [if_pos hx]⟩
    · exact .inl ⟨by omega, by omega, by simp only [pstep]; rw [if_neg hx]; simp [step, hr, ho]⟩
  · have ho' : over b = false := by simpa using ho
    refine .inr ?_
    by_cases h0 : x = 0
    · subst h0
      by_cases hm : b.o + b.d + b.f = b.m
      · exact .inl ⟨ho', rfl, hm, by simp [pstep, step, hr, ho', hm], by simp [pstep, step, hr, ho', hm]⟩
      · exact .inr (.inl ⟨ho', rfl, hm, by simp [pstep, step, hr, ho', hm], by simp [pstep, step, hr, ho', hm]⟩)
    · by_cases h1 : x = 1
      · subst h1
        exact .inr (.inr (.inl ⟨ho', rfl, by simp [pstep, step, hr, ho'], by simp [pstep, step, hr, ho']⟩))
      · by_cases h2 : x = 2
        · subst h2
          exact .inr (.inr (.inr (.inl ⟨ho', rfl, by simp [pstep, step, hr, ho'], by simp [pstep, step, hr, ho']⟩)))
        · have hx : x < 0 ∨ 2 < x := by omega
          exact .inr (.inr (.inr (.inr ⟨ho', hx, step_else_fst hx, by simp only [pstep]; rw [if_pos hx]⟩)))
/-- What a step keeps. -/
theorem pstep_keeps {b : B} {x : Int} (hr : right b = true) :
    right (pstep b x).1 = true ∧ count (pstep b x).1 = count b + (if x = 0 ∧ (pstep b x).2 = 0 then 1 else 0) ∧
    (over b = true → over (pstep b x).1 = true ∧ (0 ≤ x → x ≤ 2 → (pstep b x).2 = 12)) := by
  have hi := right_iff.1 hr
  rcases pstep_cases (x := x) hr with ⟨h1, h2, h3⟩ | ⟨h1, h2, h3, h4, h5⟩ | ⟨h1, h2, h3, h4, h5⟩ | ⟨h1, h2, h4, h5⟩ | ⟨h1, h2, h4, h5⟩ | ⟨h1, h2, h4, h5⟩
  · rw [h2]
    refine ⟨hr, ?_, fun _ => ⟨h1, fun a b => ?_⟩⟩
    · rw [if_neg (by omega)]; omega
    · omega
  · rw [h4]
    exact ⟨hr, by rw [if_neg (by omega)]; omega, fun h => by rw [h1] at h; cases h⟩
  · rw [h4]
    refine ⟨right_iff.2 (by simp only []; omega), ?_, fun h => by rw [h1] at h; cases h⟩
    rw [if_pos ⟨h2, h5⟩]; simp only [count]; omega
  · have hn : ¬ (b.e ≤ b.d ∨ b.o = 0) := by rw [← over_iff hr, h1]; simp
    rw [h4]
    refine ⟨right_iff.2 (by simp only []; omega), ?_, fun h => by rw [h1] at h; cases h⟩
    rw [if_neg (by omega)]; simp only [count]; omega
  · have hn : ¬ (b.e ≤ b.d ∨ b.o = 0) := by rw [← over_iff hr, h1]; simp
    rw [h4]
    refine ⟨right_iff.2 (by simp only []; omega), ?_, fun h => by rw [h1] at h; cases h⟩
    rw [if_neg (by omega)]; simp only [count]; omega
  · rw [h4]
    exact ⟨hr, by rw [if_neg (by omega)]; omega, fun h => by rw [h1] at h; cases h⟩
theorem well_over {b : B} (h : well b = true) : over b = true := by
  simp only [well, Bool.and_eq_true, decide_eq_true_eq] at h
  exact (over_iff h.1).2 (.inl h.2)
theorem start_cases (x y z n : Int) : start x y z n = (⟨0, 0, 0, 0, 0⟩, 1) ∨ ∃ s, start x y z n = (s, 0) ∧ right s = true ∧ count s = n := by
  have key : ∀ x y z, startM x y z n = (⟨0, 0, 0, 0, 0⟩, 1) ∨ ∃ s, startM x y z n = (s, 0) ∧ right s = true ∧ count s = n := by
    intro x y z
    unfold startM
    split
    · exact .inl rfl
    · rename_i h
      refine .inr ⟨_, rfl, ?_, by simp [count]⟩
      simp only [not_or, Bool.not_eq_false, within_true] at h
      exact right_iff.2 (by simp only []; omega)
  unfold start
  split
  · exact key 1 1 1
  · exact key x y z
theorem plays_right {s : B} (h : right s = true) (l : List Int) : right (plays s l).1 = true := by
  have key : ∀ (l : List Int) (s : B) (acc : List Int), right s = true → right (l.foldl (fun q k => ((pstep q.1 k).1, q.2 ++ [(pstep q.1 k).2])) (s, acc)).1 = true := by
    intro l
    induction l with
    | nil => intro s acc h; exact h
    | cons k l ih => intro s acc h; exact ih _ _ (pstep_keeps h).1
  exact key l s [] h
end Go.Proofs.Ytebkibpdagdmiaa

/-
  Contracts of Over and Well, of the program and of the reference: for every batch. No condition.
-/
import Derived.Test.YtebkibpdagdmiaaM1
namespace Go.Proofs.Ytebkibpdagdmiaa
open Go.RowKit
theorem ret_bool {a b : Bool} (h : a = b) : Ending.returned (.bool a) = .returned (.bool b) := by rw [h]

theorem rright_any (m e o d f : Int) (w : World) :
    Calls Try.prog 20 #[.agg #[.int .i64 m, .int .i64 e, .int .i64 o, .int .i64 d, .int .i64 f]] w fun en w' => en = .returned (.bool (right ⟨m, e, o, d, f⟩)) ∧ Below w.heap.size w w' := by
  go_enter Try.func20, Try.ntmps20
  go_wp2
  all_goals go_ret
  all_goals refine ⟨ret_bool ?_, (Below.refl _ _).alloc (Nat.le_refl _) _⟩
  all_goals first
    | (symm; rw [← Bool.not_eq_true, right_iff]; simp only []; omega)
    | (rw [Bool.eq_iff_iff, right_iff]; simp only [decide_eq_true_eq]; omega)

theorem over_any (m e o d f : Int) (w : World) :
    Calls Try.prog 21 #[.agg #[.int .i64 m, .int .i64 e, .int .i64 o, .int .i64 d, .int .i64 f]] w fun en w' => en = .returned (.bool (over ⟨m, e, o, d, f⟩)) ∧ Below w.heap.size w w' := by
  have ho : over ⟨m, e, o, d, f⟩ = (right ⟨m, e, o, d, f⟩ && (decide (e ≤ d) || o == 0)) := rfl
  rw [ho]; clear ho
  by_cases hr : right ⟨m, e, o, d, f⟩ = true
  · by_cases h : e ≤ d
    · go_enter Try.func21, Try.ntmps21
      go_wp2_with (go_at_call 19; refine (right_any _ _ _ _ _ _).mono ?_; rintro en w1 ⟨rfl, hb⟩; obtain ⟨hc, hf⟩ := bcell hb)
      go_ret
      exact ⟨ret_bool (by rw [hr]; simp [h]), below_onto ((Below.refl _ _).alloc (Nat.le_refl _) _) (by simp) hb⟩
    · go_enter Try.func21, Try.ntmps21
      go_wp2_with (go_at_call 19; refine (right_any _ _ _ _ _ _).mono ?_; rintro en w1 ⟨rfl, hb⟩; obtain ⟨hc, hf⟩ := bcell hb)
      go_ret
      exact ⟨ret_bool (by rw [hr]; simp), below_onto ((Below.refl _ _).alloc (Nat.le_refl _) _) (by simp) hb⟩
  · rw [Bool.not_eq_true] at hr
    go_enter Try.func21, Try.ntmps21
    go_wp2_with (go_at_call 19; refine (right_any _ _ _ _ _ _).mono ?_; rintro en w1 ⟨rfl, hb⟩; obtain ⟨hc, hf⟩ := bcell hb)
    go_ret
    exact ⟨ret_bool (by rw [hr]; simp), below_onto ((Below.refl _ _).alloc (Nat.le_refl _) _) (by simp) hb⟩
theorem rover_any (m e o d f : Int) (w : World) :
    Calls Try.prog 22 #[.agg #[.int .i64 m, .int .i64 e, .int .i64 o, .int .i64 d, .int .i64 f]] w fun en w' => en = .returned (.bool (over ⟨m, e, o, d, f⟩)) ∧ Below w.heap.size w w' := by
  have ho : over ⟨m, e, o, d, f⟩ = (right ⟨m, e, o, d, f⟩ && (decide (e ≤ d) || o == 0)) := rfl
  rw [ho]; clear ho
  by_cases hr : right ⟨m, e, o, d, f⟩ = true
  · by_cases h : e ≤ d
    · go_enter Try.func22, Try.ntmps22
      go_wp2_with (go_at_call 20; refine (rright_any _ _ _ _ _ _).mono ?_; rintro en w1 ⟨rfl, hb⟩; obtain ⟨hc, hf⟩ := bcell hb)
      go_ret
      exact ⟨ret_bool (by rw [hr]; simp [h]), below_onto ((Below.refl _ _).alloc (Nat.le_refl _) _) (by simp) hb⟩
    · go_enter Try.func22, Try.ntmps22
      go_wp2_with (go_at_call 20; refine (rright_any _ _ _ _ _ _).mono ?_; rintro en w1 ⟨rfl, hb⟩; obtain ⟨hc, hf⟩ := bcell hb)
      go_ret
      exact ⟨ret_bool (by rw [hr]; simp), below_onto ((Below.refl _ _).alloc (Nat.le_refl _) _) (by simp) hb⟩
  · rw [Bool.not_eq_true] at hr
    go_enter Try.func22, Try.ntmps22
    go_wp2_with (go_at_call 20; refine (rright_any _ _ _ _ _ _).mono ?_; rintro en w1 ⟨rfl, hb⟩; obtain ⟨hc, hf⟩ := bcell hb)
    go_ret
    exact ⟨ret_bool (by rw [hr]; simp), below_onto ((Below.refl _ _).alloc (Nat.le_refl _) _) (by simp) hb⟩
theorem well_any (m e o d f : Int) (w : World) :
    Calls Try.prog 23 #[.agg #[.int .i64 m, .int .i64 e, .int .i64 o, .int .i64 d, .int .i64 f]] w fun en w' => en = .returned (.bool (well ⟨m, e, o, d, f⟩)) ∧ Below w.heap.size w w' := by
  have ho : well ⟨m, e, o, d, f⟩ = (right ⟨m, e, o, d, f⟩ && decide (e ≤ d)) := rfl
  rw [ho]; clear ho
  by_cases hr : right ⟨m, e, o, d, f⟩ = true
  · go_enter Try.func23, Try.ntmps23
    go_wp2_with (go_at_call 19; refine (right_any _ _ _ _ _ _).mono ?_; rintro en w1 ⟨rfl, hb⟩; obtain ⟨hc, hf⟩ := bcell hb)
    go_ret
    exact ⟨ret_bool (by rw [hr]; simp), below_onto ((Below.refl _ _).alloc (Nat.le_refl _) _) (by simp) hb⟩
  · rw [Bool.not_eq_true] at hr
    go_enter Try.func23, Try.ntmps23
    go_wp2_with (go_at_call 19; refine (right_any _ _ _ _ _ _).mono ?_; rintro en w1 ⟨rfl, hb⟩; obtain ⟨hc, hf⟩ := bcell hb)
    go_ret
    exact ⟨ret_bool (by rw [hr]; simp), below_onto ((Below.refl _ _).alloc (Nat.le_refl _) _) (by simp) hb⟩
theorem rwell_any (m e o d f : Int) (w : World) :
    Calls Try.prog 24 #[.agg #[.int .i64 m, .int .i64 e, .int .i64 o, .int .i64 d, .int .i64 f]] w fun en w' => en = .returned (.bool (well ⟨m, e, o, d, f⟩)) ∧ Below w.heap.size w w' := by
  have ho : well ⟨m, e, o, d, f⟩ = (right ⟨m, e, o, d, f⟩ && decide (e ≤ d)) := rfl
  rw [ho]; clear ho
  by_cases hr : right ⟨m, e, o, d, f⟩ = true
  · go_enter Try.func24, Try.ntmps24
    go_wp2_with (go_at_call 20; refine (rright_any _ _ _ _ _ _).mono ?_; rintro en w1 ⟨rfl, hb⟩; obtain ⟨hc, hf⟩ := bcell hb)
    go_ret
    exact ⟨ret_bool (by rw [hr]; simp), below_onto ((Below.refl _ _).alloc (Nat.le_refl _) _) (by simp) hb⟩
  · rw [Bool.not_eq_true] at hr
    go_enter Try.func24, Try.ntmps24
    go_wp2_with (go_at_call 20; refine (rright_any _ _ _ _ _ _).mono ?_; rintro en w1 ⟨rfl, hb⟩; obtain ⟨hc, hf⟩ := bcell hb)
    go_ret
    exact ⟨ret_bool (by rw [hr]; simp), below_onto ((Below.refl _ _).alloc (Nat.le_refl _) _) (by simp) hb⟩
end Go.Proofs.Ytebkibpdagdmiaa

/-
  Contracts of within, count and Right: what they return, for every batch; nothing that was there is written. No condition.
-/
import Derived.Test.YtebkibpdagdmiaaKit
import Derived.Test.YtebkibpdagdmiaaPlain
namespace Go.Proofs.Ytebkibpdagdmiaa
open Go.RowKit

theorem within_any (n lo hi : Int) (w : World) : Calls Try.prog 31 #[.int .i64 n, .int .i64 lo, .int .i64 hi] w fun e w' => e = .returned (.bool (within n lo hi)) ∧ w = w' := by
  go_enter Try.func31, Try.ntmps31
  go_wp2
  all_goals go_ret
  all_goals refine ⟨?_, rfl⟩
  all_goals unfold within
  · simp [*]
  · have : ¬ lo ≤ n := by omega
    simp [*]
theorem count_any (m e o d f : Int) (w : World) (ho : 0 ≤ o ∧ o ≤ 16) (hd : 0 ≤ d ∧ d ≤ 16) (hf : 0 ≤ f ∧ f ≤ 16) :
    Calls Try.prog 32 #[.agg #[.int .i64 m, .int .i64 e, .int .i64 o, .int .i64 d, .int .i64 f]] w fun en w' => en = .returned (.int .i64 (o + d + f)) ∧ Below w.heap.size w w' := by
  go_enter Try.func32, Try.ntmps32
  go_wp2
  go_ret
  exact ⟨rfl, (Below.refl _ _).alloc (Nat.le_refl _) _⟩

theorem right_full (m e o d f : Int) (w : World) (h1 : within m 1 16 = true) (h2 : within e 1 m = true) (h3 : within o 0 m = true) (h4 : within d 0 m = true) (h5 : within f 0 m = true) :
    Calls Try.prog 19 #[.agg #[.int .i64 m, .int .i64 e, .int .i64 o, .int .i64 d, .int .i64 f]] w fun en w' => en = .returned (.bool (within (o + d + f) 1 m)) ∧ Below w.heap.size w w' := by
  have b1 := within_true.1 h1
  have b3 := within_true.1 h3
  have b4 := within_true.1 h4
  have b5 := within_true.1 h5
  go_enter Try.func19, Try.ntmps19
  go_wp2_with (go_at_call 31; refine (within_any _ _ _ _).mono ?_; rintro e w' ⟨rfl, rfl⟩)
  refine wp_loop_rounds 4 ?_
  iterate 4 (rw [rounds_succ]; go_wp2_with (go_at_call 31; refine (within_any _ _ _ _).mono ?_; rintro e w' ⟨rfl, rfl⟩))
  have hB : Below w.heap.size w ((w.alloc (.cells #[.int .i64 m, .int .i64 e, .int .i64 o, .int .i64 d, .int .i64 f] 23)).alloc (.cells #[.int .i64 o, .int .i64 d, .int .i64 f] 3)) := ((Below.refl _ _).alloc (Nat.le_refl _) _).alloc (by simp) _
  generalize hW : (World.alloc (World.alloc w _) _) = W at hB ⊢
  have hf0 := below_fact (w := W) (a := ⟨w.heap.size, 0, none⟩) (v := .int .i64 m) (by subst hW; go_simp)
  have hf1 := below_fact (w := W) (a := ⟨w.heap.size, 1, none⟩) (v := .int .i64 e) (by subst hW; go_simp)
  have hf2 := below_fact (w := W) (a := ⟨w.heap.size, 2, none⟩) (v := .int .i64 o) (by subst hW; go_simp)
  have hf3 := below_fact (w := W) (a := ⟨w.heap.size, 3, none⟩) (v := .int .i64 d) (by subst hW; go_simp)
  have hf4 := below_fact (w := W) (a := ⟨w.heap.size, 4, none⟩) (v := .int .i64 f) (by subst hW; go_simp)
  clear hW
  refine wp_region_keep (by kernel_rfl) (by kernel_rfl) ?_
  repeat (first
    | go_big_quiet_skip
    | (go_big_quiet_want
       apply quiet_mk
       · intro w' hw'
         go_simp
         first
           | rfl
           | (go_at_call 31; refine (within_any _ _ _ _).mono ?_; rintro e w'' ⟨rfl, rfl⟩; exact ⟨rfl, hw'⟩)
           | (go_at_call 32; refine (count_any _ _ _ _ _ _ (by omega) (by omega) (by omega)).mono ?_; rintro e w'' ⟨rfl, hb⟩; exact ⟨rfl, below_on hw' hb⟩)
       go_big_quiet_on
       simp only [Act.put, List.setIfInBounds_toArray, List.set_cons_succ, List.set_cons_zero]))
  refine wpQuiet_nil ?_
  intro w' hw'
  go_wp2
  go_ret
  exact ⟨rfl, hB.trans (hw'.mono hB.size)⟩

theorem right_any (m e o d f : Int) (w : World) :
    Calls Try.prog 19 #[.agg #[.int .i64 m, .int .i64 e, .int .i64 o, .int .i64 d, .int .i64 f]] w fun en w' => en = .returned (.bool (right ⟨m, e, o, d, f⟩)) ∧ Below w.heap.size w w' := by
  have hr : right ⟨m, e, o, d, f⟩ = (within m 1 16 && within e 1 m && within o 0 m && within d 0 m && within f 0 m && within (o + d + f) 1 m) := rfl
  rw [hr]; clear hr
  by_cases h1 : within m 1 16 = true
  · by_cases h2 : within e 1 m = true
    · by_cases h3 : within o 0 m = true
      · by_cases h4 : within d 0 m = true
        · by_cases h5 : within f 0 m = true
          · refine (right_full m e o d f w h1 h2 h3 h4 h5).mono ?_
            rintro en w' ⟨rfl, hb⟩
            exact ⟨by rw [h1, h2, h3, h4, h5]; rfl, hb⟩
          · rw [Bool.not_eq_true] at h5
            go_enter Try.func19, Try.ntmps19
            go_wp2_with (go_at_call 31; refine (within_any _ _ _ _).mono ?_; rintro e w' ⟨rfl, rfl⟩)
            refine wp_loop_rounds 4 ?_
            iterate 3 (rw [rounds_succ]; go_wp2_with (go_at_call 31; refine (within_any _ _ _ _).mono ?_; rintro e w' ⟨rfl, rfl⟩))
            go_ret
            exact ⟨by rw [h5]; simp, ((Below.refl _ _).alloc (Nat.le_refl _) _).alloc (by simp) _⟩
        · rw [Bool.not_eq_true] at h4
          go_enter Try.func19, Try.ntmps19
          go_wp2_with (go_at_call 31; refine (within_any _ _ _ _).mono ?_; rintro e w' ⟨rfl, rfl⟩)
          refine wp_loop_rounds 4 ?_
          iterate 2 (rw [rounds_succ]; go_wp2_with (go_at_call 31; refine (within_any _ _ _ _).mono ?_; rintro e w' ⟨rfl, rfl⟩))
          go_ret
          exact ⟨by rw [h4]; simp, ((Below.refl _ _).alloc (Nat.le_refl _) _).alloc (by simp) _⟩
      · rw [Bool.not_eq_true] at h3
        go_enter Try.func19, Try.ntmps19
        go_wp2_with (go_at_call 31; refine (within_any _ _ _ _).mono ?_; rintro e w' ⟨rfl, rfl⟩)
        refine wp_loop_rounds 4 ?_
        iterate 1 (rw [rounds_succ]; go_wp2_with (go_at_call 31; refine (within_any _ _ _ _).mono ?_; rintro e w' ⟨rfl, rfl⟩))
        go_ret
        exact ⟨by rw [h3]; simp, ((Below.refl _ _).alloc (Nat.le_refl _) _).alloc (by simp) _⟩
    · rw [Bool.not_eq_true] at h2
      go_enter Try.func19, Try.ntmps19
      go_wp2_with (go_at_call 31; refine (within_any _ _ _ _).mono ?_; rintro e w' ⟨rfl, rfl⟩)
      go_ret
      exact ⟨by rw [h2]; simp, ((Below.refl _ _).alloc (Nat.le_refl _) _)⟩
  · rw [Bool.not_eq_true] at h1
    go_enter Try.func19, Try.ntmps19
    go_wp2_with (go_at_call 31; refine (within_any _ _ _ _).mono ?_; rintro e w' ⟨rfl, rfl⟩)
    go_ret
    exact ⟨by rw [h1]; simp, ((Below.refl _ _).alloc (Nat.le_refl _) _)⟩
end Go.Proofs.Ytebkibpdagdmiaa

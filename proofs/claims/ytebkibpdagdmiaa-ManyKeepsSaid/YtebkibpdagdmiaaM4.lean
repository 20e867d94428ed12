/-
  Contracts of a step, of Add, Done and Fail: for every batch. No condition.
-/
import Derived.Test.YtebkibpdagdmiaaM3
namespace Go.Proofs.Ytebkibpdagdmiaa
open Go.RowKit
theorem step_any (m e o d f k : Int) (w : World) :
    Calls Try.prog 29 #[.agg #[.int .i64 m, .int .i64 e, .int .i64 o, .int .i64 d, .int .i64 f], .int .i64 k] w (Two (step ⟨m, e, o, d, f⟩ k).1 (step ⟨m, e, o, d, f⟩ k).2 w) := by
  by_cases hr : right ⟨m, e, o, d, f⟩ = true
  · by_cases ho : over ⟨m, e, o, d, f⟩ = true
    · have hs : step ⟨m, e, o, d, f⟩ k = (⟨m, e, o, d, f⟩, 12) := by simp [step, hr, ho]
      rw [hs]; exact step_over m e o d f k w hr ho
    · have ho' : over ⟨m, e, o, d, f⟩ = false := by simpa using ho
      by_cases h0 : k = 0
      · subst h0
        by_cases hm : o + d + f = m
        · have hs : step ⟨m, e, o, d, f⟩ 0 = (⟨m, e, o, d, f⟩, 2) := by simp [step, hr, ho', hm]
          rw [hs]; exact step_full m e o d f w hr ho' (by simpa using hm)
        · have hs : step ⟨m, e, o, d, f⟩ 0 = (⟨m, e, o + 1, d, f⟩, 0) := by simp [step, hr, ho', hm]
          rw [hs]; exact step_add m e o d f w hr ho' (by simpa using hm)
      · by_cases h1 : k = 1
        · subst h1
          have hs : step ⟨m, e, o, d, f⟩ 1 = (⟨m, e, o - 1, d + 1, f⟩, 0) := by simp [step, hr, ho']
          rw [hs]; exact step_done m e o d f w hr ho'
        · by_cases h2 : k = 2
          · subst h2
            have hs : step ⟨m, e, o, d, f⟩ 2 = (⟨m, e, o - 1, d, f + 1⟩, 0) := by simp [step, hr, ho']
            rw [hs]; exact step_fail m e o d f w hr ho'
          · have hs : step ⟨m, e, o, d, f⟩ k = (⟨m, e, o, d, f⟩, 0) := by simp [step, hr, ho', h0, h1, h2]
            rw [hs]; exact step_else m e o d f k w hr ho' (by simpa using h0) (by simpa using h1) (by simpa using h2)
  · have hr' : right ⟨m, e, o, d, f⟩ = false := by simpa using hr
    have hs : step ⟨m, e, o, d, f⟩ k = (⟨m, e, o, d, f⟩, 1) := by simp [step, hr']
    rw [hs]; exact step_bad m e o d f k w hr'

theorem add_any (m e o d f : Int) (w : World) :
    Calls Try.prog 9 #[.agg #[.int .i64 m, .int .i64 e, .int .i64 o, .int .i64 d, .int .i64 f]] w (Two (step ⟨m, e, o, d, f⟩ 0).1 (step ⟨m, e, o, d, f⟩ 0).2 w) := by
  go_enter Try.func9, Try.ntmps9
  go_wp2_with (go_at_call 29; refine (step_any _ _ _ _ _ _ _).mono ?_; rintro en w1 ⟨rfl, hb1⟩; have hz10 : w.heap.size < w1.heap.size := by { have := hb1.size; (try simp at this); omega }; have hz11 : w.heap.size + 1 < w1.heap.size := by { have := hb1.size; (try simp at this); omega }; have p0 : w1.cell? ⟨w.heap.size + 1, 0, none⟩ = some (.int .i64 0) := below_fact (by { go_simp }) _ hb1; have p1 : w1.cell? ⟨w.heap.size + 1, 1, none⟩ = some (.int .i64 0) := below_fact (by { go_simp }) _ hb1; have p2 : w1.cell? ⟨w.heap.size + 1, 2, none⟩ = some (.int .i64 0) := below_fact (by { go_simp }) _ hb1; have p3 : w1.cell? ⟨w.heap.size + 1, 3, none⟩ = some (.int .i64 0) := below_fact (by { go_simp }) _ hb1; have p4 : w1.cell? ⟨w.heap.size + 1, 4, none⟩ = some (.int .i64 0) := below_fact (by { go_simp }) _ hb1; have s1 : ∀ o1, w1.frozen? ⟨w.heap.size + 1, o1, none⟩ = false := below_free (by { intro o1; go_simp }) hb1 (by { simp; try omega }); simp only [B.v])
  refine bodyPost_ret (v := .tuple #[.agg #[.int .i64 (step ⟨m, e, o, d, f⟩ 0).1.m, .int .i64 (step ⟨m, e, o, d, f⟩ 0).1.e, .int .i64 (step ⟨m, e, o, d, f⟩ 0).1.o, .int .i64 (step ⟨m, e, o, d, f⟩ 0).1.d, .int .i64 (step ⟨m, e, o, d, f⟩ 0).1.f], .int .i64 (step ⟨m, e, o, d, f⟩ 0).2]) (by simp [results, Try.results9, go_sem, *]) rfl ⟨rfl, ?_⟩
  repeat (with_reducible refine Below.setCell ?_ (by simp) _)
  exact below_onto (((Below.refl _ _).alloc (Nat.le_refl _) _).alloc (by simp) _) (by simp) hb1

theorem done_any (m e o d f : Int) (w : World) :
    Calls Try.prog 11 #[.agg #[.int .i64 m, .int .i64 e, .int .i64 o, .int .i64 d, .int .i64 f]] w (Two (step ⟨m, e, o, d, f⟩ 1).1 (step ⟨m, e, o, d, f⟩ 1).2 w) := by
  go_enter Try.func11, Try.ntmps11
  go_wp2_with (go_at_call 29; refine (step_any _ _ _ _ _ _ _).mono ?_; rintro en w1 ⟨rfl, hb1⟩; have hz10 : w.heap.size < w1.heap.size := by { have := hb1.size; (try simp at this); omega }; have hz11 : w.heap.size + 1 < w1.heap.size := by { have := hb1.size; (try simp at this); omega }; have p0 : w1.cell? ⟨w.heap.size + 1, 0, none⟩ = some (.int .i64 0) := below_fact (by { go_simp }) _ hb1; have p1 : w1.cell? ⟨w.heap.size + 1, 1, none⟩ = some (.int .i64 0) := below_fact (by { go_simp }) _ hb1; have p2 : w1.cell? ⟨w.heap.size + 1, 2, none⟩ = some (.int .i64 0) := below_fact (by { go_simp }) _ hb1; have p3 : w1.cell? ⟨w.heap.size + 1, 3, none⟩ = some (.int .i64 0) := below_fact (by { go_simp }) _ hb1; have p4 : w1.cell? ⟨w.heap.size + 1, 4, none⟩ = some (.int .i64 0) := below_fact (by { go_simp }) _ hb1; have s1 : ∀ o1, w1.frozen? ⟨w.heap.size + 1, o1, none⟩ = false := below_free (by { intro o1; go_simp }) hb1 (by { simp; try omega }); simp only [B.v])
  refine bodyPost_ret (v := .tuple #[.agg #[.int .i64 (step ⟨m, e, o, d, f⟩ 1).1.m, .int .i64 (step ⟨m, e, o, d, f⟩ 1).1.e, .int .i64 (step ⟨m, e, o, d, f⟩ 1).1.o, .int .i64 (step ⟨m, e, o, d, f⟩ 1).1.d, .int .i64 (step ⟨m, e, o, d, f⟩ 1).1.f], .int .i64 (step ⟨m, e, o, d, f⟩ 1).2]) (by simp [results, Try.results11, go_sem, *]) rfl ⟨rfl, ?_⟩
  repeat (with_reducible refine Below.setCell ?_ (by simp) _)
  exact below_onto (((Below.refl _ _).alloc (Nat.le_refl _) _).alloc (by simp) _) (by simp) hb1

theorem fail_any (m e o d f : Int) (w : World) :
    Calls Try.prog 13 #[.agg #[.int .i64 m, .int .i64 e, .int .i64 o, .int .i64 d, .int .i64 f]] w (Two (step ⟨m, e, o, d, f⟩ 2).1 (step ⟨m, e, o, d, f⟩ 2).2 w) := by
  go_enter Try.func13, Try.ntmps13
  go_wp2_with (go_at_call 29; refine (step_any _ _ _ _ _ _ _).mono ?_; rintro en w1 ⟨rfl, hb1⟩; have hz10 : w.heap.size < w1.heap.size := by { have := hb1.size; (try simp at this); omega }; have hz11 : w.heap.size + 1 < w1.heap.size := by { have := hb1.size; (try simp at this); omega }; have p0 : w1.cell? ⟨w.heap.size + 1, 0, none⟩ = some (.int .i64 0) := below_fact (by { go_simp }) _ hb1; have p1 : w1.cell? ⟨w.heap.size + 1, 1, none⟩ = some (.int .i64 0) := below_fact (by { go_simp }) _ hb1; have p2 : w1.cell? ⟨w.heap.size + 1, 2, none⟩ = some (.int .i64 0) := below_fact (by { go_simp }) _ hb1; have p3 : w1.cell? ⟨w.heap.size + 1, 3, none⟩ = some (.int .i64 0) := below_fact (by { go_simp }) _ hb1; have p4 : w1.cell? ⟨w.heap.size + 1, 4, none⟩ = some (.int .i64 0) := below_fact (by { go_simp }) _ hb1; have s1 : ∀ o1, w1.frozen? ⟨w.heap.size + 1, o1, none⟩ = false := below_free (by { intro o1; go_simp }) hb1 (by { simp; try omega }); simp only [B.v])
  refine bodyPost_ret (v := .tuple #[.agg #[.int .i64 (step ⟨m, e, o, d, f⟩ 2).1.m, .int .i64 (step ⟨m, e, o, d, f⟩ 2).1.e, .int .i64 (step ⟨m, e, o, d, f⟩ 2).1.o, .int .i64 (step ⟨m, e, o, d, f⟩ 2).1.d, .int .i64 (step ⟨m, e, o, d, f⟩ 2).1.f], .int .i64 (step ⟨m, e, o, d, f⟩ 2).2]) (by simp [results, Try.results13, go_sem, *]) rfl ⟨rfl, ?_⟩
  repeat (with_reducible refine Below.setCell ?_ (by simp) _)
  exact below_onto (((Below.refl _ _).alloc (Nat.le_refl _) _).alloc (by simp) _) (by simp) hb1
end Go.Proofs.Ytebkibpdagdmiaa

/-
  Contracts of a step of a batch, case by case.
-/
import Derived.Test.YtebkibpdagdmiaaM2
namespace Go.Proofs.Ytebkibpdagdmiaa
open Go.RowKit
def B.v (b : B) : Value := .agg #[.int .i64 b.m, .int .i64 b.e, .int .i64 b.o, .int .i64 b.d, .int .i64 b.f]
def Two (b : B) (k : Int) (w : World) (en : Ending) (w' : World) : Prop := en = .returned (.tuple #[b.v, .int .i64 k]) ∧ Below w.heap.size w w'
theorem below_on' {w w1 w2 : World} (h : Below w.heap.size w w1) (h2 : Below w1.heap.size w1 w2) : Below w.heap.size w w2 := h.trans (h2.mono h.size)
set_option maxHeartbeats 400000 in
theorem step_bad (m e o d f k : Int) (w : World) (hr : right ⟨m, e, o, d, f⟩ = false) :
    Calls Try.prog 29 #[.agg #[.int .i64 m, .int .i64 e, .int .i64 o, .int .i64 d, .int .i64 f], .int .i64 k] w (Two ⟨m, e, o, d, f⟩ 1 w) := by
  go_enter Try.func29, Try.ntmps29
  go_wp2_with ((go_at_call 19; refine (right_any _ _ _ _ _ _).mono ?_; rintro en w1 ⟨rfl, hb1⟩; have hz10 : w.heap.size < w1.heap.size := by { have := hb1.size; (try simp at this); omega }; have hz11 : w.heap.size + 1 < w1.heap.size := by { have := hb1.size; (try simp at this); omega }; have p100 : w1.cell? ⟨w.heap.size, 0, none⟩ = some (.int .i64 m) := below_fact (by { go_simp }) _ hb1; have p101 : w1.cell? ⟨w.heap.size, 1, none⟩ = some (.int .i64 e) := below_fact (by { go_simp }) _ hb1; have p102 : w1.cell? ⟨w.heap.size, 2, none⟩ = some (.int .i64 o) := below_fact (by { go_simp }) _ hb1; have p103 : w1.cell? ⟨w.heap.size, 3, none⟩ = some (.int .i64 d) := below_fact (by { go_simp }) _ hb1; have p104 : w1.cell? ⟨w.heap.size, 4, none⟩ = some (.int .i64 f) := below_fact (by { go_simp }) _ hb1; have s10 : ∀ o1, w1.frozen? ⟨w.heap.size, o1, none⟩ = false := below_free (by { intro o1; go_simp }) hb1 (by { simp; try omega }); have p110 : w1.cell? ⟨w.heap.size + 1, 0, none⟩ = some (.int .i64 0) := below_fact (by { go_simp }) _ hb1; have p111 : w1.cell? ⟨w.heap.size + 1, 1, none⟩ = some (.int .i64 0) := below_fact (by { go_simp }) _ hb1; have p112 : w1.cell? ⟨w.heap.size + 1, 2, none⟩ = some (.int .i64 0) := below_fact (by { go_simp }) _ hb1; have p113 : w1.cell? ⟨w.heap.size + 1, 3, none⟩ = some (.int .i64 0) := below_fact (by { go_simp }) _ hb1; have p114 : w1.cell? ⟨w.heap.size + 1, 4, none⟩ = some (.int .i64 0) := below_fact (by { go_simp }) _ hb1; have s11 : ∀ o1, w1.frozen? ⟨w.heap.size + 1, o1, none⟩ = false := below_free (by { intro o1; go_simp }) hb1 (by { simp; try omega })))
  refine bodyPost_ret (v := .tuple #[.agg #[.int .i64 (m), .int .i64 (e), .int .i64 (o), .int .i64 (d), .int .i64 (f)], .int .i64 1]) (by simp [results, Try.results29, go_sem, *]) rfl ⟨rfl, ?_⟩
  repeat (with_reducible refine Below.setCell ?_ (by simp) _)
  exact below_onto (((Below.refl _ _).alloc (Nat.le_refl _) _).alloc (by simp) _) (by simp) hb1
set_option maxHeartbeats 400000 in
theorem step_over (m e o d f k : Int) (w : World) (hr : right ⟨m, e, o, d, f⟩ = true) (ho : over ⟨m, e, o, d, f⟩ = true) :
    Calls Try.prog 29 #[.agg #[.int .i64 m, .int .i64 e, .int .i64 o, .int .i64 d, .int .i64 f], .int .i64 k] w (Two ⟨m, e, o, d, f⟩ 12 w) := by
  go_enter Try.func29, Try.ntmps29
  go_wp2_with (first | (go_at_call 19; refine (right_any _ _ _ _ _ _).mono ?_; rintro en w1 ⟨rfl, hb1⟩; have hz10 : w.heap.size < w1.heap.size := by { have := hb1.size; (try simp at this); omega }; have hz11 : w.heap.size + 1 < w1.heap.size := by { have := hb1.size; (try simp at this); omega }; have p100 : w1.cell? ⟨w.heap.size, 0, none⟩ = some (.int .i64 m) := below_fact (by { go_simp }) _ hb1; have p101 : w1.cell? ⟨w.heap.size, 1, none⟩ = some (.int .i64 e) := below_fact (by { go_simp }) _ hb1; have p102 : w1.cell? ⟨w.heap.size, 2, none⟩ = some (.int .i64 o) := below_fact (by { go_simp }) _ hb1; have p103 : w1.cell? ⟨w.heap.size, 3, none⟩ = some (.int .i64 d) := below_fact (by { go_simp }) _ hb1; have p104 : w1.cell? ⟨w.heap.size, 4, none⟩ = some (.int .i64 f) := below_fact (by { go_simp }) _ hb1; have s10 : ∀ o1, w1.frozen? ⟨w.heap.size, o1, none⟩ = false := below_free (by { intro o1; go_simp }) hb1 (by { simp; try omega }); have p110 : w1.cell? ⟨w.heap.size + 1, 0, none⟩ = some (.int .i64 0) := below_fact (by { go_simp }) _ hb1; have p111 : w1.cell? ⟨w.heap.size + 1, 1, none⟩ = some (.int .i64 0) := below_fact (by { go_simp }) _ hb1; have p112 : w1.cell? ⟨w.heap.size + 1, 2, none⟩ = some (.int .i64 0) := below_fact (by { go_simp }) _ hb1; have p113 : w1.cell? ⟨w.heap.size + 1, 3, none⟩ = some (.int .i64 0) := below_fact (by { go_simp }) _ hb1; have p114 : w1.cell? ⟨w.heap.size + 1, 4, none⟩ = some (.int .i64 0) := below_fact (by { go_simp }) _ hb1; have s11 : ∀ o1, w1.frozen? ⟨w.heap.size + 1, o1, none⟩ = false := below_free (by { intro o1; go_simp }) hb1 (by { simp; try omega })) | (go_at_call 21; refine (over_any _ _ _ _ _ _).mono ?_; rintro en w2 ⟨rfl, hb2⟩; have hz20 : w.heap.size < w2.heap.size := by { have := hb2.size; (try simp at this); omega }; have hz21 : w.heap.size + 1 < w2.heap.size := by { have := hb2.size; (try simp at this); omega }; have p200 := below_fact p100 _ hb2; have p201 := below_fact p101 _ hb2; have p202 := below_fact p102 _ hb2; have p203 := below_fact p103 _ hb2; have p204 := below_fact p104 _ hb2; have s20 := below_free s10 hb2 hz10; have p210 := below_fact p110 _ hb2; have p211 := below_fact p111 _ hb2; have p212 := below_fact p112 _ hb2; have p213 := below_fact p113 _ hb2; have p214 := below_fact p114 _ hb2; have s21 := below_free s11 hb2 hz11; clear p100 p101 p102 p103 p104 p110 p111 p112 p113 p114 s10 s11))
  refine bodyPost_ret (v := .tuple #[.agg #[.int .i64 (m), .int .i64 (e), .int .i64 (o), .int .i64 (d), .int .i64 (f)], .int .i64 12]) (by simp [results, Try.results29, go_sem, *]) rfl ⟨rfl, ?_⟩
  repeat (with_reducible refine Below.setCell ?_ (by simp) _)
  exact below_on' (below_onto (((Below.refl _ _).alloc (Nat.le_refl _) _).alloc (by simp) _) (by simp) hb1) hb2
set_option maxHeartbeats 400000 in
theorem step_full (m e o d f : Int) (w : World) (hr : right ⟨m, e, o, d, f⟩ = true) (ho : over ⟨m, e, o, d, f⟩ = false) (hm : (o + d + f == m) = true) :
    Calls Try.prog 29 #[.agg #[.int .i64 m, .int .i64 e, .int .i64 o, .int .i64 d, .int .i64 f], .int .i64 0] w (Two ⟨m, e, o, d, f⟩ 2 w) := by
  have hi := right_iff.1 hr
  simp only [] at hi
  have ho1 : 0 ≤ o ∧ o ≤ 16 := by omega
  have ho2 : 0 ≤ d ∧ d ≤ 16 := by omega
  have ho3 : 0 ≤ f ∧ f ≤ 16 := by omega
  clear hi
  go_enter Try.func29, Try.ntmps29
  go_wp2_with (first | (go_at_call 19; refine (right_any _ _ _ _ _ _).mono ?_; rintro en w1 ⟨rfl, hb1⟩; have hz10 : w.heap.size < w1.heap.size := by { have := hb1.size; (try simp at this); omega }; have hz11 : w.heap.size + 1 < w1.heap.size := by { have := hb1.size; (try simp at this); omega }; have p100 : w1.cell? ⟨w.heap.size, 0, none⟩ = some (.int .i64 m) := below_fact (by { go_simp }) _ hb1; have p101 : w1.cell? ⟨w.heap.size, 1, none⟩ = some (.int .i64 e) := below_fact (by { go_simp }) _ hb1; have p102 : w1.cell? ⟨w.heap.size, 2, none⟩ = some (.int .i64 o) := below_fact (by { go_simp }) _ hb1; have p103 : w1.cell? ⟨w.heap.size, 3, none⟩ = some (.int .i64 d) := below_fact (by { go_simp }) _ hb1; have p104 : w1.cell? ⟨w.heap.size, 4, none⟩ = some (.int .i64 f) := below_fact (by { go_simp }) _ hb1; have s10 : ∀ o1, w1.frozen? ⟨w.heap.size, o1, none⟩ = false := below_free (by { intro o1; go_simp }) hb1 (by { simp; try omega }); have p110 : w1.cell? ⟨w.heap.size + 1, 0, none⟩ = some (.int .i64 0) := below_fact (by { go_simp }) _ hb1; have p111 : w1.cell? ⟨w.heap.size + 1, 1, none⟩ = some (.int .i64 0) := below_fact (by { go_simp }) _ hb1; have p112 : w1.cell? ⟨w.heap.size + 1, 2, none⟩ = some (.int .i64 0) := below_fact (by { go_simp }) _ hb1; have p113 : w1.cell? ⟨w.heap.size + 1, 3, none⟩ = some (.int .i64 0) := below_fact (by { go_simp }) _ hb1; have p114 : w1.cell? ⟨w.heap.size + 1, 4, none⟩ = some (.int .i64 0) := below_fact (by { go_simp }) _ hb1; have s11 : ∀ o1, w1.frozen? ⟨w.heap.size + 1, o1, none⟩ = false := below_free (by { intro o1; go_simp }) hb1 (by { simp; try omega })) | (go_at_call 21; refine (over_any _ _ _ _ _ _).mono ?_; rintro en w2 ⟨rfl, hb2⟩; have hz20 : w.heap.size < w2.heap.size := by { have := hb2.size; (try simp at this); omega }; have hz21 : w.heap.size + 1 < w2.heap.size := by { have := hb2.size; (try simp at this); omega }; have p200 := below_fact p100 _ hb2; have p201 := below_fact p101 _ hb2; have p202 := below_fact p102 _ hb2; have p203 := below_fact p103 _ hb2; have p204 := below_fact p104 _ hb2; have s20 := below_free s10 hb2 hz10; have p210 := below_fact p110 _ hb2; have p211 := below_fact p111 _ hb2; have p212 := below_fact p112 _ hb2; have p213 := below_fact p113 _ hb2; have p214 := below_fact p114 _ hb2; have s21 := below_free s11 hb2 hz11; clear p100 p101 p102 p103 p104 p110 p111 p112 p113 p114 s10 s11))
  have q0 := below_fact p200
  have q1 := below_fact p201
  have q2 := below_fact p202
  have q3 := below_fact p203
  have q4 := below_fact p204
  refine wp_region_keep (by kernel_rfl) (by kernel_rfl) ?_
  repeat (first
    | go_big_quiet_skip
    | (go_big_quiet_want
       apply quiet_mk
       · intro w' hw'
         go_simp
         first
           | rfl
           | (go_at_call 32; refine (count_any _ _ _ _ _ _ (by omega) (by omega) (by omega)).mono ?_; rintro e w'' ⟨rfl, hb⟩; exact ⟨rfl, below_on hw' hb⟩)
       go_big_quiet_on
       simp only [Act.put, List.setIfInBounds_toArray, List.set_cons_succ, List.set_cons_zero]))
  refine wpQuiet_nil ?_
  intro w3 hb3
  have hz30 : w.heap.size < w3.heap.size := by { have := hb3.size; omega }
  have p300 := below_fact p200 _ hb3
  have p301 := below_fact p201 _ hb3
  have p302 := below_fact p202 _ hb3
  have p303 := below_fact p203 _ hb3
  have p304 := below_fact p204 _ hb3
  have s30 := below_free s20 hb3 hz20
  have hz31 : w.heap.size + 1 < w3.heap.size := by { have := hb3.size; omega }
  have p310 := below_fact p210 _ hb3
  have p311 := below_fact p211 _ hb3
  have p312 := below_fact p212 _ hb3
  have p313 := below_fact p213 _ hb3
  have p314 := below_fact p214 _ hb3
  have s31 := below_free s21 hb3 hz21
  clear p200 p201 p202 p203 p204 p210 p211 p212 p213 p214 s20 s21 q0 q1 q2 q3 q4
  go_wp2
  refine bodyPost_ret (v := .tuple #[.agg #[.int .i64 (m), .int .i64 (e), .int .i64 (o), .int .i64 (d), .int .i64 (f)], .int .i64 2]) (by simp [results, Try.results29, go_sem, *]) rfl ⟨rfl, ?_⟩
  repeat (with_reducible refine Below.setCell ?_ (by simp) _)
  exact below_on' (below_on' (below_onto (((Below.refl _ _).alloc (Nat.le_refl _) _).alloc (by simp) _) (by simp) hb1) hb2) hb3
set_option maxHeartbeats 400000 in
theorem step_add (m e o d f : Int) (w : World) (hr : right ⟨m, e, o, d, f⟩ = true) (ho : over ⟨m, e, o, d, f⟩ = false) (hm : (o + d + f == m) = false) :
    Calls Try.prog 29 #[.agg #[.int .i64 m, .int .i64 e, .int .i64 o, .int .i64 d, .int .i64 f], .int .i64 0] w (Two ⟨m, e, o + 1, d, f⟩ 0 w) := by
  have hi := right_iff.1 hr
  simp only [] at hi
  have ho1 : 0 ≤ o ∧ o ≤ 16 := by omega
  have ho2 : 0 ≤ d ∧ d ≤ 16 := by omega
  have ho3 : 0 ≤ f ∧ f ≤ 16 := by omega
  clear hi
  go_enter Try.func29, Try.ntmps29
  go_wp2_with (first | (go_at_call 19; refine (right_any _ _ _ _ _ _).mono ?_; rintro en w1 ⟨rfl, hb1⟩; have hz10 : w.heap.size < w1.heap.size := by { have := hb1.size; (try simp at this); omega }; have hz11 : w.heap.size + 1 < w1.heap.size := by { have := hb1.size; (try simp at this); omega }; have p100 : w1.cell? ⟨w.heap.size, 0, none⟩ = some (.int .i64 m) := below_fact (by { go_simp }) _ hb1; have p101 : w1.cell? ⟨w.heap.size, 1, none⟩ = some (.int .i64 e) := below_fact (by { go_simp }) _ hb1; have p102 : w1.cell? ⟨w.heap.size, 2, none⟩ = some (.int .i64 o) := below_fact (by { go_simp }) _ hb1; have p103 : w1.cell? ⟨w.heap.size, 3, none⟩ = some (.int .i64 d) := below_fact (by { go_simp }) _ hb1; have p104 : w1.cell? ⟨w.heap.size, 4, none⟩ = some (.int .i64 f) := below_fact (by { go_simp }) _ hb1; have s10 : ∀ o1, w1.frozen? ⟨w.heap.size, o1, none⟩ = false := below_free (by { intro o1; go_simp }) hb1 (by { simp; try omega }); have p110 : w1.cell? ⟨w.heap.size + 1, 0, none⟩ = some (.int .i64 0) := below_fact (by { go_simp }) _ hb1; have p111 : w1.cell? ⟨w.heap.size + 1, 1, none⟩ = some (.int .i64 0) := below_fact (by { go_simp }) _ hb1; have p112 : w1.cell? ⟨w.heap.size + 1, 2, none⟩ = some (.int .i64 0) := below_fact (by { go_simp }) _ hb1; have p113 : w1.cell? ⟨w.heap.size + 1, 3, none⟩ = some (.int .i64 0) := below_fact (by { go_simp }) _ hb1; have p114 : w1.cell? ⟨w.heap.size + 1, 4, none⟩ = some (.int .i64 0) := below_fact (by { go_simp }) _ hb1; have s11 : ∀ o1, w1.frozen? ⟨w.heap.size + 1, o1, none⟩ = false := below_free (by { intro o1; go_simp }) hb1 (by { simp; try omega })) | (go_at_call 21; refine (over_any _ _ _ _ _ _).mono ?_; rintro en w2 ⟨rfl, hb2⟩; have hz20 : w.heap.size < w2.heap.size := by { have := hb2.size; (try simp at this); omega }; have hz21 : w.heap.size + 1 < w2.heap.size := by { have := hb2.size; (try simp at this); omega }; have p200 := below_fact p100 _ hb2; have p201 := below_fact p101 _ hb2; have p202 := below_fact p102 _ hb2; have p203 := below_fact p103 _ hb2; have p204 := below_fact p104 _ hb2; have s20 := below_free s10 hb2 hz10; have p210 := below_fact p110 _ hb2; have p211 := below_fact p111 _ hb2; have p212 := below_fact p112 _ hb2; have p213 := below_fact p113 _ hb2; have p214 := below_fact p114 _ hb2; have s21 := below_free s11 hb2 hz11; clear p100 p101 p102 p103 p104 p110 p111 p112 p113 p114 s10 s11))
  have q0 := below_fact p200
  have q1 := below_fact p201
  have q2 := below_fact p202
  have q3 := below_fact p203
  have q4 := below_fact p204
  refine wp_region_keep (by kernel_rfl) (by kernel_rfl) ?_
  repeat (first
    | go_big_quiet_skip
    | (go_big_quiet_want
       apply quiet_mk
       · intro w' hw'
         go_simp
         first
           | rfl
           | (go_at_call 32; refine (count_any _ _ _ _ _ _ (by omega) (by omega) (by omega)).mono ?_; rintro e w'' ⟨rfl, hb⟩; exact ⟨rfl, below_on hw' hb⟩)
       go_big_quiet_on
       simp only [Act.put, List.setIfInBounds_toArray, List.set_cons_succ, List.set_cons_zero]))
  refine wpQuiet_nil ?_
  intro w3 hb3
  have hz30 : w.heap.size < w3.heap.size := by { have := hb3.size; omega }
  have p300 := below_fact p200 _ hb3
  have p301 := below_fact p201 _ hb3
  have p302 := below_fact p202 _ hb3
  have p303 := below_fact p203 _ hb3
  have p304 := below_fact p204 _ hb3
  have s30 := below_free s20 hb3 hz20
  have hz31 : w.heap.size + 1 < w3.heap.size := by { have := hb3.size; omega }
  have p310 := below_fact p210 _ hb3
  have p311 := below_fact p211 _ hb3
  have p312 := below_fact p212 _ hb3
  have p313 := below_fact p213 _ hb3
  have p314 := below_fact p214 _ hb3
  have s31 := below_free s21 hb3 hz21
  clear p200 p201 p202 p203 p204 p210 p211 p212 p213 p214 s20 s21 q0 q1 q2 q3 q4
  go_wp2
  refine bodyPost_ret (v := .tuple #[.agg #[.int .i64 (m), .int .i64 (e), .int .i64 (o + 1), .int .i64 (d), .int .i64 (f)], .int .i64 0]) (by simp [results, Try.results29, go_sem, *]) rfl ⟨rfl, ?_⟩
  repeat (with_reducible refine Below.setCell ?_ (by simp) _)
  exact below_on' (below_on' (below_onto (((Below.refl _ _).alloc (Nat.le_refl _) _).alloc (by simp) _) (by simp) hb1) hb2) hb3
set_option maxHeartbeats 400000 in
theorem step_done (m e o d f : Int) (w : World) (hr : right ⟨m, e, o, d, f⟩ = true) (ho : over ⟨m, e, o, d, f⟩ = false) :
    Calls Try.prog 29 #[.agg #[.int .i64 m, .int .i64 e, .int .i64 o, .int .i64 d, .int .i64 f], .int .i64 1] w (Two ⟨m, e, o - 1, d + 1, f⟩ 0 w) := by
  have hi := right_iff.1 hr
  simp only [] at hi
  have ho1 : 0 ≤ o ∧ o ≤ 16 := by omega
  have ho2 : 0 ≤ d ∧ d ≤ 16 := by omega
  have ho3 : 0 ≤ f ∧ f ≤ 16 := by omega
  clear hi
  go_enter Try.func29, Try.ntmps29
  go_wp2_with (first | (go_at_call 19; refine (right_any _ _ _ _ _ _).mono ?_; rintro en w1 ⟨rfl, hb1⟩; have hz10 : w.heap.size < w1.heap.size := by { have := hb1.size; (try simp at this); omega }; have hz11 : w.heap.size + 1 < w1.heap.size := by { have := hb1.size; (try simp at this); omega }; have p100 : w1.cell? ⟨w.heap.size, 0, none⟩ = some (.int .i64 m) := below_fact (by { go_simp }) _ hb1; have p101 : w1.cell? ⟨w.heap.size, 1, none⟩ = some (.int .i64 e) := below_fact (by { go_simp }) _ hb1; have p102 : w1.cell? ⟨w.heap.size, 2, none⟩ = some (.int .i64 o) := below_fact (by { go_simp }) _ hb1; have p103 : w1.cell? ⟨w.heap.size, 3, none⟩ = some (.int .i64 d) := below_fact (by { go_simp }) _ hb1; have p104 : w1.cell? ⟨w.heap.size, 4, none⟩ = some (.int .i64 f) := below_fact (by { go_simp }) _ hb1; have s10 : ∀ o1, w1.frozen? ⟨w.heap.size, o1, none⟩ = false := below_free (by { intro o1; go_simp }) hb1 (by { simp; try omega }); have p110 : w1.cell? ⟨w.heap.size + 1, 0, none⟩ = some (.int .i64 0) := below_fact (by { go_simp }) _ hb1; have p111 : w1.cell? ⟨w.heap.size + 1, 1, none⟩ = some (.int .i64 0) := below_fact (by { go_simp }) _ hb1; have p112 : w1.cell? ⟨w.heap.size + 1, 2, none⟩ = some (.int .i64 0) := below_fact (by { go_simp }) _ hb1; have p113 : w1.cell? ⟨w.heap.size + 1, 3, none⟩ = some (.int .i64 0) := below_fact (by { go_simp }) _ hb1; have p114 : w1.cell? ⟨w.heap.size + 1, 4, none⟩ = some (.int .i64 0) := below_fact (by { go_simp }) _ hb1; have s11 : ∀ o1, w1.frozen? ⟨w.heap.size + 1, o1, none⟩ = false := below_free (by { intro o1; go_simp }) hb1 (by { simp; try omega })) | (go_at_call 21; refine (over_any _ _ _ _ _ _).mono ?_; rintro en w2 ⟨rfl, hb2⟩; have hz20 : w.heap.size < w2.heap.size := by { have := hb2.size; (try simp at this); omega }; have hz21 : w.heap.size + 1 < w2.heap.size := by { have := hb2.size; (try simp at this); omega }; have p200 := below_fact p100 _ hb2; have p201 := below_fact p101 _ hb2; have p202 := below_fact p102 _ hb2; have p203 := below_fact p103 _ hb2; have p204 := below_fact p104 _ hb2; have s20 := below_free s10 hb2 hz10; have p210 := below_fact p110 _ hb2; have p211 := below_fact p111 _ hb2; have p212 := below_fact p112 _ hb2; have p213 := below_fact p113 _ hb2; have p214 := below_fact p114 _ hb2; have s21 := below_free s11 hb2 hz11; clear p100 p101 p102 p103 p104 p110 p111 p112 p113 p114 s10 s11))
  refine bodyPost_ret (v := .tuple #[.agg #[.int .i64 (m), .int .i64 (e), .int .i64 (o - 1), .int .i64 (d + 1), .int .i64 (f)], .int .i64 0]) (by simp [results, Try.results29, go_sem, *]) rfl ⟨rfl, ?_⟩
  repeat (with_reducible refine Below.setCell ?_ (by simp) _)
  exact below_on' (below_onto (((Below.refl _ _).alloc (Nat.le_refl _) _).alloc (by simp) _) (by simp) hb1) hb2
set_option maxHeartbeats 400000 in
theorem step_fail (m e o d f : Int) (w : World) (hr : right ⟨m, e, o, d, f⟩ = true) (ho : over ⟨m, e, o, d, f⟩ = false) :
    Calls Try.prog 29 #[.agg #[.int .i64 m, .int .i64 e, .int .i64 o, .int .i64 d, .int .i64 f], .int .i64 2] w (Two ⟨m, e, o - 1, d, f + 1⟩ 0 w) := by
  have hi := right_iff.1 hr
  simp only [] at hi
  have ho1 : 0 ≤ o ∧ o ≤ 16 := by omega
  have ho2 : 0 ≤ d ∧ d ≤ 16 := by omega
  have ho3 : 0 ≤ f ∧ f ≤ 16 := by omega
  clear hi
  go_enter Try.func29, Try.ntmps29
  go_wp2_with (first | (go_at_call 19; refine (right_any _ _ _ _ _ _).mono ?_; rintro en w1 ⟨rfl, hb1⟩; have hz10 : w.heap.size < w1.heap.size := by { have := hb1.size; (try simp at this); omega }; have hz11 : w.heap.size + 1 < w1.heap.size := by { have := hb1.size; (try simp at this); omega }; have p100 : w1.cell? ⟨w.heap.size, 0, none⟩ = some (.int .i64 m) := below_fact (by { go_simp }) _ hb1; have p101 : w1.cell? ⟨w.heap.size, 1, none⟩ = some (.int .i64 e) := below_fact (by { go_simp }) _ hb1; have p102 : w1.cell? ⟨w.heap.size, 2, none⟩ = some (.int .i64 o) := below_fact (by { go_simp }) _ hb1; have p103 : w1.cell? ⟨w.heap.size, 3, none⟩ = some (.int .i64 d) := below_fact (by { go_simp }) _ hb1; have p104 : w1.cell? ⟨w.heap.size, 4, none⟩ = some (.int .i64 f) := below_fact (by { go_simp }) _ hb1; have s10 : ∀ o1, w1.frozen? ⟨w.heap.size, o1, none⟩ = false := below_free (by { intro o1; go_simp }) hb1 (by { simp; try omega }); have p110 : w1.cell? ⟨w.heap.size + 1, 0, none⟩ = some (.int .i64 0) := below_fact (by { go_simp }) _ hb1; have p111 : w1.cell? ⟨w.heap.size + 1, 1, none⟩ = some (.int .i64 0) := below_fact (by { go_simp }) _ hb1; have p112 : w1.cell? ⟨w.heap.size + 1, 2, none⟩ = some (.int .i64 0) := below_fact (by { go_simp }) _ hb1; have p113 : w1.cell? ⟨w.heap.size + 1, 3, none⟩ = some (.int .i64 0) := below_fact (by { go_simp }) _ hb1; have p114 : w1.cell? ⟨w.heap.size + 1, 4, none⟩ = some (.int .i64 0) := below_fact (by { go_simp }) _ hb1; have s11 : ∀ o1, w1.frozen? ⟨w.heap.size + 1, o1, none⟩ = false := below_free (by { intro o1; go_simp }) hb1 (by { simp; try omega })) | (go_at_call 21; refine (over_any _ _ _ _ _ _).mono ?_; rintro en w2 ⟨rfl, hb2⟩; have hz20 : w.heap.size < w2.heap.size := by { have := hb2.size; (try simp at this); omega }; have hz21 : w.heap.size + 1 < w2.heap.size := by { have := hb2.size; (try simp at this); omega }; have p200 := below_fact p100 _ hb2; have p201 := below_fact p101 _ hb2; have p202 := below_fact p102 _ hb2; have p203 := below_fact p103 _ hb2; have p204 := below_fact p104 _ hb2; have s20 := below_free s10 hb2 hz10; have p210 := below_fact p110 _ hb2; have p211 := below_fact p111 _ hb2; have p212 := below_fact p112 _ hb2; have p213 := below_fact p113 _ hb2; have p214 := below_fact p114 _ hb2; have s21 := below_free s11 hb2 hz11; clear p100 p101 p102 p103 p104 p110 p111 p112 p113 p114 s10 s11))
  refine bodyPost_ret (v := .tuple #[.agg #[.int .i64 (m), .int .i64 (e), .int .i64 (o - 1), .int .i64 (d), .int .i64 (f + 1)], .int .i64 0]) (by simp [results, Try.results29, go_sem, *]) rfl ⟨rfl, ?_⟩
  repeat (with_reducible refine Below.setCell ?_ (by simp) _)
  exact below_on' (below_onto (((Below.refl _ _).alloc (Nat.le_refl _) _).alloc (by simp) _) (by simp) hb1) hb2
set_option maxHeartbeats 400000 in
theorem step_else (m e o d f k : Int) (w : World) (hr : right ⟨m, e, o, d, f⟩ = true) (ho : over ⟨m, e, o, d, f⟩ = false) (hk0 : (k == 0) = false) (hk1 : (k == 1) = false) (hk2 : (k == 2) = false) :
    Calls Try.prog 29 #[.agg #[.int .i64 m, .int .i64 e, .int .i64 o, .int .i64 d, .int .i64 f], .int .i64 k] w (Two ⟨m, e, o, d, f⟩ 0 w) := by
  have hi := right_iff.1 hr
  simp only [] at hi
  have ho1 : 0 ≤ o ∧ o ≤ 16 := by omega
  have ho2 : 0 ≤ d ∧ d ≤ 16 := by omega
  have ho3 : 0 ≤ f ∧ f ≤ 16 := by omega
  clear hi
  go_enter Try.func29, Try.ntmps29
  go_wp2_with (first | (go_at_call 19; refine (right_any _ _ _ _ _ _).mono ?_; rintro en w1 ⟨rfl, hb1⟩; have hz10 : w.heap.size < w1.heap.size := by { have := hb1.size; (try simp at this); omega }; have hz11 : w.heap.size + 1 < w1.heap.size := by { have := hb1.size; (try simp at this); omega }; have p100 : w1.cell? ⟨w.heap.size, 0, none⟩ = some (.int .i64 m) := below_fact (by { go_simp }) _ hb1; have p101 : w1.cell? ⟨w.heap.size, 1, none⟩ = some (.int .i64 e) := below_fact (by { go_simp }) _ hb1; have p102 : w1.cell? ⟨w.heap.size, 2, none⟩ = some (.int .i64 o) := below_fact (by { go_simp }) _ hb1; have p103 : w1.cell? ⟨w.heap.size, 3, none⟩ = some (.int .i64 d) := below_fact (by { go_simp }) _ hb1; have p104 : w1.cell? ⟨w.heap.size, 4, none⟩ = some (.int .i64 f) := below_fact (by { go_simp }) _ hb1; have s10 : ∀ o1, w1.frozen? ⟨w.heap.size, o1, none⟩ = false := below_free (by { intro o1; go_simp }) hb1 (by { simp; try omega }); have p110 : w1.cell? ⟨w.heap.size + 1, 0, none⟩ = some (.int .i64 0) := below_fact (by { go_simp }) _ hb1; have p111 : w1.cell? ⟨w.heap.size + 1, 1, none⟩ = some (.int .i64 0) := below_fact (by { go_simp }) _ hb1; have p112 : w1.cell? ⟨w.heap.size + 1, 2, none⟩ = some (.int .i64 0) := below_fact (by { go_simp }) _ hb1; have p113 : w1.cell? ⟨w.heap.size + 1, 3, none⟩ = some (.int .i64 0) := below_fact (by { go_simp }) _ hb1; have p114 : w1.cell? ⟨w.heap.size + 1, 4, none⟩ = some (.int .i64 0) := below_fact (by { go_simp }) _ hb1; have s11 : ∀ o1, w1.frozen? ⟨w.heap.size + 1, o1, none⟩ = false := below_free (by { intro o1; go_simp }) hb1 (by { simp; try omega })) | (go_at_call 21; refine (over_any _ _ _ _ _ _).mono ?_; rintro en w2 ⟨rfl, hb2⟩; have hz20 : w.heap.size < w2.heap.size := by { have := hb2.size; (try simp at this); omega }; have hz21 : w.heap.size + 1 < w2.heap.size := by { have := hb2.size; (try simp at this); omega }; have p200 := below_fact p100 _ hb2; have p201 := below_fact p101 _ hb2; have p202 := below_fact p102 _ hb2; have p203 := below_fact p103 _ hb2; have p204 := below_fact p104 _ hb2; have s20 := below_free s10 hb2 hz10; have p210 := below_fact p110 _ hb2; have p211 := below_fact p111 _ hb2; have p212 := below_fact p112 _ hb2; have p213 := below_fact p113 _ hb2; have p214 := below_fact p114 _ hb2; have s21 := below_free s11 hb2 hz11; clear p100 p101 p102 p103 p104 p110 p111 p112 p113 p114 s10 s11))
  refine bodyPost_ret (v := .tuple #[.agg #[.int .i64 (m), .int .i64 (e), .int .i64 (o), .int .i64 (d), .int .i64 (f)], .int .i64 0]) (by simp [results, Try.results29, go_sem, *]) rfl ⟨rfl, ?_⟩
  repeat (with_reducible refine Below.setCell ?_ (by simp) _)
  exact below_on' (below_onto (((Below.refl _ _).alloc (Nat.le_refl _) _).alloc (by simp) _) (by simp) hb1) hb2
end Go.Proofs.Ytebkibpdagdmiaa

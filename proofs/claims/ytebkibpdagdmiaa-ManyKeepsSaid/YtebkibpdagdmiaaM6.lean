/-
  Contracts of Start, of the program and of the reference: for every input. No condition.
-/
import Derived.Test.YtebkibpdagdmiaaM5
import Derived.ChangeKeysEq
namespace Go.Proofs.Ytebkibpdagdmiaa
open Go.RowKit
theorem info3 : ∃ i, Try.prog.info? 3 = some i := by
  cases h : Try.prog.info? 3 with
  | some i => exact ⟨i, rfl⟩
  | none => exact absurd (show (Try.prog.info? 3).isSome = true from by kernel_rfl) (by rw [h]; simp)
theorem eq3 (a b : Int) (w : World) : (Op.equalIn 9999 3 (.int .i64 a) (.int .i64 b)).run Try.prog w = .ok (a == b) w :=
  run_equalIn_int w 9998 3 .i64 .i64 a b (by kernel_rfl)
@[go_sem ↓] theorem run_eq3 (x y z a b c : Int) (w : World) : (Op.equalIn 10000 24 (.agg #[.int .i64 x, .int .i64 y, .int .i64 z]) (.agg #[.int .i64 a, .int .i64 b, .int .i64 c])).run Try.prog w = .ok (x == a && (y == b && z == c)) w := by
  obtain ⟨i, hi⟩ := info3
  rw [run_equalIn_array (n := 3) (e := 3) (i := i) w 9999 _ _ (by kernel_rfl) hi]
  have hc : Try.prog.cellsOf 3 = 1 := by kernel_rfl
  simp [Op.eqItems, hc, List.range_succ, part, eq3]
  by_cases h1 : (x == a) = true
  · by_cases h2 : (y == b) = true
    · by_cases h3 : (z == c) = true
      · simp_all
      · simp_all
    · simp_all
  · simp_all
theorem below_drewN {B : Nat} {a w : World} (h : Below B a w) (n : Nat) : Below B a (w.drewN n) := h.trans ⟨by simp [World.drewN], by simp [World.drewN], by simp [World.drewN], by simp [World.drewN], fun _ _ => by simp [World.drewN]⟩

set_option maxHeartbeats 400000 in
theorem start_c1 (x y z n : Int) (w : World) (h0 : (x == 0 && (y == 0 && z == 0)) = false) (h1 : x < 1) :
    Calls Try.prog 17 #[.agg #[.int .i64 x, .int .i64 y, .int .i64 z], .int .i64 n] w (Two ⟨0, 0, 0, 0, 0⟩ 1 w) := by
  go_enter Try.func17, Try.ntmps17
  go_wp2_with (go_at_call 31; refine (within_any _ _ _ _).mono ?_; rintro e w' ⟨rfl, rfl⟩)
  go_quiet (fail)
  go_wp2_with (go_at_call 31; refine (within_any _ _ _ _).mono ?_; rintro e w' ⟨rfl, rfl⟩)
  refine bodyPost_ret (v := .tuple #[.agg #[.int .i64 (0), .int .i64 (0), .int .i64 (0), .int .i64 (0), .int .i64 (0)], .int .i64 1]) (by simp [results, Try.results17, go_sem, *]) rfl ⟨rfl, ?_⟩
  repeat (first | with_reducible refine Below.setCell ?_ (by simp) _ | with_reducible refine below_drewN ?_ _)
  exact ((Below.refl _ _).alloc (Nat.le_refl _) _).alloc (by simp) _

set_option maxHeartbeats 400000 in
theorem start_c2 (x y z n : Int) (w : World) (h0 : (x == 0 && (y == 0 && z == 0)) = false) (h1 : 1 ≤ x) (h2 : within y x 16 = false) :
    Calls Try.prog 17 #[.agg #[.int .i64 x, .int .i64 y, .int .i64 z], .int .i64 n] w (Two ⟨0, 0, 0, 0, 0⟩ 1 w) := by
  go_enter Try.func17, Try.ntmps17
  go_wp2_with (go_at_call 31; refine (within_any _ _ _ _).mono ?_; rintro e w' ⟨rfl, rfl⟩)
  go_quiet (fail)
  go_wp2_with (go_at_call 31; refine (within_any _ _ _ _).mono ?_; rintro e w' ⟨rfl, rfl⟩)
  refine bodyPost_ret (v := .tuple #[.agg #[.int .i64 (0), .int .i64 (0), .int .i64 (0), .int .i64 (0), .int .i64 (0)], .int .i64 1]) (by simp [results, Try.results17, go_sem, *]) rfl ⟨rfl, ?_⟩
  repeat (first | with_reducible refine Below.setCell ?_ (by simp) _ | with_reducible refine below_drewN ?_ _)
  exact ((Below.refl _ _).alloc (Nat.le_refl _) _).alloc (by simp) _

set_option maxHeartbeats 400000 in
theorem start_c3 (x y z n : Int) (w : World) (h0 : (x == 0 && (y == 0 && z == 0)) = false) (h1 : 1 ≤ x) (h2 : within y x 16 = true) (h3 : within z 1 y = false) :
    Calls Try.prog 17 #[.agg #[.int .i64 x, .int .i64 y, .int .i64 z], .int .i64 n] w (Two ⟨0, 0, 0, 0, 0⟩ 1 w) := by
  go_enter Try.func17, Try.ntmps17
  go_wp2_with (go_at_call 31; refine (within_any _ _ _ _).mono ?_; rintro e w' ⟨rfl, rfl⟩)
  go_quiet (fail)
  go_wp2_with (go_at_call 31; refine (within_any _ _ _ _).mono ?_; rintro e w' ⟨rfl, rfl⟩)
  refine bodyPost_ret (v := .tuple #[.agg #[.int .i64 (0), .int .i64 (0), .int .i64 (0), .int .i64 (0), .int .i64 (0)], .int .i64 1]) (by simp [results, Try.results17, go_sem, *]) rfl ⟨rfl, ?_⟩
  repeat (first | with_reducible refine Below.setCell ?_ (by simp) _ | with_reducible refine below_drewN ?_ _)
  exact ((Below.refl _ _).alloc (Nat.le_refl _) _).alloc (by simp) _

set_option maxHeartbeats 400000 in
theorem start_c4 (x y z n : Int) (w : World) (h0 : (x == 0 && (y == 0 && z == 0)) = false) (h1 : 1 ≤ x) (h2 : within y x 16 = true) (h3 : within z 1 y = true) (h4 : within n x y = false) :
    Calls Try.prog 17 #[.agg #[.int .i64 x, .int .i64 y, .int .i64 z], .int .i64 n] w (Two ⟨0, 0, 0, 0, 0⟩ 1 w) := by
  go_enter Try.func17, Try.ntmps17
  go_wp2_with (go_at_call 31; refine (within_any _ _ _ _).mono ?_; rintro e w' ⟨rfl, rfl⟩)
  go_quiet (fail)
  go_wp2_with (go_at_call 31; refine (within_any _ _ _ _).mono ?_; rintro e w' ⟨rfl, rfl⟩)
  refine bodyPost_ret (v := .tuple #[.agg #[.int .i64 (0), .int .i64 (0), .int .i64 (0), .int .i64 (0), .int .i64 (0)], .int .i64 1]) (by simp [results, Try.results17, go_sem, *]) rfl ⟨rfl, ?_⟩
  repeat (first | with_reducible refine Below.setCell ?_ (by simp) _ | with_reducible refine below_drewN ?_ _)
  exact ((Below.refl _ _).alloc (Nat.le_refl _) _).alloc (by simp) _

set_option maxHeartbeats 400000 in
theorem start_ok (x y z n : Int) (w : World) (h0 : (x == 0 && (y == 0 && z == 0)) = false) (h1 : 1 ≤ x) (h2 : within y x 16 = true) (h3 : within z 1 y = true) (h4 : within n x y = true) :
    Calls Try.prog 17 #[.agg #[.int .i64 x, .int .i64 y, .int .i64 z], .int .i64 n] w (Two ⟨y, z, n, 0, 0⟩ 0 w) := by
  go_enter Try.func17, Try.ntmps17
  go_wp2_with (go_at_call 31; refine (within_any _ _ _ _).mono ?_; rintro e w' ⟨rfl, rfl⟩)
  go_quiet (fail)
  go_wp2_with (go_at_call 31; refine (within_any _ _ _ _).mono ?_; rintro e w' ⟨rfl, rfl⟩)
  refine bodyPost_ret (v := .tuple #[.agg #[.int .i64 (y), .int .i64 (z), .int .i64 (n), .int .i64 (0), .int .i64 (0)], .int .i64 0]) (by simp [results, Try.results17, go_sem, *]) rfl ⟨rfl, ?_⟩
  repeat (first | with_reducible refine Below.setCell ?_ (by simp) _ | with_reducible refine below_drewN ?_ _)
  exact ((Below.refl _ _).alloc (Nat.le_refl _) _).alloc (by simp) _

set_option maxHeartbeats 400000 in
theorem start_z4 (n : Int) (w : World) (h4 : within n 1 1 = false) :
    Calls Try.prog 17 #[.agg #[.int .i64 0, .int .i64 0, .int .i64 0], .int .i64 n] w (Two ⟨0, 0, 0, 0, 0⟩ 1 w) := by
  have e1 : within 1 1 16 = true := by decide
  have e2 : within 1 1 1 = true := by decide
  go_enter Try.func17, Try.ntmps17
  go_wp2_with (go_at_call 31; refine (within_any _ _ _ _).mono ?_; rintro e w' ⟨rfl, rfl⟩)
  go_quiet (fail)
  go_wp2_with (go_at_call 31; refine (within_any _ _ _ _).mono ?_; rintro e w' ⟨rfl, rfl⟩)
  refine bodyPost_ret (v := .tuple #[.agg #[.int .i64 (0), .int .i64 (0), .int .i64 (0), .int .i64 (0), .int .i64 (0)], .int .i64 1]) (by simp [results, Try.results17, go_sem, *]) rfl ⟨rfl, ?_⟩
  repeat (first | with_reducible refine Below.setCell ?_ (by simp) _ | with_reducible refine below_drewN ?_ _)
  exact ((Below.refl _ _).alloc (Nat.le_refl _) _).alloc (by simp) _

set_option maxHeartbeats 400000 in
theorem start_zk (n : Int) (w : World) (h4 : within n 1 1 = true) :
    Calls Try.prog 17 #[.agg #[.int .i64 0, .int .i64 0, .int .i64 0], .int .i64 n] w (Two ⟨1, 1, n, 0, 0⟩ 0 w) := by
  have e1 : within 1 1 16 = true := by decide
  have e2 : within 1 1 1 = true := by decide
  go_enter Try.func17, Try.ntmps17
  go_wp2_with (go_at_call 31; refine (within_any _ _ _ _).mono ?_; rintro e w' ⟨rfl, rfl⟩)
  go_quiet (fail)
  go_wp2_with (go_at_call 31; refine (within_any _ _ _ _).mono ?_; rintro e w' ⟨rfl, rfl⟩)
  refine bodyPost_ret (v := .tuple #[.agg #[.int .i64 (1), .int .i64 (1), .int .i64 (n), .int .i64 (0), .int .i64 (0)], .int .i64 0]) (by simp [results, Try.results17, go_sem, *]) rfl ⟨rfl, ?_⟩
  repeat (first | with_reducible refine Below.setCell ?_ (by simp) _ | with_reducible refine below_drewN ?_ _)
  exact ((Below.refl _ _).alloc (Nat.le_refl _) _).alloc (by simp) _

set_option maxHeartbeats 400000 in
theorem rstart_c1 (x y z n : Int) (w : World) (h0 : (x == 0 && (y == 0 && z == 0)) = false) (h1 : x < 1) :
    Calls Try.prog 18 #[.agg #[.int .i64 x, .int .i64 y, .int .i64 z], .int .i64 n] w (Two ⟨0, 0, 0, 0, 0⟩ 1 w) := by
  go_enter Try.func18, Try.ntmps18
  go_wp2
  refine bodyPost_ret (v := .tuple #[.agg #[.int .i64 (0), .int .i64 (0), .int .i64 (0), .int .i64 (0), .int .i64 (0)], .int .i64 1]) (by simp [results, Try.results18, go_sem, *]) rfl ⟨rfl, ?_⟩
  repeat (first | with_reducible refine Below.setCell ?_ (by simp) _ | with_reducible refine below_drewN ?_ _)
  exact ((Below.refl _ _).alloc (Nat.le_refl _) _).alloc (by simp) _

set_option maxHeartbeats 400000 in
theorem rstart_c2 (x y z n : Int) (w : World) (h0 : (x == 0 && (y == 0 && z == 0)) = false) (h1 : 1 ≤ x) (c : y < x) :
    Calls Try.prog 18 #[.agg #[.int .i64 x, .int .i64 y, .int .i64 z], .int .i64 n] w (Two ⟨0, 0, 0, 0, 0⟩ 1 w) := by
  go_enter Try.func18, Try.ntmps18
  go_wp2
  refine bodyPost_ret (v := .tuple #[.agg #[.int .i64 (0), .int .i64 (0), .int .i64 (0), .int .i64 (0), .int .i64 (0)], .int .i64 1]) (by simp [results, Try.results18, go_sem, *]) rfl ⟨rfl, ?_⟩
  repeat (first | with_reducible refine Below.setCell ?_ (by simp) _ | with_reducible refine below_drewN ?_ _)
  exact ((Below.refl _ _).alloc (Nat.le_refl _) _).alloc (by simp) _

set_option maxHeartbeats 400000 in
theorem rstart_c3 (x y z n : Int) (w : World) (h0 : (x == 0 && (y == 0 && z == 0)) = false) (h1 : 1 ≤ x) (h2 : x ≤ y) (c : 16 < y) :
    Calls Try.prog 18 #[.agg #[.int .i64 x, .int .i64 y, .int .i64 z], .int .i64 n] w (Two ⟨0, 0, 0, 0, 0⟩ 1 w) := by
  go_enter Try.func18, Try.ntmps18
  go_wp2
  refine bodyPost_ret (v := .tuple #[.agg #[.int .i64 (0), .int .i64 (0), .int .i64 (0), .int .i64 (0), .int .i64 (0)], .int .i64 1]) (by simp [results, Try.results18, go_sem, *]) rfl ⟨rfl, ?_⟩
  repeat (first | with_reducible refine Below.setCell ?_ (by simp) _ | with_reducible refine below_drewN ?_ _)
  exact ((Below.refl _ _).alloc (Nat.le_refl _) _).alloc (by simp) _

set_option maxHeartbeats 400000 in
theorem rstart_c4 (x y z n : Int) (w : World) (h0 : (x == 0 && (y == 0 && z == 0)) = false) (h1 : 1 ≤ x) (h2 : x ≤ y) (h3 : y ≤ 16) (c : z < 1) :
    Calls Try.prog 18 #[.agg #[.int .i64 x, .int .i64 y, .int .i64 z], .int .i64 n] w (Two ⟨0, 0, 0, 0, 0⟩ 1 w) := by
  go_enter Try.func18, Try.ntmps18
  go_wp2
  refine bodyPost_ret (v := .tuple #[.agg #[.int .i64 (0), .int .i64 (0), .int .i64 (0), .int .i64 (0), .int .i64 (0)], .int .i64 1]) (by simp [results, Try.results18, go_sem, *]) rfl ⟨rfl, ?_⟩
  repeat (first | with_reducible refine Below.setCell ?_ (by simp) _ | with_reducible refine below_drewN ?_ _)
  exact ((Below.refl _ _).alloc (Nat.le_refl _) _).alloc (by simp) _

set_option maxHeartbeats 400000 in
theorem rstart_c5 (x y z n : Int) (w : World) (h0 : (x == 0 && (y == 0 && z == 0)) = false) (h1 : 1 ≤ x) (h2 : x ≤ y) (h3 : y ≤ 16) (h4 : 1 ≤ z) (c : y < z) :
    Calls Try.prog 18 #[.agg #[.int .i64 x, .int .i64 y, .int .i64 z], .int .i64 n] w (Two ⟨0, 0, 0, 0, 0⟩ 1 w) := by
  go_enter Try.func18, Try.ntmps18
  go_wp2
  refine bodyPost_ret (v := .tuple #[.agg #[.int .i64 (0), .int .i64 (0), .int .i64 (0), .int .i64 (0), .int .i64 (0)], .int .i64 1]) (by simp [results, Try.results18, go_sem, *]) rfl ⟨rfl, ?_⟩
  repeat (first | with_reducible refine Below.setCell ?_ (by simp) _ | with_reducible refine below_drewN ?_ _)
  exact ((Below.refl _ _).alloc (Nat.le_refl _) _).alloc (by simp) _

set_option maxHeartbeats 400000 in
theorem rstart_c6 (x y z n : Int) (w : World) (h0 : (x == 0 && (y == 0 && z == 0)) = false) (h1 : 1 ≤ x) (h2 : x ≤ y) (h3 : y ≤ 16) (h4 : 1 ≤ z) (h5 : z ≤ y) (c : n < x) :
    Calls Try.prog 18 #[.agg #[.int .i64 x, .int .i64 y, .int .i64 z], .int .i64 n] w (Two ⟨0, 0, 0, 0, 0⟩ 1 w) := by
  go_enter Try.func18, Try.ntmps18
  go_wp2
  refine bodyPost_ret (v := .tuple #[.agg #[.int .i64 (0), .int .i64 (0), .int .i64 (0), .int .i64 (0), .int .i64 (0)], .int .i64 1]) (by simp [results, Try.results18, go_sem, *]) rfl ⟨rfl, ?_⟩
  repeat (first | with_reducible refine Below.setCell ?_ (by simp) _ | with_reducible refine below_drewN ?_ _)
  exact ((Below.refl _ _).alloc (Nat.le_refl _) _).alloc (by simp) _

set_option maxHeartbeats 400000 in
theorem rstart_c7 (x y z n : Int) (w : World) (h0 : (x == 0 && (y == 0 && z == 0)) = false) (h1 : 1 ≤ x) (h2 : x ≤ y) (h3 : y ≤ 16) (h4 : 1 ≤ z) (h5 : z ≤ y) (h6 : x ≤ n) (c : y < n) :
    Calls Try.prog 18 #[.agg #[.int .i64 x, .int .i64 y, .int .i64 z], .int .i64 n] w (Two ⟨0, 0, 0, 0, 0⟩ 1 w) := by
  go_enter Try.func18, Try.ntmps18
  go_wp2
  refine bodyPost_ret (v := .tuple #[.agg #[.int .i64 (0), .int .i64 (0), .int .i64 (0), .int .i64 (0), .int .i64 (0)], .int .i64 1]) (by simp [results, Try.results18, go_sem, *]) rfl ⟨rfl, ?_⟩
  repeat (first | with_reducible refine Below.setCell ?_ (by simp) _ | with_reducible refine below_drewN ?_ _)
  exact ((Below.refl _ _).alloc (Nat.le_refl _) _).alloc (by simp) _

set_option maxHeartbeats 400000 in
theorem rstart_ok (x y z n : Int) (w : World) (h0 : (x == 0 && (y == 0 && z == 0)) = false) (h1 : 1 ≤ x) (h2 : x ≤ y) (h3 : y ≤ 16) (h4 : 1 ≤ z) (h5 : z ≤ y) (h6 : x ≤ n) (h7 : n ≤ y) :
    Calls Try.prog 18 #[.agg #[.int .i64 x, .int .i64 y, .int .i64 z], .int .i64 n] w (Two ⟨y, z, n, 0, 0⟩ 0 w) := by
  go_enter Try.func18, Try.ntmps18
  go_wp2
  refine bodyPost_ret (v := .tuple #[.agg #[.int .i64 (y), .int .i64 (z), .int .i64 (n), .int .i64 (0), .int .i64 (0)], .int .i64 0]) (by simp [results, Try.results18, go_sem, *]) rfl ⟨rfl, ?_⟩
  repeat (first | with_reducible refine Below.setCell ?_ (by simp) _ | with_reducible refine below_drewN ?_ _)
  exact ((Below.refl _ _).alloc (Nat.le_refl _) _).alloc (by simp) _

set_option maxHeartbeats 400000 in
theorem rstart_z5 (n : Int) (w : World) (h4 : n < 1) :
    Calls Try.prog 18 #[.agg #[.int .i64 0, .int .i64 0, .int .i64 0], .int .i64 n] w (Two ⟨0, 0, 0, 0, 0⟩ 1 w) := by
  go_enter Try.func18, Try.ntmps18
  go_wp2
  refine bodyPost_ret (v := .tuple #[.agg #[.int .i64 (0), .int .i64 (0), .int .i64 (0), .int .i64 (0), .int .i64 (0)], .int .i64 1]) (by simp [results, Try.results18, go_sem, *]) rfl ⟨rfl, ?_⟩
  repeat (first | with_reducible refine Below.setCell ?_ (by simp) _ | with_reducible refine below_drewN ?_ _)
  exact ((Below.refl _ _).alloc (Nat.le_refl _) _).alloc (by simp) _

set_option maxHeartbeats 400000 in
theorem rstart_z6 (n : Int) (w : World) (h4 : 1 < n) :
    Calls Try.prog 18 #[.agg #[.int .i64 0, .int .i64 0, .int .i64 0], .int .i64 n] w (Two ⟨0, 0, 0, 0, 0⟩ 1 w) := by
  go_enter Try.func18, Try.ntmps18
  go_wp2
  refine bodyPost_ret (v := .tuple #[.agg #[.int .i64 (0), .int .i64 (0), .int .i64 (0), .int .i64 (0), .int .i64 (0)], .int .i64 1]) (by simp [results, Try.results18, go_sem, *]) rfl ⟨rfl, ?_⟩
  repeat (first | with_reducible refine Below.setCell ?_ (by simp) _ | with_reducible refine below_drewN ?_ _)
  exact ((Below.refl _ _).alloc (Nat.le_refl _) _).alloc (by simp) _

set_option maxHeartbeats 400000 in
theorem rstart_zk (n : Int) (w : World) (h4 : 1 ≤ n) (h5 : n ≤ 1) :
    Calls Try.prog 18 #[.agg #[.int .i64 0, .int .i64 0, .int .i64 0], .int .i64 n] w (Two ⟨1, 1, n, 0, 0⟩ 0 w) := by
  go_enter Try.func18, Try.ntmps18
  go_wp2
  refine bodyPost_ret (v := .tuple #[.agg #[.int .i64 (1), .int .i64 (1), .int .i64 (n), .int .i64 (0), .int .i64 (0)], .int .i64 0]) (by simp [results, Try.results18, go_sem, *]) rfl ⟨rfl, ?_⟩
  repeat (first | with_reducible refine Below.setCell ?_ (by simp) _ | with_reducible refine below_drewN ?_ _)
  exact ((Below.refl _ _).alloc (Nat.le_refl _) _).alloc (by simp) _

theorem startM_bad {x y z n : Int} (h : x < 1 ∨ within y x 16 = false ∨ within z 1 y = false ∨ within n x y = false) : startM x y z n = (⟨0, 0, 0, 0, 0⟩, 1) := by
  unfold startM; rw [if_pos h]
theorem startM_ok {x y z n : Int} (h1 : 1 ≤ x) (h2 : within y x 16 = true) (h3 : within z 1 y = true) (h4 : within n x y = true) : startM x y z n = (⟨y, z, n, 0, 0⟩, 0) := by
  unfold startM; rw [if_neg (by simp [h2, h3, h4]; omega)]
theorem start_eq {x y z n : Int} (h : (x == 0 && (y == 0 && z == 0)) = false) : start x y z n = startM x y z n := by
  unfold start
  rw [if_neg]
  simpa using h
theorem start_any (x y z n : Int) (w : World) :
    Calls Try.prog 17 #[.agg #[.int .i64 x, .int .i64 y, .int .i64 z], .int .i64 n] w (Two (start x y z n).1 (start x y z n).2 w) := by
  by_cases h0 : (x == 0 && (y == 0 && z == 0)) = true
  · simp at h0
    obtain ⟨rfl, rfl, rfl⟩ := h0
    have hs : start 0 0 0 n = startM 1 1 1 n := rfl
    rw [hs]
    by_cases h4 : within n 1 1 = true
    · rw [startM_ok (by omega) (by decide) (by decide) h4]; exact start_zk n w h4
    · rw [startM_bad (.inr (.inr (.inr (by simpa using h4))))]; exact start_z4 n w (by simpa using h4)
  · rw [Bool.not_eq_true] at h0
    rw [start_eq h0]
    by_cases h1 : x < 1
    · rw [startM_bad (.inl h1)]; exact start_c1 x y z n w h0 h1
    by_cases h2 : within y x 16 = true
    · by_cases h3 : within z 1 y = true
      · by_cases h4 : within n x y = true
        · rw [startM_ok (by omega) h2 h3 h4]; exact start_ok x y z n w h0 (by omega) h2 h3 h4
        · rw [startM_bad (.inr (.inr (.inr (by simpa using h4))))]; exact start_c4 x y z n w h0 (by omega) h2 h3 (by simpa using h4)
      · rw [startM_bad (.inr (.inr (.inl (by simpa using h3))))]; exact start_c3 x y z n w h0 (by omega) h2 (by simpa using h3)
    · rw [startM_bad (.inr (.inl (by simpa using h2)))]; exact start_c2 x y z n w h0 (by omega) (by simpa using h2)
theorem rstart_any (x y z n : Int) (w : World) :
    Calls Try.prog 18 #[.agg #[.int .i64 x, .int .i64 y, .int .i64 z], .int .i64 n] w (Two (start x y z n).1 (start x y z n).2 w) := by
  by_cases h0 : (x == 0 && (y == 0 && z == 0)) = true
  · simp at h0
    obtain ⟨rfl, rfl, rfl⟩ := h0
    have hs : start 0 0 0 n = startM 1 1 1 n := rfl
    rw [hs]
    by_cases h4 : n < 1
    · rw [startM_bad (.inr (.inr (.inr (by simp [within]; omega))))]; exact rstart_z5 n w h4
    by_cases h5 : 1 < n
    · rw [startM_bad (.inr (.inr (.inr (by simp [within]; omega))))]; exact rstart_z6 n w h5
    · rw [startM_ok (by omega) (by decide) (by decide) (by simp [within]; omega)]; exact rstart_zk n w (by omega) (by omega)
  · rw [Bool.not_eq_true] at h0
    rw [start_eq h0]
    by_cases h1 : x < 1
    · rw [startM_bad (.inl h1)]; exact rstart_c1 x y z n w h0 h1
    by_cases h2 : y < x
    · rw [startM_bad (.inr (.inl (by simp [within]; omega)))]; exact rstart_c2 x y z n w h0 (by omega) h2
    by_cases h3 : 16 < y
    · rw [startM_bad (.inr (.inl (by simp [within]; omega)))]; exact rstart_c3 x y z n w h0 (by omega) (by omega) h3
    by_cases h4 : z < 1
    · rw [startM_bad (.inr (.inr (.inl (by simp [within]; omega))))]; exact rstart_c4 x y z n w h0 (by omega) (by omega) (by omega) h4
    by_cases h5 : y < z
    · rw [startM_bad (.inr (.inr (.inl (by simp [within]; omega))))]; exact rstart_c5 x y z n w h0 (by omega) (by omega) (by omega) (by omega) h5
    by_cases h6 : n < x
    · rw [startM_bad (.inr (.inr (.inr (by simp [within]; omega))))]; exact rstart_c6 x y z n w h0 (by omega) (by omega) (by omega) (by omega) (by omega) h6
    by_cases h7 : y < n
    · rw [startM_bad (.inr (.inr (.inr (by simp [within]; omega))))]; exact rstart_c7 x y z n w h0 (by omega) (by omega) (by omega) (by omega) (by omega) (by omega) h7
    · rw [startM_ok (by omega) (by simp [within]; omega) (by simp [within]; omega) (by simp [within]; omega)]
      exact rstart_ok x y z n w h0 (by omega) (by omega) (by omega) (by omega) (by omega) (by omega) (by omega)
end Go.Proofs.Ytebkibpdagdmiaa

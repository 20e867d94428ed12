/-
  The walk of ManyOrder: it returns true for every batch, and nothing that was there is written. No condition.
-/
import Derived.Test.YtebkibpdagdmiaaM7
namespace Go.Proofs.Ytebkibpdagdmiaa
open Go.RowKit
def Yes (w : World) (en : Ending) (w' : World) : Prop := en = .returned (.bool true) ∧ Below w.heap.size w w'

set_option maxHeartbeats 1000000 in
theorem order_bad (m e o d f : Int) (w : World) (s1 : step ⟨m, e, o, d, f⟩ 1 = (⟨m, e, o, d, f⟩, 1)) (s2 : step ⟨m, e, o, d, f⟩ 2 = (⟨m, e, o, d, f⟩, 1)) : Calls Try.prog 5 #[.agg #[.int .i64 m, .int .i64 e, .int .i64 o, .int .i64 d, .int .i64 f]] w (Yes w) := by
  go_enter Try.func5, Try.ntmps5
  go_wp2_with fail
  refine (small_any _).mono ?_
  rintro en w1 ⟨rfl, hb1⟩
  have H1 := on_alloc (Below.refl _ _) (Nat.le_refl _) hb1
  have z1 := new_lt hb1
  have c1_1 := new_blk hb1
  have lc1_1 : w.heap.size < w1.heap.size := z1
  go_wp2_with fail
  refine (done_is (b := ⟨m, e, o, d, f⟩) (k := 1) s1 _).mono ?_
  rintro en w2 ⟨rfl, hb2⟩
  have H2 := H1.trans (hb2.mono H1.size)
  have z2 := hb2.size
  have c1_2 := below_blk hb2 c1_1 lc1_1
  have lc1_2 : w.heap.size < w2.heap.size := Nat.lt_of_lt_of_le lc1_1 z2
  clear c1_1 lc1_1
  simp only [B.v]
  go_wp2_with fail
  refine (fail_is (b := ⟨m, e, o, d, f⟩) (k := 1) s2 _).mono ?_
  rintro en w3 ⟨rfl, hb3⟩
  have H3 := on_alloc H2 H2.size hb3
  have z3 := new_lt hb3
  have c1_3 := keep_blk hb3 c1_2 lc1_2
  have lc1_3 : w.heap.size < w3.heap.size := Nat.lt_trans lc1_2 z3
  have c3_3 := new_blk hb3
  have lc3_3 : w2.heap.size < w3.heap.size := z3
  clear c1_2 lc1_2
  simp only [B.v]
  go_wp2_with fail
  go_ret
  exact ⟨rfl, H3.alloc H3.size _⟩

set_option maxHeartbeats 1000000 in
theorem order_over (m e o d f : Int) (w : World) (s1 : step ⟨m, e, o, d, f⟩ 1 = (⟨m, e, o, d, f⟩, 12)) (s2 : step ⟨m, e, o, d, f⟩ 2 = (⟨m, e, o, d, f⟩, 12)) : Calls Try.prog 5 #[.agg #[.int .i64 m, .int .i64 e, .int .i64 o, .int .i64 d, .int .i64 f]] w (Yes w) := by
  go_enter Try.func5, Try.ntmps5
  go_wp2_with fail
  refine (small_any _).mono ?_
  rintro en w1 ⟨rfl, hb1⟩
  have H1 := on_alloc (Below.refl _ _) (Nat.le_refl _) hb1
  have z1 := new_lt hb1
  have c1_1 := new_blk hb1
  have lc1_1 : w.heap.size < w1.heap.size := z1
  go_wp2_with fail
  refine (done_is (b := ⟨m, e, o, d, f⟩) (k := 12) s1 _).mono ?_
  rintro en w2 ⟨rfl, hb2⟩
  have H2 := H1.trans (hb2.mono H1.size)
  have z2 := hb2.size
  have c1_2 := below_blk hb2 c1_1 lc1_1
  have lc1_2 : w.heap.size < w2.heap.size := Nat.lt_of_lt_of_le lc1_1 z2
  clear c1_1 lc1_1
  simp only [B.v]
  go_wp2_with fail
  refine (fail_is (b := ⟨m, e, o, d, f⟩) (k := 12) s2 _).mono ?_
  rintro en w3 ⟨rfl, hb3⟩
  have H3 := on_alloc H2 H2.size hb3
  have z3 := new_lt hb3
  have c1_3 := keep_blk hb3 c1_2 lc1_2
  have lc1_3 : w.heap.size < w3.heap.size := Nat.lt_trans lc1_2 z3
  have c3_3 := new_blk hb3
  have lc3_3 : w2.heap.size < w3.heap.size := z3
  clear c1_2 lc1_2
  simp only [B.v]
  go_wp2_with fail
  go_ret
  exact ⟨rfl, H3.alloc H3.size _⟩

set_option maxHeartbeats 1000000 in
theorem order_a (m e o d f : Int) (w : World) (s1 : step ⟨m, e, o, d, f⟩ 1 = (⟨m, e, o - 1, d + 1, f⟩, 0)) (s2 : step ⟨m, e, o, d, f⟩ 2 = (⟨m, e, o - 1, d, f + 1⟩, 0)) (s3 : step ⟨m, e, o - 1, d + 1, f⟩ 2 = (⟨m, e, o - 1, d + 1, f⟩, 12)) (s4 : step ⟨m, e, o - 1, d, f + 1⟩ 1 = (⟨m, e, o - 1, d, f + 1⟩, 12)) (s5 : over ⟨m, e, o - 1, d + 1, f⟩ = true) (s6 : over ⟨m, e, o - 1, d, f + 1⟩ = true) : Calls Try.prog 5 #[.agg #[.int .i64 m, .int .i64 e, .int .i64 o, .int .i64 d, .int .i64 f]] w (Yes w) := by
  go_enter Try.func5, Try.ntmps5
  go_wp2_with fail
  refine (small_any _).mono ?_
  rintro en w1 ⟨rfl, hb1⟩
  have H1 := on_alloc (Below.refl _ _) (Nat.le_refl _) hb1
  have z1 := new_lt hb1
  have c1_1 := new_blk hb1
  have lc1_1 : w.heap.size < w1.heap.size := z1
  go_wp2_with fail
  refine (done_is (b := ⟨m, e, o - 1, d + 1, f⟩) (k := 0) s1 _).mono ?_
  rintro en w2 ⟨rfl, hb2⟩
  have H2 := H1.trans (hb2.mono H1.size)
  have z2 := hb2.size
  have c1_2 := below_blk hb2 c1_1 lc1_1
  have lc1_2 : w.heap.size < w2.heap.size := Nat.lt_of_lt_of_le lc1_1 z2
  clear c1_1 lc1_1
  simp only [B.v]
  go_wp2_with fail
  refine (fail_is (b := ⟨m, e, o - 1, d, f + 1⟩) (k := 0) s2 _).mono ?_
  rintro en w3 ⟨rfl, hb3⟩
  have H3 := on_alloc H2 H2.size hb3
  have z3 := new_lt hb3
  have c1_3 := keep_blk hb3 c1_2 lc1_2
  have lc1_3 : w.heap.size < w3.heap.size := Nat.lt_trans lc1_2 z3
  have c3_3 := new_blk hb3
  have lc3_3 : w2.heap.size < w3.heap.size := z3
  clear c1_2 lc1_2
  simp only [B.v]
  go_wp2_with fail
  refine (fail_is (b := ⟨m, e, o - 1, d + 1, f⟩) (k := 12) s3 _).mono ?_
  rintro en w4 ⟨rfl, hb4⟩
  have H4 := on_alloc H3 H3.size hb4
  have z4 := new_lt hb4
  have c1_4 := keep_blk hb4 c1_3 lc1_3
  have lc1_4 : w.heap.size < w4.heap.size := Nat.lt_trans lc1_3 z4
  have c3_4 := keep_blk hb4 c3_3 lc3_3
  have lc3_4 : w2.heap.size < w4.heap.size := Nat.lt_trans lc3_3 z4
  have c4_4 := new_blk hb4
  have lc4_4 : w3.heap.size < w4.heap.size := z4
  clear c1_3 lc1_3
  clear c3_3 lc3_3
  simp only [B.v]
  go_wp2_with fail
  refine (done_is (b := ⟨m, e, o - 1, d, f + 1⟩) (k := 12) s4 _).mono ?_
  rintro en w5 ⟨rfl, hb5⟩
  have H5 := on_alloc H4 H4.size hb5
  have z5 := new_lt hb5
  have c1_5 := keep_blk hb5 c1_4 lc1_4
  have lc1_5 : w.heap.size < w5.heap.size := Nat.lt_trans lc1_4 z5
  have c3_5 := keep_blk hb5 c3_4 lc3_4
  have lc3_5 : w2.heap.size < w5.heap.size := Nat.lt_trans lc3_4 z5
  have c4_5 := keep_blk hb5 c4_4 lc4_4
  have lc4_5 : w3.heap.size < w5.heap.size := Nat.lt_trans lc4_4 z5
  have c5_5 := new_blk hb5
  have lc5_5 : w4.heap.size < w5.heap.size := z5
  clear c1_4 lc1_4
  clear c3_4 lc3_4
  clear c4_4 lc4_4
  simp only [B.v]
  go_wp2_with fail
  refine (over_is (b := true) s5 _).mono ?_
  rintro en w6 ⟨rfl, hb6⟩
  have H6 := on_alloc H5 H5.size hb6
  have z6 := new_lt hb6
  have c1_6 := keep_blk hb6 c1_5 lc1_5
  have lc1_6 : w.heap.size < w6.heap.size := Nat.lt_trans lc1_5 z6
  have c3_6 := keep_blk hb6 c3_5 lc3_5
  have lc3_6 : w2.heap.size < w6.heap.size := Nat.lt_trans lc3_5 z6
  have c4_6 := keep_blk hb6 c4_5 lc4_5
  have lc4_6 : w3.heap.size < w6.heap.size := Nat.lt_trans lc4_5 z6
  have c5_6 := keep_blk hb6 c5_5 lc5_5
  have lc5_6 : w4.heap.size < w6.heap.size := Nat.lt_trans lc5_5 z6
  have c6_6 := new_blk hb6
  have lc6_6 : w5.heap.size < w6.heap.size := z6
  clear c1_5 lc1_5
  clear c3_5 lc3_5
  clear c4_5 lc4_5
  clear c5_5 lc5_5
  go_wp2_with fail
  refine (over_is (b := true) s5 _).mono ?_
  rintro en w7 ⟨rfl, hb7⟩
  have H7 := H6.trans (hb7.mono H6.size)
  have z7 := hb7.size
  have c1_7 := below_blk hb7 c1_6 lc1_6
  have lc1_7 : w.heap.size < w7.heap.size := Nat.lt_of_lt_of_le lc1_6 z7
  have c3_7 := below_blk hb7 c3_6 lc3_6
  have lc3_7 : w2.heap.size < w7.heap.size := Nat.lt_of_lt_of_le lc3_6 z7
  have c4_7 := below_blk hb7 c4_6 lc4_6
  have lc4_7 : w3.heap.size < w7.heap.size := Nat.lt_of_lt_of_le lc4_6 z7
  have c5_7 := below_blk hb7 c5_6 lc5_6
  have lc5_7 : w4.heap.size < w7.heap.size := Nat.lt_of_lt_of_le lc5_6 z7
  have c6_7 := below_blk hb7 c6_6 lc6_6
  have lc6_7 : w5.heap.size < w7.heap.size := Nat.lt_of_lt_of_le lc6_6 z7
  clear c1_6 lc1_6
  clear c3_6 lc3_6
  clear c4_6 lc4_6
  clear c5_6 lc5_6
  clear c6_6 lc6_6
  go_wp2_with fail
  refine (over_is (b := true) s6 _).mono ?_
  rintro en w8 ⟨rfl, hb8⟩
  have H8 := H7.trans (hb8.mono H7.size)
  have z8 := hb8.size
  have c1_8 := below_blk hb8 c1_7 lc1_7
  have lc1_8 : w.heap.size < w8.heap.size := Nat.lt_of_lt_of_le lc1_7 z8
  have c3_8 := below_blk hb8 c3_7 lc3_7
  have lc3_8 : w2.heap.size < w8.heap.size := Nat.lt_of_lt_of_le lc3_7 z8
  have c4_8 := below_blk hb8 c4_7 lc4_7
  have lc4_8 : w3.heap.size < w8.heap.size := Nat.lt_of_lt_of_le lc4_7 z8
  have c5_8 := below_blk hb8 c5_7 lc5_7
  have lc5_8 : w4.heap.size < w8.heap.size := Nat.lt_of_lt_of_le lc5_7 z8
  have c6_8 := below_blk hb8 c6_7 lc6_7
  have lc6_8 : w5.heap.size < w8.heap.size := Nat.lt_of_lt_of_le lc6_7 z8
  clear c1_7 lc1_7
  clear c3_7 lc3_7
  clear c4_7 lc4_7
  clear c5_7 lc5_7
  clear c6_7 lc6_7
  go_wp2_with fail
  go_ret
  exact ⟨rfl, H8⟩

set_option maxHeartbeats 1000000 in
theorem order_b (m e o d f : Int) (w : World) (s1 : step ⟨m, e, o, d, f⟩ 1 = (⟨m, e, o - 1, d + 1, f⟩, 0)) (s2 : step ⟨m, e, o, d, f⟩ 2 = (⟨m, e, o - 1, d, f + 1⟩, 0)) (s3 : step ⟨m, e, o - 1, d + 1, f⟩ 2 = (⟨m, e, o - 1, d + 1, f⟩, 12)) (s4 : step ⟨m, e, o - 1, d, f + 1⟩ 1 = (⟨m, e, o - 1 - 1, d + 1, f + 1⟩, 0)) (s5 : over ⟨m, e, o - 1, d + 1, f⟩ = true) (s6 : over ⟨m, e, o - 1, d, f + 1⟩ = false) : Calls Try.prog 5 #[.agg #[.int .i64 m, .int .i64 e, .int .i64 o, .int .i64 d, .int .i64 f]] w (Yes w) := by
  go_enter Try.func5, Try.ntmps5
  go_wp2_with fail
  refine (small_any _).mono ?_
  rintro en w1 ⟨rfl, hb1⟩
  have H1 := on_alloc (Below.refl _ _) (Nat.le_refl _) hb1
  have z1 := new_lt hb1
  have c1_1 := new_blk hb1
  have lc1_1 : w.heap.size < w1.heap.size := z1
  go_wp2_with fail
  refine (done_is (b := ⟨m, e, o - 1, d + 1, f⟩) (k := 0) s1 _).mono ?_
  rintro en w2 ⟨rfl, hb2⟩
  have H2 := H1.trans (hb2.mono H1.size)
  have z2 := hb2.size
  have c1_2 := below_blk hb2 c1_1 lc1_1
  have lc1_2 : w.heap.size < w2.heap.size := Nat.lt_of_lt_of_le lc1_1 z2
  clear c1_1 lc1_1
  simp only [B.v]
  go_wp2_with fail
  refine (fail_is (b := ⟨m, e, o - 1, d, f + 1⟩) (k := 0) s2 _).mono ?_
  rintro en w3 ⟨rfl, hb3⟩
  have H3 := on_alloc H2 H2.size hb3
  have z3 := new_lt hb3
  have c1_3 := keep_blk hb3 c1_2 lc1_2
  have lc1_3 : w.heap.size < w3.heap.size := Nat.lt_trans lc1_2 z3
  have c3_3 := new_blk hb3
  have lc3_3 : w2.heap.size < w3.heap.size := z3
  clear c1_2 lc1_2
  simp only [B.v]
  go_wp2_with fail
  refine (fail_is (b := ⟨m, e, o - 1, d + 1, f⟩) (k := 12) s3 _).mono ?_
  rintro en w4 ⟨rfl, hb4⟩
  have H4 := on_alloc H3 H3.size hb4
  have z4 := new_lt hb4
  have c1_4 := keep_blk hb4 c1_3 lc1_3
  have lc1_4 : w.heap.size < w4.heap.size := Nat.lt_trans lc1_3 z4
  have c3_4 := keep_blk hb4 c3_3 lc3_3
  have lc3_4 : w2.heap.size < w4.heap.size := Nat.lt_trans lc3_3 z4
  have c4_4 := new_blk hb4
  have lc4_4 : w3.heap.size < w4.heap.size := z4
  clear c1_3 lc1_3
  clear c3_3 lc3_3
  simp only [B.v]
  go_wp2_with fail
  refine (done_is (b := ⟨m, e, o - 1 - 1, d + 1, f + 1⟩) (k := 0) s4 _).mono ?_
  rintro en w5 ⟨rfl, hb5⟩
  have H5 := on_alloc H4 H4.size hb5
  have z5 := new_lt hb5
  have c1_5 := keep_blk hb5 c1_4 lc1_4
  have lc1_5 : w.heap.size < w5.heap.size := Nat.lt_trans lc1_4 z5
  have c3_5 := keep_blk hb5 c3_4 lc3_4
  have lc3_5 : w2.heap.size < w5.heap.size := Nat.lt_trans lc3_4 z5
  have c4_5 := keep_blk hb5 c4_4 lc4_4
  have lc4_5 : w3.heap.size < w5.heap.size := Nat.lt_trans lc4_4 z5
  have c5_5 := new_blk hb5
  have lc5_5 : w4.heap.size < w5.heap.size := z5
  clear c1_4 lc1_4
  clear c3_4 lc3_4
  clear c4_4 lc4_4
  simp only [B.v]
  go_wp2_with fail
  refine (over_is (b := true) s5 _).mono ?_
  rintro en w6 ⟨rfl, hb6⟩
  have H6 := on_alloc H5 H5.size hb6
  have z6 := new_lt hb6
  have c1_6 := keep_blk hb6 c1_5 lc1_5
  have lc1_6 : w.heap.size < w6.heap.size := Nat.lt_trans lc1_5 z6
  have c3_6 := keep_blk hb6 c3_5 lc3_5
  have lc3_6 : w2.heap.size < w6.heap.size := Nat.lt_trans lc3_5 z6
  have c4_6 := keep_blk hb6 c4_5 lc4_5
  have lc4_6 : w3.heap.size < w6.heap.size := Nat.lt_trans lc4_5 z6
  have c5_6 := keep_blk hb6 c5_5 lc5_5
  have lc5_6 : w4.heap.size < w6.heap.size := Nat.lt_trans lc5_5 z6
  have c6_6 := new_blk hb6
  have lc6_6 : w5.heap.size < w6.heap.size := z6
  clear c1_5 lc1_5
  clear c3_5 lc3_5
  clear c4_5 lc4_5
  clear c5_5 lc5_5
  go_wp2_with fail
  refine (over_is (b := true) s5 _).mono ?_
  rintro en w7 ⟨rfl, hb7⟩
  have H7 := H6.trans (hb7.mono H6.size)
  have z7 := hb7.size
  have c1_7 := below_blk hb7 c1_6 lc1_6
  have lc1_7 : w.heap.size < w7.heap.size := Nat.lt_of_lt_of_le lc1_6 z7
  have c3_7 := below_blk hb7 c3_6 lc3_6
  have lc3_7 : w2.heap.size < w7.heap.size := Nat.lt_of_lt_of_le lc3_6 z7
  have c4_7 := below_blk hb7 c4_6 lc4_6
  have lc4_7 : w3.heap.size < w7.heap.size := Nat.lt_of_lt_of_le lc4_6 z7
  have c5_7 := below_blk hb7 c5_6 lc5_6
  have lc5_7 : w4.heap.size < w7.heap.size := Nat.lt_of_lt_of_le lc5_6 z7
  have c6_7 := below_blk hb7 c6_6 lc6_6
  have lc6_7 : w5.heap.size < w7.heap.size := Nat.lt_of_lt_of_le lc6_6 z7
  clear c1_6 lc1_6
  clear c3_6 lc3_6
  clear c4_6 lc4_6
  clear c5_6 lc5_6
  clear c6_6 lc6_6
  go_wp2_with fail
  refine (over_is (b := false) s6 _).mono ?_
  rintro en w8 ⟨rfl, hb8⟩
  have H8 := H7.trans (hb8.mono H7.size)
  have z8 := hb8.size
  have c1_8 := below_blk hb8 c1_7 lc1_7
  have lc1_8 : w.heap.size < w8.heap.size := Nat.lt_of_lt_of_le lc1_7 z8
  have c3_8 := below_blk hb8 c3_7 lc3_7
  have lc3_8 : w2.heap.size < w8.heap.size := Nat.lt_of_lt_of_le lc3_7 z8
  have c4_8 := below_blk hb8 c4_7 lc4_7
  have lc4_8 : w3.heap.size < w8.heap.size := Nat.lt_of_lt_of_le lc4_7 z8
  have c5_8 := below_blk hb8 c5_7 lc5_7
  have lc5_8 : w4.heap.size < w8.heap.size := Nat.lt_of_lt_of_le lc5_7 z8
  have c6_8 := below_blk hb8 c6_7 lc6_7
  have lc6_8 : w5.heap.size < w8.heap.size := Nat.lt_of_lt_of_le lc6_7 z8
  clear c1_7 lc1_7
  clear c3_7 lc3_7
  clear c4_7 lc4_7
  clear c5_7 lc5_7
  clear c6_7 lc6_7
  go_wp2_with fail
  go_ret
  exact ⟨rfl, H8⟩

set_option maxHeartbeats 1000000 in
theorem order_c (m e o d f : Int) (w : World) (s1 : step ⟨m, e, o, d, f⟩ 1 = (⟨m, e, o - 1, d + 1, f⟩, 0)) (s2 : step ⟨m, e, o, d, f⟩ 2 = (⟨m, e, o - 1, d, f + 1⟩, 0)) (s3 : step ⟨m, e, o - 1, d + 1, f⟩ 2 = (⟨m, e, o - 1 - 1, d + 1, f + 1⟩, 0)) (s4 : step ⟨m, e, o - 1, d, f + 1⟩ 1 = (⟨m, e, o - 1 - 1, d + 1, f + 1⟩, 0)) (s5 : over ⟨m, e, o - 1, d + 1, f⟩ = false) (s6 : over ⟨m, e, o - 1, d, f + 1⟩ = false) (ho : 0 ≤ o ∧ o ≤ 16) : Calls Try.prog 5 #[.agg #[.int .i64 m, .int .i64 e, .int .i64 o, .int .i64 d, .int .i64 f]] w (Yes w) := by
  go_enter Try.func5, Try.ntmps5
  go_wp2_with fail
  refine (small_any _).mono ?_
  rintro en w1 ⟨rfl, hb1⟩
  have H1 := on_alloc (Below.refl _ _) (Nat.le_refl _) hb1
  have z1 := new_lt hb1
  have c1_1 := new_blk hb1
  have lc1_1 : w.heap.size < w1.heap.size := z1
  go_wp2_with fail
  refine (done_is (b := ⟨m, e, o - 1, d + 1, f⟩) (k := 0) s1 _).mono ?_
  rintro en w2 ⟨rfl, hb2⟩
  have H2 := H1.trans (hb2.mono H1.size)
  have z2 := hb2.size
  have c1_2 := below_blk hb2 c1_1 lc1_1
  have lc1_2 : w.heap.size < w2.heap.size := Nat.lt_of_lt_of_le lc1_1 z2
  clear c1_1 lc1_1
  simp only [B.v]
  go_wp2_with fail
  refine (fail_is (b := ⟨m, e, o - 1, d, f + 1⟩) (k := 0) s2 _).mono ?_
  rintro en w3 ⟨rfl, hb3⟩
  have H3 := on_alloc H2 H2.size hb3
  have z3 := new_lt hb3
  have c1_3 := keep_blk hb3 c1_2 lc1_2
  have lc1_3 : w.heap.size < w3.heap.size := Nat.lt_trans lc1_2 z3
  have c3_3 := new_blk hb3
  have lc3_3 : w2.heap.size < w3.heap.size := z3
  clear c1_2 lc1_2
  simp only [B.v]
  go_wp2_with fail
  refine (fail_is (b := ⟨m, e, o - 1 - 1, d + 1, f + 1⟩) (k := 0) s3 _).mono ?_
  rintro en w4 ⟨rfl, hb4⟩
  have H4 := on_alloc H3 H3.size hb4
  have z4 := new_lt hb4
  have c1_4 := keep_blk hb4 c1_3 lc1_3
  have lc1_4 : w.heap.size < w4.heap.size := Nat.lt_trans lc1_3 z4
  have c3_4 := keep_blk hb4 c3_3 lc3_3
  have lc3_4 : w2.heap.size < w4.heap.size := Nat.lt_trans lc3_3 z4
  have c4_4 := new_blk hb4
  have lc4_4 : w3.heap.size < w4.heap.size := z4
  clear c1_3 lc1_3
  clear c3_3 lc3_3
  simp only [B.v]
  go_wp2_with fail
  refine (done_is (b := ⟨m, e, o - 1 - 1, d + 1, f + 1⟩) (k := 0) s4 _).mono ?_
  rintro en w5 ⟨rfl, hb5⟩
  have H5 := on_alloc H4 H4.size hb5
  have z5 := new_lt hb5
  have c1_5 := keep_blk hb5 c1_4 lc1_4
  have lc1_5 : w.heap.size < w5.heap.size := Nat.lt_trans lc1_4 z5
  have c3_5 := keep_blk hb5 c3_4 lc3_4
  have lc3_5 : w2.heap.size < w5.heap.size := Nat.lt_trans lc3_4 z5
  have c4_5 := keep_blk hb5 c4_4 lc4_4
  have lc4_5 : w3.heap.size < w5.heap.size := Nat.lt_trans lc4_4 z5
  have c5_5 := new_blk hb5
  have lc5_5 : w4.heap.size < w5.heap.size := z5
  clear c1_4 lc1_4
  clear c3_4 lc3_4
  clear c4_4 lc4_4
  simp only [B.v]
  go_wp2_with fail
  refine (over_is (b := false) s5 _).mono ?_
  rintro en w6 ⟨rfl, hb6⟩
  have H6 := on_alloc H5 H5.size hb6
  have z6 := new_lt hb6
  have c1_6 := keep_blk hb6 c1_5 lc1_5
  have lc1_6 : w.heap.size < w6.heap.size := Nat.lt_trans lc1_5 z6
  have c3_6 := keep_blk hb6 c3_5 lc3_5
  have lc3_6 : w2.heap.size < w6.heap.size := Nat.lt_trans lc3_5 z6
  have c4_6 := keep_blk hb6 c4_5 lc4_5
  have lc4_6 : w3.heap.size < w6.heap.size := Nat.lt_trans lc4_5 z6
  have c5_6 := keep_blk hb6 c5_5 lc5_5
  have lc5_6 : w4.heap.size < w6.heap.size := Nat.lt_trans lc5_5 z6
  have c6_6 := new_blk hb6
  have lc6_6 : w5.heap.size < w6.heap.size := z6
  clear c1_5 lc1_5
  clear c3_5 lc3_5
  clear c4_5 lc4_5
  clear c5_5 lc5_5
  go_wp2_with fail
  refine (over_is (b := false) s6 _).mono ?_
  rintro en w7 ⟨rfl, hb7⟩
  have H7 := H6.trans (hb7.mono H6.size)
  have z7 := hb7.size
  have c1_7 := below_blk hb7 c1_6 lc1_6
  have lc1_7 : w.heap.size < w7.heap.size := Nat.lt_of_lt_of_le lc1_6 z7
  have c3_7 := below_blk hb7 c3_6 lc3_6
  have lc3_7 : w2.heap.size < w7.heap.size := Nat.lt_of_lt_of_le lc3_6 z7
  have c4_7 := below_blk hb7 c4_6 lc4_6
  have lc4_7 : w3.heap.size < w7.heap.size := Nat.lt_of_lt_of_le lc4_6 z7
  have c5_7 := below_blk hb7 c5_6 lc5_6
  have lc5_7 : w4.heap.size < w7.heap.size := Nat.lt_of_lt_of_le lc5_6 z7
  have c6_7 := below_blk hb7 c6_6 lc6_6
  have lc6_7 : w5.heap.size < w7.heap.size := Nat.lt_of_lt_of_le lc6_6 z7
  clear c1_6 lc1_6
  clear c3_6 lc3_6
  clear c4_6 lc4_6
  clear c5_6 lc5_6
  clear c6_6 lc6_6
  go_wp2_with fail
  have he : o - 1 - 1 = o - 2 := by omega
  go_wp2
  go_ret
  refine ⟨ret_bool ?_, H7⟩
  simp <;> omega

theorem ret_any {w w' : World} (h : Below w.heap.size w w') {b : Bool} (hb : b = true) : Yes w (.returned (.bool b)) w' := by subst hb; exact ⟨rfl, h⟩
theorem order_any (m e o d f : Int) (w : World) : Calls Try.prog 5 #[.agg #[.int .i64 m, .int .i64 e, .int .i64 o, .int .i64 d, .int .i64 f]] w (Yes w) := by
  by_cases hr : right ⟨m, e, o, d, f⟩ = true
  · by_cases ho : over ⟨m, e, o, d, f⟩ = true
    · exact order_over m e o d f w (by simp [step, hr, ho]) (by simp [step, hr, ho])
    · have ho' : over ⟨m, e, o, d, f⟩ = false := by simpa using ho
      have hi := right_iff.1 hr
      simp only [] at hi
      have hn : d < e ∧ ¬ o = 0 := by
        have := ho'
        simp only [over, hr, Bool.true_and] at this
        simp at this
        omega
      have rc : right ⟨m, e, o - 1, d + 1, f⟩ = true := right_iff.2 (by simp only []; omega)
      have rd : right ⟨m, e, o - 1, d, f + 1⟩ = true := right_iff.2 (by simp only []; omega)
      have s1 : step ⟨m, e, o, d, f⟩ 1 = (⟨m, e, o - 1, d + 1, f⟩, 0) := by simp [step, hr, ho']
      have s2 : step ⟨m, e, o, d, f⟩ 2 = (⟨m, e, o - 1, d, f + 1⟩, 0) := by simp [step, hr, ho']
      by_cases oc : over ⟨m, e, o - 1, d + 1, f⟩ = true
      · by_cases od : over ⟨m, e, o - 1, d, f + 1⟩ = true
        · exact order_a m e o d f w s1 s2 (by simp [step, rc, oc]) (by simp [step, rd, od]) oc od
        · have od' : over ⟨m, e, o - 1, d, f + 1⟩ = false := by simpa using od
          exact order_b m e o d f w s1 s2 (by simp [step, rc, oc]) (by simp [step, rd, od']) oc od'
      · have oc' : over ⟨m, e, o - 1, d + 1, f⟩ = false := by simpa using oc
        have od' : over ⟨m, e, o - 1, d, f + 1⟩ = false := by
          have := oc'
          simp only [over, rc, Bool.true_and] at this
          simp only [over, rd, Bool.true_and]
          simp at this ⊢
          omega
        exact order_c m e o d f w s1 s2 (by simp [step, rc, oc']) (by simp [step, rd, od']) oc' od' (by omega)
  · have hr' : right ⟨m, e, o, d, f⟩ = false := by simpa using hr
    exact order_bad m e o d f w (by simp [step, hr']) (by simp [step, hr'])
end Go.Proofs.Ytebkibpdagdmiaa

/-
  The small case comes out right: no input.
-/
import Derived.Test.YtebkibpdagdmiaaM6
namespace Go.Proofs.Ytebkibpdagdmiaa
open Go.RowKit
theorem keep_blk {w w1 : World} {X : Obj} {b : Nat} {f : Nat → Option Value} (hb : Below (w.alloc X).heap.size (w.alloc X) w1) (h : ∀ o, w.cell? ⟨b, o, none⟩ = f o) (hlt : b < w.heap.size) : ∀ o, w1.cell? ⟨b, o, none⟩ = f o := by
  intro o
  rw [hb.cell (p := ⟨b, o, none⟩) (by simp; omega), ← h o]
  exact World.cell?_of_block (w := w) (Below.heap_alloc w X b hlt)
theorem new_blk {w w1 : World} {xs : Array Value} {t : TypeId} (hb : Below (w.alloc (.cells xs t)).heap.size (w.alloc (.cells xs t)) w1) : ∀ o, w1.cell? ⟨w.heap.size, o, none⟩ = xs[o]? := by
  intro o
  rw [hb.cell (p := ⟨w.heap.size, o, none⟩) (by simp)]
  exact cell_of_row (w.alloc (.cells xs t)) w.heap.size o xs t (0, 0) (heap_alloc_new w _)
theorem new_lt {w w1 : World} {X : Obj} (hb : Below (w.alloc X).heap.size (w.alloc X) w1) : w.heap.size < w1.heap.size := by have := hb.size; simp at this; omega
theorem on_alloc {B : Nat} {a w w1 : World} {X : Obj} (h : Below B a w) (hB : B ≤ w.heap.size) (hb : Below (w.alloc X).heap.size (w.alloc X) w1) : Below B a w1 := (h.alloc hB X).trans (hb.mono (by simp; omega))
theorem below_blk {w w1 : World} {b : Nat} {f : Nat → Option Value} (hb : Below w.heap.size w w1) (h : ∀ o, w.cell? ⟨b, o, none⟩ = f o) (hlt : b < w.heap.size) : ∀ o, w1.cell? ⟨b, o, none⟩ = f o := by
  intro o
  rw [hb.cell (p := ⟨b, o, none⟩) hlt, ← h o]
theorem start_is {x y z n : Int} {b : B} {k : Int} (h : start x y z n = (b, k)) (w : World) : Calls Try.prog 17 #[.agg #[.int .i64 x, .int .i64 y, .int .i64 z], .int .i64 n] w (Two b k w) := by
  have := start_any x y z n w; rw [h] at this; exact this
theorem add_is {m e o d f : Int} {b : B} {k : Int} (h : step ⟨m, e, o, d, f⟩ 0 = (b, k)) (w : World) : Calls Try.prog 9 #[.agg #[.int .i64 m, .int .i64 e, .int .i64 o, .int .i64 d, .int .i64 f]] w (Two b k w) := by
  have := add_any m e o d f w; rw [h] at this; exact this
theorem done_is {m e o d f : Int} {b : B} {k : Int} (h : step ⟨m, e, o, d, f⟩ 1 = (b, k)) (w : World) : Calls Try.prog 11 #[.agg #[.int .i64 m, .int .i64 e, .int .i64 o, .int .i64 d, .int .i64 f]] w (Two b k w) := by
  have := done_any m e o d f w; rw [h] at this; exact this
theorem fail_is {m e o d f : Int} {b : B} {k : Int} (h : step ⟨m, e, o, d, f⟩ 2 = (b, k)) (w : World) : Calls Try.prog 13 #[.agg #[.int .i64 m, .int .i64 e, .int .i64 o, .int .i64 d, .int .i64 f]] w (Two b k w) := by
  have := fail_any m e o d f w; rw [h] at this; exact this
theorem close_is {m e o d f : Int} {b : B} {k : Int} (h : close ⟨m, e, o, d, f⟩ = (b, k)) (w : World) : Calls Try.prog 15 #[.agg #[.int .i64 m, .int .i64 e, .int .i64 o, .int .i64 d, .int .i64 f]] w (Two b k w) := by
  have := close_any m e o d f w; rw [h] at this; exact this
theorem right_is {m e o d f : Int} {b : Bool} (h : right ⟨m, e, o, d, f⟩ = b) (w : World) : Calls Try.prog 19 #[.agg #[.int .i64 m, .int .i64 e, .int .i64 o, .int .i64 d, .int .i64 f]] w fun en w' => en = .returned (.bool b) ∧ Below w.heap.size w w' := by
  subst h; exact right_any m e o d f w
theorem over_is {m e o d f : Int} {b : Bool} (h : over ⟨m, e, o, d, f⟩ = b) (w : World) : Calls Try.prog 21 #[.agg #[.int .i64 m, .int .i64 e, .int .i64 o, .int .i64 d, .int .i64 f]] w fun en w' => en = .returned (.bool b) ∧ Below w.heap.size w w' := by
  subst h; exact over_any m e o d f w
theorem well_is {m e o d f : Int} {b : Bool} (h : well ⟨m, e, o, d, f⟩ = b) (w : World) : Calls Try.prog 23 #[.agg #[.int .i64 m, .int .i64 e, .int .i64 o, .int .i64 d, .int .i64 f]] w fun en w' => en = .returned (.bool b) ∧ Below w.heap.size w w' := by
  subst h; exact well_any m e o d f w

set_option maxHeartbeats 1000000 in
theorem small_any (w : World) : Calls Try.prog 8 #[] w fun en w' => en = .returned (.bool true) ∧ Below w.heap.size w w' := by
  go_enter Try.func8, Try.ntmps8
  go_wp2_with fail
  refine (start_is (b := ⟨3, 2, 2, 0, 0⟩) (k := 0) (by rfl) _).mono ?_
  rintro en w1 ⟨rfl, hb1⟩
  have H1 := hb1
  simp only [B.v]
  go_wp2_with fail
  refine (done_is (b := ⟨3, 2, 1, 1, 0⟩) (k := 0) (by rfl) _).mono ?_
  rintro en w2 ⟨rfl, hb2⟩
  have H2 := on_alloc H1 H1.size hb2
  have z2 := new_lt hb2
  have c2_2 := new_blk hb2
  have lc2_2 : w1.heap.size < w2.heap.size := z2
  simp only [B.v]
  go_wp2_with fail
  refine (done_is (b := ⟨3, 2, 0, 2, 0⟩) (k := 0) (by rfl) _).mono ?_
  rintro en w3 ⟨rfl, hb3⟩
  have H3 := on_alloc H2 H2.size hb3
  have z3 := new_lt hb3
  have c2_3 := keep_blk hb3 c2_2 lc2_2
  have lc2_3 : w1.heap.size < w3.heap.size := Nat.lt_trans lc2_2 z3
  have c3_3 := new_blk hb3
  have lc3_3 : w2.heap.size < w3.heap.size := z3
  clear c2_2 lc2_2
  simp only [B.v]
  go_wp2_with fail
  refine (fail_is (b := ⟨3, 2, 0, 2, 0⟩) (k := 12) (by rfl) _).mono ?_
  rintro en w4 ⟨rfl, hb4⟩
  have H4 := on_alloc H3 H3.size hb4
  have z4 := new_lt hb4
  have c2_4 := keep_blk hb4 c2_3 lc2_3
  have lc2_4 : w1.heap.size < w4.heap.size := Nat.lt_trans lc2_3 z4
  have c3_4 := keep_blk hb4 c3_3 lc3_3
  have lc3_4 : w2.heap.size < w4.heap.size := Nat.lt_trans lc3_3 z4
  have c4_4 := new_blk hb4
  have lc4_4 : w3.heap.size < w4.heap.size := z4
  clear c2_3 lc2_3
  clear c3_3 lc3_3
  simp only [B.v]
  go_wp2_with fail
  refine (close_is (b := ⟨3, 2, 0, 1, 1⟩) (k := 1) (by rfl) _).mono ?_
  rintro en w5 ⟨rfl, hb5⟩
  have H5 := on_alloc H4 H4.size hb5
  have z5 := new_lt hb5
  have c2_5 := keep_blk hb5 c2_4 lc2_4
  have lc2_5 : w1.heap.size < w5.heap.size := Nat.lt_trans lc2_4 z5
  have c3_5 := keep_blk hb5 c3_4 lc3_4
  have lc3_5 : w2.heap.size < w5.heap.size := Nat.lt_trans lc3_4 z5
  have c4_5 := keep_blk hb5 c4_4 lc4_4
  have lc4_5 : w3.heap.size < w5.heap.size := Nat.lt_trans lc4_4 z5
  have c5_5 := new_blk hb5
  have lc5_5 : w4.heap.size < w5.heap.size := z5
  clear c2_4 lc2_4
  clear c3_4 lc3_4
  clear c4_4 lc4_4
  simp only [B.v]
  go_wp2_with fail
  refine (start_is (b := ⟨0, 0, 0, 0, 0⟩) (k := 1) (by rfl) _).mono ?_
  rintro en w6 ⟨rfl, hb6⟩
  have H6 := on_alloc H5 H5.size hb6
  have z6 := new_lt hb6
  have c2_6 := keep_blk hb6 c2_5 lc2_5
  have lc2_6 : w1.heap.size < w6.heap.size := Nat.lt_trans lc2_5 z6
  have c3_6 := keep_blk hb6 c3_5 lc3_5
  have lc3_6 : w2.heap.size < w6.heap.size := Nat.lt_trans lc3_5 z6
  have c4_6 := keep_blk hb6 c4_5 lc4_5
  have lc4_6 : w3.heap.size < w6.heap.size := Nat.lt_trans lc4_5 z6
  have c5_6 := keep_blk hb6 c5_5 lc5_5
  have lc5_6 : w4.heap.size < w6.heap.size := Nat.lt_trans lc5_5 z6
  have c6_6 := new_blk hb6
  have lc6_6 : w5.heap.size < w6.heap.size := z6
  clear c2_5 lc2_5
  clear c3_5 lc3_5
  clear c4_5 lc4_5
  clear c5_5 lc5_5
  simp only [B.v]
  go_wp2_with fail
  refine (add_is (b := ⟨3, 2, 2, 1, 0⟩) (k := 0) (by rfl) _).mono ?_
  rintro en w7 ⟨rfl, hb7⟩
  have H7 := on_alloc H6 H6.size hb7
  have z7 := new_lt hb7
  have c2_7 := keep_blk hb7 c2_6 lc2_6
  have lc2_7 : w1.heap.size < w7.heap.size := Nat.lt_trans lc2_6 z7
  have c3_7 := keep_blk hb7 c3_6 lc3_6
  have lc3_7 : w2.heap.size < w7.heap.size := Nat.lt_trans lc3_6 z7
  have c4_7 := keep_blk hb7 c4_6 lc4_6
  have lc4_7 : w3.heap.size < w7.heap.size := Nat.lt_trans lc4_6 z7
  have c5_7 := keep_blk hb7 c5_6 lc5_6
  have lc5_7 : w4.heap.size < w7.heap.size := Nat.lt_trans lc5_6 z7
  have c6_7 := keep_blk hb7 c6_6 lc6_6
  have lc6_7 : w5.heap.size < w7.heap.size := Nat.lt_trans lc6_6 z7
  have c7_7 := new_blk hb7
  have lc7_7 : w6.heap.size < w7.heap.size := z7
  clear c2_6 lc2_6
  clear c3_6 lc3_6
  clear c4_6 lc4_6
  clear c5_6 lc5_6
  clear c6_6 lc6_6
  simp only [B.v]
  go_wp2_with fail
  refine (over_is (b := false) (by decide) _).mono ?_
  rintro en w8 ⟨rfl, hb8⟩
  have H8 := on_alloc H7 H7.size hb8
  have z8 := new_lt hb8
  have c2_8 := keep_blk hb8 c2_7 lc2_7
  have lc2_8 : w1.heap.size < w8.heap.size := Nat.lt_trans lc2_7 z8
  have c3_8 := keep_blk hb8 c3_7 lc3_7
  have lc3_8 : w2.heap.size < w8.heap.size := Nat.lt_trans lc3_7 z8
  have c4_8 := keep_blk hb8 c4_7 lc4_7
  have lc4_8 : w3.heap.size < w8.heap.size := Nat.lt_trans lc4_7 z8
  have c5_8 := keep_blk hb8 c5_7 lc5_7
  have lc5_8 : w4.heap.size < w8.heap.size := Nat.lt_trans lc5_7 z8
  have c6_8 := keep_blk hb8 c6_7 lc6_7
  have lc6_8 : w5.heap.size < w8.heap.size := Nat.lt_trans lc6_7 z8
  have c7_8 := keep_blk hb8 c7_7 lc7_7
  have lc7_8 : w6.heap.size < w8.heap.size := Nat.lt_trans lc7_7 z8
  have c8_8 := new_blk hb8
  have lc8_8 : w7.heap.size < w8.heap.size := z8
  clear c2_7 lc2_7
  clear c3_7 lc3_7
  clear c4_7 lc4_7
  clear c5_7 lc5_7
  clear c6_7 lc6_7
  clear c7_7 lc7_7
  go_wp2_with fail
  refine (over_is (b := true) (by decide) _).mono ?_
  rintro en w9 ⟨rfl, hb9⟩
  have H9 := H8.trans (hb9.mono H8.size)
  have z9 := hb9.size
  have c2_9 := below_blk hb9 c2_8 lc2_8
  have lc2_9 : w1.heap.size < w9.heap.size := Nat.lt_of_lt_of_le lc2_8 z9
  have c3_9 := below_blk hb9 c3_8 lc3_8
  have lc3_9 : w2.heap.size < w9.heap.size := Nat.lt_of_lt_of_le lc3_8 z9
  have c4_9 := below_blk hb9 c4_8 lc4_8
  have lc4_9 : w3.heap.size < w9.heap.size := Nat.lt_of_lt_of_le lc4_8 z9
  have c5_9 := below_blk hb9 c5_8 lc5_8
  have lc5_9 : w4.heap.size < w9.heap.size := Nat.lt_of_lt_of_le lc5_8 z9
  have c6_9 := below_blk hb9 c6_8 lc6_8
  have lc6_9 : w5.heap.size < w9.heap.size := Nat.lt_of_lt_of_le lc6_8 z9
  have c7_9 := below_blk hb9 c7_8 lc7_8
  have lc7_9 : w6.heap.size < w9.heap.size := Nat.lt_of_lt_of_le lc7_8 z9
  have c8_9 := below_blk hb9 c8_8 lc8_8
  have lc8_9 : w7.heap.size < w9.heap.size := Nat.lt_of_lt_of_le lc8_8 z9
  clear c2_8 lc2_8
  clear c3_8 lc3_8
  clear c4_8 lc4_8
  clear c5_8 lc5_8
  clear c6_8 lc6_8
  clear c7_8 lc7_8
  clear c8_8 lc8_8
  go_wp2_with fail
  refine (well_is (b := true) (by decide) _).mono ?_
  rintro en w10 ⟨rfl, hb10⟩
  have H10 := H9.trans (hb10.mono H9.size)
  have z10 := hb10.size
  have c2_10 := below_blk hb10 c2_9 lc2_9
  have lc2_10 : w1.heap.size < w10.heap.size := Nat.lt_of_lt_of_le lc2_9 z10
  have c3_10 := below_blk hb10 c3_9 lc3_9
  have lc3_10 : w2.heap.size < w10.heap.size := Nat.lt_of_lt_of_le lc3_9 z10
  have c4_10 := below_blk hb10 c4_9 lc4_9
  have lc4_10 : w3.heap.size < w10.heap.size := Nat.lt_of_lt_of_le lc4_9 z10
  have c5_10 := below_blk hb10 c5_9 lc5_9
  have lc5_10 : w4.heap.size < w10.heap.size := Nat.lt_of_lt_of_le lc5_9 z10
  have c6_10 := below_blk hb10 c6_9 lc6_9
  have lc6_10 : w5.heap.size < w10.heap.size := Nat.lt_of_lt_of_le lc6_9 z10
  have c7_10 := below_blk hb10 c7_9 lc7_9
  have lc7_10 : w6.heap.size < w10.heap.size := Nat.lt_of_lt_of_le lc7_9 z10
  have c8_10 := below_blk hb10 c8_9 lc8_9
  have lc8_10 : w7.heap.size < w10.heap.size := Nat.lt_of_lt_of_le lc8_9 z10
  clear c2_9 lc2_9
  clear c3_9 lc3_9
  clear c4_9 lc4_9
  clear c5_9 lc5_9
  clear c6_9 lc6_9
  clear c7_9 lc7_9
  clear c8_9 lc8_9
  go_wp2_with fail
  refine (right_is (b := true) (by decide) _).mono ?_
  rintro en w11 ⟨rfl, hb11⟩
  have H11 := H10.trans (hb11.mono H10.size)
  have z11 := hb11.size
  have c2_11 := below_blk hb11 c2_10 lc2_10
  have lc2_11 : w1.heap.size < w11.heap.size := Nat.lt_of_lt_of_le lc2_10 z11
  have c3_11 := below_blk hb11 c3_10 lc3_10
  have lc3_11 : w2.heap.size < w11.heap.size := Nat.lt_of_lt_of_le lc3_10 z11
  have c4_11 := below_blk hb11 c4_10 lc4_10
  have lc4_11 : w3.heap.size < w11.heap.size := Nat.lt_of_lt_of_le lc4_10 z11
  have c5_11 := below_blk hb11 c5_10 lc5_10
  have lc5_11 : w4.heap.size < w11.heap.size := Nat.lt_of_lt_of_le lc5_10 z11
  have c6_11 := below_blk hb11 c6_10 lc6_10
  have lc6_11 : w5.heap.size < w11.heap.size := Nat.lt_of_lt_of_le lc6_10 z11
  have c7_11 := below_blk hb11 c7_10 lc7_10
  have lc7_11 : w6.heap.size < w11.heap.size := Nat.lt_of_lt_of_le lc7_10 z11
  have c8_11 := below_blk hb11 c8_10 lc8_10
  have lc8_11 : w7.heap.size < w11.heap.size := Nat.lt_of_lt_of_le lc8_10 z11
  clear c2_10 lc2_10
  clear c3_10 lc3_10
  clear c4_10 lc4_10
  clear c5_10 lc5_10
  clear c6_10 lc6_10
  clear c7_10 lc7_10
  clear c8_10 lc8_10
  go_wp2_with fail
  go_ret
  exact ⟨rfl, H11⟩
end Go.Proofs.Ytebkibpdagdmiaa

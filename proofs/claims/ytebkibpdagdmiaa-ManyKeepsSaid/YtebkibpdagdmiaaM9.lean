/-
  The walk of ManyTells: it returns true for every batch, every three numbers, every number, and nothing that was there is written. No condition.
-/
import Derived.Test.YtebkibpdagdmiaaM8
namespace Go.Proofs.Ytebkibpdagdmiaa
open Go.RowKit
theorem alloc_blk {w : World} {X : Obj} {b : Nat} {f : Nat → Option Value} (h : ∀ o, w.cell? ⟨b, o, none⟩ = f o) (hlt : b < w.heap.size) : ∀ o, (w.alloc X).cell? ⟨b, o, none⟩ = f o := by
  intro o
  rw [← h o]
  exact World.cell?_of_block (w := w) (Below.heap_alloc w X b hlt)
theorem keep_blk2 {w w1 : World} {X Y : Obj} {b : Nat} {f : Nat → Option Value} (hb : Below ((w.alloc X).alloc Y).heap.size ((w.alloc X).alloc Y) w1) (h : ∀ o, w.cell? ⟨b, o, none⟩ = f o) (hlt : b < w.heap.size) : ∀ o, w1.cell? ⟨b, o, none⟩ = f o :=
  keep_blk hb (alloc_blk h hlt) (by simp; omega)
theorem new_blkb {w w1 : World} {X : Obj} {xs : Array Value} {t : TypeId} (hb : Below ((w.alloc X).alloc (.cells xs t)).heap.size ((w.alloc X).alloc (.cells xs t)) w1) : ∀ o, w1.cell? ⟨w.heap.size + 1, o, none⟩ = xs[o]? := by
  have := new_blk hb; simpa using this
theorem new_blka {w w1 : World} {Y : Obj} {xs : Array Value} {t : TypeId} (hb : Below ((w.alloc (.cells xs t)).alloc Y).heap.size ((w.alloc (.cells xs t)).alloc Y) w1) : ∀ o, w1.cell? ⟨w.heap.size, o, none⟩ = xs[o]? :=
  keep_blk hb (new_blk (Below.refl _ _)) (by simp)
theorem new_lt2 {w w1 : World} {X Y : Obj} (hb : Below ((w.alloc X).alloc Y).heap.size ((w.alloc X).alloc Y) w1) : w.heap.size < w1.heap.size := by have := hb.size; simp at this; omega
theorem new_lt2b {w w1 : World} {X Y : Obj} (hb : Below ((w.alloc X).alloc Y).heap.size ((w.alloc X).alloc Y) w1) : w.heap.size + 1 < w1.heap.size := by have := hb.size; simp at this; omega
theorem on_alloc2 {B : Nat} {a w w1 : World} {X Y : Obj} (h : Below B a w) (hB : B ≤ w.heap.size) (hb : Below ((w.alloc X).alloc Y).heap.size ((w.alloc X).alloc Y) w1) : Below B a w1 := on_alloc (h.alloc hB X) (by simp; omega) hb
theorem fact_blk {w : World} {b : Nat} {f : Nat → Option Value} (h : ∀ o, w.cell? ⟨b, o, none⟩ = f o) (hlt : b < w.heap.size) : ∀ w1, Below w.heap.size w w1 → ∀ o, w1.cell? ⟨b, o, none⟩ = f o :=
  fun _ hb => below_blk hb h hlt

set_option maxHeartbeats 2000000 in
theorem tells_any (m e o d f x y z n : Int) (w : World) : Calls Try.prog 3 #[.agg #[.int .i64 m, .int .i64 e, .int .i64 o, .int .i64 d, .int .i64 f], .agg #[.int .i64 x, .int .i64 y, .int .i64 z], .int .i64 n] w (Yes w) := by
  go_enter Try.func3, Try.ntmps3
  go_wp2_with fail
  refine (small_any _).mono ?_
  rintro en w1 ⟨rfl, hb1⟩
  have H1 := on_alloc2 (Below.refl _ _) (Nat.le_refl _) hb1
  have z1 := new_lt2 hb1
  have c1a_1 := new_blka hb1
  have lc1a_1 : w.heap.size < w1.heap.size := z1
  have c1b_1 := new_blkb hb1
  have lc1b_1 : w.heap.size + 1 < w1.heap.size := new_lt2b hb1
  go_wp2_with fail
  refine (add_any _ _ _ _ _ _).mono ?_
  rintro en w2 ⟨rfl, hb2⟩
  have H2 := H1.trans (hb2.mono H1.size)
  have z2 := hb2.size
  have c1a_2 := below_blk hb2 c1a_1 lc1a_1
  have lc1a_2 : w.heap.size < w2.heap.size := Nat.lt_of_lt_of_le lc1a_1 z2
  have c1b_2 := below_blk hb2 c1b_1 lc1b_1
  have lc1b_2 : w.heap.size + 1 < w2.heap.size := Nat.lt_of_lt_of_le lc1b_1 z2
  clear c1a_1 lc1a_1
  clear c1b_1 lc1b_1
  simp only [B.v]
  go_wp2_with fail
  refine (radd_any _ _ _ _ _ _).mono ?_
  rintro en w3 ⟨rfl, hb3⟩
  have H3 := on_alloc H2 H2.size hb3
  have z3 := new_lt hb3
  have c1a_3 := keep_blk hb3 c1a_2 lc1a_2
  have lc1a_3 : w.heap.size < w3.heap.size := Nat.lt_trans lc1a_2 z3
  have c1b_3 := keep_blk hb3 c1b_2 lc1b_2
  have lc1b_3 : w.heap.size + 1 < w3.heap.size := Nat.lt_trans lc1b_2 z3
  have c3_3 := new_blk hb3
  have lc3_3 : w2.heap.size < w3.heap.size := z3
  clear c1a_2 lc1a_2
  clear c1b_2 lc1b_2
  simp only [B.v]
  go_wp2_with fail
  refine (done_any _ _ _ _ _ _).mono ?_
  rintro en w4 ⟨rfl, hb4⟩
  have H4 := on_alloc H3 H3.size hb4
  have z4 := new_lt hb4
  have c1a_4 := keep_blk hb4 c1a_3 lc1a_3
  have lc1a_4 : w.heap.size < w4.heap.size := Nat.lt_trans lc1a_3 z4
  have c1b_4 := keep_blk hb4 c1b_3 lc1b_3
  have lc1b_4 : w.heap.size + 1 < w4.heap.size := Nat.lt_trans lc1b_3 z4
  have c3_4 := keep_blk hb4 c3_3 lc3_3
  have lc3_4 : w2.heap.size < w4.heap.size := Nat.lt_trans lc3_3 z4
  have c4_4 := new_blk hb4
  have lc4_4 : w3.heap.size < w4.heap.size := z4
  clear c1a_3 lc1a_3
  clear c1b_3 lc1b_3
  clear c3_3 lc3_3
  simp only [B.v]
  go_wp2_with fail
  refine (rdone_any _ _ _ _ _ _).mono ?_
  rintro en w5 ⟨rfl, hb5⟩
  have H5 := on_alloc H4 H4.size hb5
  have z5 := new_lt hb5
  have c1a_5 := keep_blk hb5 c1a_4 lc1a_4
  have lc1a_5 : w.heap.size < w5.heap.size := Nat.lt_trans lc1a_4 z5
  have c1b_5 := keep_blk hb5 c1b_4 lc1b_4
  have lc1b_5 : w.heap.size + 1 < w5.heap.size := Nat.lt_trans lc1b_4 z5
  have c3_5 := keep_blk hb5 c3_4 lc3_4
  have lc3_5 : w2.heap.size < w5.heap.size := Nat.lt_trans lc3_4 z5
  have c4_5 := keep_blk hb5 c4_4 lc4_4
  have lc4_5 : w3.heap.size < w5.heap.size := Nat.lt_trans lc4_4 z5
  have c5_5 := new_blk hb5
  have lc5_5 : w4.heap.size < w5.heap.size := z5
  clear c1a_4 lc1a_4
  clear c1b_4 lc1b_4
  clear c3_4 lc3_4
  clear c4_4 lc4_4
  simp only [B.v]
  go_wp2_with fail
  refine (fail_any _ _ _ _ _ _).mono ?_
  rintro en w6 ⟨rfl, hb6⟩
  have H6 := on_alloc H5 H5.size hb6
  have z6 := new_lt hb6
  have c1a_6 := keep_blk hb6 c1a_5 lc1a_5
  have lc1a_6 : w.heap.size < w6.heap.size := Nat.lt_trans lc1a_5 z6
  have c1b_6 := keep_blk hb6 c1b_5 lc1b_5
  have lc1b_6 : w.heap.size + 1 < w6.heap.size := Nat.lt_trans lc1b_5 z6
  have c3_6 := keep_blk hb6 c3_5 lc3_5
  have lc3_6 : w2.heap.size < w6.heap.size := Nat.lt_trans lc3_5 z6
  have c4_6 := keep_blk hb6 c4_5 lc4_5
  have lc4_6 : w3.heap.size < w6.heap.size := Nat.lt_trans lc4_5 z6
  have c5_6 := keep_blk hb6 c5_5 lc5_5
  have lc5_6 : w4.heap.size < w6.heap.size := Nat.lt_trans lc5_5 z6
  have c6_6 := new_blk hb6
  have lc6_6 : w5.heap.size < w6.heap.size := z6
  clear c1a_5 lc1a_5
  clear c1b_5 lc1b_5
  clear c3_5 lc3_5
  clear c4_5 lc4_5
  clear c5_5 lc5_5
  simp only [B.v]
  go_wp2_with fail
  refine (rfail_any _ _ _ _ _ _).mono ?_
  rintro en w7 ⟨rfl, hb7⟩
  have H7 := on_alloc H6 H6.size hb7
  have z7 := new_lt hb7
  have c1a_7 := keep_blk hb7 c1a_6 lc1a_6
  have lc1a_7 : w.heap.size < w7.heap.size := Nat.lt_trans lc1a_6 z7
  have c1b_7 := keep_blk hb7 c1b_6 lc1b_6
  have lc1b_7 : w.heap.size + 1 < w7.heap.size := Nat.lt_trans lc1b_6 z7
  have c3_7 := keep_blk hb7 c3_6 lc3_6
  have lc3_7 : w2.heap.size < w7.heap.size := Nat.lt_trans lc3_6 z7
  have c4_7 := keep_blk hb7 c4_6 lc4_6
  have lc4_7 : w3.heap.size < w7.heap.size := Nat.lt_trans lc4_6 z7
  have c5_7 := keep_blk hb7 c5_6 lc5_6
  have lc5_7 : w4.heap.size < w7.heap.size := Nat.lt_trans lc5_6 z7
  have c6_7 := keep_blk hb7 c6_6 lc6_6
  have lc6_7 : w5.heap.size < w7.heap.size := Nat.lt_trans lc6_6 z7
  have c7_7 := new_blk hb7
  have lc7_7 : w6.heap.size < w7.heap.size := z7
  clear c1a_6 lc1a_6
  clear c1b_6 lc1b_6
  clear c3_6 lc3_6
  clear c4_6 lc4_6
  clear c5_6 lc5_6
  clear c6_6 lc6_6
  simp only [B.v]
  go_wp2_with fail
  refine (close_any _ _ _ _ _ _).mono ?_
  rintro en w8 ⟨rfl, hb8⟩
  have H8 := on_alloc H7 H7.size hb8
  have z8 := new_lt hb8
  have c1a_8 := keep_blk hb8 c1a_7 lc1a_7
  have lc1a_8 : w.heap.size < w8.heap.size := Nat.lt_trans lc1a_7 z8
  have c1b_8 := keep_blk hb8 c1b_7 lc1b_7
  have lc1b_8 : w.heap.size + 1 < w8.heap.size := Nat.lt_trans lc1b_7 z8
  have c3_8 := keep_blk hb8 c3_7 lc3_7
  have lc3_8 : w2.heap.size < w8.heap.size := Nat.lt_trans lc3_7 z8
  have c4_8 := keep_blk hb8 c4_7 lc4_7
  have lc4_8 : w3.heap.size < w8.heap.size := Nat.lt_trans lc4_7 z8
  have c5_8 := keep_blk hb8 c5_7 lc5_7
  have lc5_8 : w4.heap.size < w8.heap.size := Nat.lt_trans lc5_7 z8
  have c6_8 := keep_blk hb8 c6_7 lc6_7
  have lc6_8 : w5.heap.size < w8.heap.size := Nat.lt_trans lc6_7 z8
  have c7_8 := keep_blk hb8 c7_7 lc7_7
  have lc7_8 : w6.heap.size < w8.heap.size := Nat.lt_trans lc7_7 z8
  have c8_8 := new_blk hb8
  have lc8_8 : w7.heap.size < w8.heap.size := z8
  clear c1a_7 lc1a_7
  clear c1b_7 lc1b_7
  clear c3_7 lc3_7
  clear c4_7 lc4_7
  clear c5_7 lc5_7
  clear c6_7 lc6_7
  clear c7_7 lc7_7
  simp only [B.v]
  go_wp2_with fail
  refine (rclose_any _ _ _ _ _ _).mono ?_
  rintro en w9 ⟨rfl, hb9⟩
  have H9 := on_alloc H8 H8.size hb9
  have z9 := new_lt hb9
  have c1a_9 := keep_blk hb9 c1a_8 lc1a_8
  have lc1a_9 : w.heap.size < w9.heap.size := Nat.lt_trans lc1a_8 z9
  have c1b_9 := keep_blk hb9 c1b_8 lc1b_8
  have lc1b_9 : w.heap.size + 1 < w9.heap.size := Nat.lt_trans lc1b_8 z9
  have c3_9 := keep_blk hb9 c3_8 lc3_8
  have lc3_9 : w2.heap.size < w9.heap.size := Nat.lt_trans lc3_8 z9
  have c4_9 := keep_blk hb9 c4_8 lc4_8
  have lc4_9 : w3.heap.size < w9.heap.size := Nat.lt_trans lc4_8 z9
  have c5_9 := keep_blk hb9 c5_8 lc5_8
  have lc5_9 : w4.heap.size < w9.heap.size := Nat.lt_trans lc5_8 z9
  have c6_9 := keep_blk hb9 c6_8 lc6_8
  have lc6_9 : w5.heap.size < w9.heap.size := Nat.lt_trans lc6_8 z9
  have c7_9 := keep_blk hb9 c7_8 lc7_8
  have lc7_9 : w6.heap.size < w9.heap.size := Nat.lt_trans lc7_8 z9
  have c8_9 := keep_blk hb9 c8_8 lc8_8
  have lc8_9 : w7.heap.size < w9.heap.size := Nat.lt_trans lc8_8 z9
  have c9_9 := new_blk hb9
  have lc9_9 : w8.heap.size < w9.heap.size := z9
  clear c1a_8 lc1a_8
  clear c1b_8 lc1b_8
  clear c3_8 lc3_8
  clear c4_8 lc4_8
  clear c5_8 lc5_8
  clear c6_8 lc6_8
  clear c7_8 lc7_8
  clear c8_8 lc8_8
  simp only [B.v]
  go_wp2_with fail
  refine (start_any _ _ _ _ _).mono ?_
  rintro en w10 ⟨rfl, hb10⟩
  have H10 := on_alloc H9 H9.size hb10
  have z10 := new_lt hb10
  have c1a_10 := keep_blk hb10 c1a_9 lc1a_9
  have lc1a_10 : w.heap.size < w10.heap.size := Nat.lt_trans lc1a_9 z10
  have c1b_10 := keep_blk hb10 c1b_9 lc1b_9
  have lc1b_10 : w.heap.size + 1 < w10.heap.size := Nat.lt_trans lc1b_9 z10
  have c3_10 := keep_blk hb10 c3_9 lc3_9
  have lc3_10 : w2.heap.size < w10.heap.size := Nat.lt_trans lc3_9 z10
  have c4_10 := keep_blk hb10 c4_9 lc4_9
  have lc4_10 : w3.heap.size < w10.heap.size := Nat.lt_trans lc4_9 z10
  have c5_10 := keep_blk hb10 c5_9 lc5_9
  have lc5_10 : w4.heap.size < w10.heap.size := Nat.lt_trans lc5_9 z10
  have c6_10 := keep_blk hb10 c6_9 lc6_9
  have lc6_10 : w5.heap.size < w10.heap.size := Nat.lt_trans lc6_9 z10
  have c7_10 := keep_blk hb10 c7_9 lc7_9
  have lc7_10 : w6.heap.size < w10.heap.size := Nat.lt_trans lc7_9 z10
  have c8_10 := keep_blk hb10 c8_9 lc8_9
  have lc8_10 : w7.heap.size < w10.heap.size := Nat.lt_trans lc8_9 z10
  have c9_10 := keep_blk hb10 c9_9 lc9_9
  have lc9_10 : w8.heap.size < w10.heap.size := Nat.lt_trans lc9_9 z10
  have c10_10 := new_blk hb10
  have lc10_10 : w9.heap.size < w10.heap.size := z10
  clear c1a_9 lc1a_9
  clear c1b_9 lc1b_9
  clear c3_9 lc3_9
  clear c4_9 lc4_9
  clear c5_9 lc5_9
  clear c6_9 lc6_9
  clear c7_9 lc7_9
  clear c8_9 lc8_9
  clear c9_9 lc9_9
  simp only [B.v]
  go_wp2_with fail
  refine (rstart_any _ _ _ _ _).mono ?_
  rintro en w11 ⟨rfl, hb11⟩
  have H11 := on_alloc H10 H10.size hb11
  have z11 := new_lt hb11
  have c1a_11 := keep_blk hb11 c1a_10 lc1a_10
  have lc1a_11 : w.heap.size < w11.heap.size := Nat.lt_trans lc1a_10 z11
  have c1b_11 := keep_blk hb11 c1b_10 lc1b_10
  have lc1b_11 : w.heap.size + 1 < w11.heap.size := Nat.lt_trans lc1b_10 z11
  have c3_11 := keep_blk hb11 c3_10 lc3_10
  have lc3_11 : w2.heap.size < w11.heap.size := Nat.lt_trans lc3_10 z11
  have c4_11 := keep_blk hb11 c4_10 lc4_10
  have lc4_11 : w3.heap.size < w11.heap.size := Nat.lt_trans lc4_10 z11
  have c5_11 := keep_blk hb11 c5_10 lc5_10
  have lc5_11 : w4.heap.size < w11.heap.size := Nat.lt_trans lc5_10 z11
  have c6_11 := keep_blk hb11 c6_10 lc6_10
  have lc6_11 : w5.heap.size < w11.heap.size := Nat.lt_trans lc6_10 z11
  have c7_11 := keep_blk hb11 c7_10 lc7_10
  have lc7_11 : w6.heap.size < w11.heap.size := Nat.lt_trans lc7_10 z11
  have c8_11 := keep_blk hb11 c8_10 lc8_10
  have lc8_11 : w7.heap.size < w11.heap.size := Nat.lt_trans lc8_10 z11
  have c9_11 := keep_blk hb11 c9_10 lc9_10
  have lc9_11 : w8.heap.size < w11.heap.size := Nat.lt_trans lc9_10 z11
  have c10_11 := keep_blk hb11 c10_10 lc10_10
  have lc10_11 : w9.heap.size < w11.heap.size := Nat.lt_trans lc10_10 z11
  have c11_11 := new_blk hb11
  have lc11_11 : w10.heap.size < w11.heap.size := z11
  clear c1a_10 lc1a_10
  clear c1b_10 lc1b_10
  clear c3_10 lc3_10
  clear c4_10 lc4_10
  clear c5_10 lc5_10
  clear c6_10 lc6_10
  clear c7_10 lc7_10
  clear c8_10 lc8_10
  clear c9_10 lc9_10
  clear c10_10 lc10_10
  simp only [B.v]
  have yc1b := alloc_blk (X := .cells #[.int .i64 (start x y z n).1.m, .int .i64 (start x y z n).1.e, .int .i64 (start x y z n).1.o, .int .i64 (start x y z n).1.d, .int .i64 (start x y z n).1.f] 23) c1b_11 lc1b_11
  have yc3 := alloc_blk (X := .cells #[.int .i64 (start x y z n).1.m, .int .i64 (start x y z n).1.e, .int .i64 (start x y z n).1.o, .int .i64 (start x y z n).1.d, .int .i64 (start x y z n).1.f] 23) c3_11 lc3_11
  have yc4 := alloc_blk (X := .cells #[.int .i64 (start x y z n).1.m, .int .i64 (start x y z n).1.e, .int .i64 (start x y z n).1.o, .int .i64 (start x y z n).1.d, .int .i64 (start x y z n).1.f] 23) c4_11 lc4_11
  have yc5 := alloc_blk (X := .cells #[.int .i64 (start x y z n).1.m, .int .i64 (start x y z n).1.e, .int .i64 (start x y z n).1.o, .int .i64 (start x y z n).1.d, .int .i64 (start x y z n).1.f] 23) c5_11 lc5_11
  have yc6 := alloc_blk (X := .cells #[.int .i64 (start x y z n).1.m, .int .i64 (start x y z n).1.e, .int .i64 (start x y z n).1.o, .int .i64 (start x y z n).1.d, .int .i64 (start x y z n).1.f] 23) c6_11 lc6_11
  have yc7 := alloc_blk (X := .cells #[.int .i64 (start x y z n).1.m, .int .i64 (start x y z n).1.e, .int .i64 (start x y z n).1.o, .int .i64 (start x y z n).1.d, .int .i64 (start x y z n).1.f] 23) c7_11 lc7_11
  have yc8 := alloc_blk (X := .cells #[.int .i64 (start x y z n).1.m, .int .i64 (start x y z n).1.e, .int .i64 (start x y z n).1.o, .int .i64 (start x y z n).1.d, .int .i64 (start x y z n).1.f] 23) c8_11 lc8_11
  have yc9 := alloc_blk (X := .cells #[.int .i64 (start x y z n).1.m, .int .i64 (start x y z n).1.e, .int .i64 (start x y z n).1.o, .int .i64 (start x y z n).1.d, .int .i64 (start x y z n).1.f] 23) c9_11 lc9_11
  have yc10 := alloc_blk (X := .cells #[.int .i64 (start x y z n).1.m, .int .i64 (start x y z n).1.e, .int .i64 (start x y z n).1.o, .int .i64 (start x y z n).1.d, .int .i64 (start x y z n).1.f] 23) c10_11 lc10_11
  have yc11 := alloc_blk (X := .cells #[.int .i64 (start x y z n).1.m, .int .i64 (start x y z n).1.e, .int .i64 (start x y z n).1.o, .int .i64 (start x y z n).1.d, .int .i64 (start x y z n).1.f] 23) c11_11 lc11_11
  go_wp2_with fail
  have hW := H11.alloc H11.size (.cells #[.int .i64 (start x y z n).1.m, .int .i64 (start x y z n).1.e, .int .i64 (start x y z n).1.o, .int .i64 (start x y z n).1.d, .int .i64 (start x y z n).1.f] 23)
  have q := fact_blk (alloc_blk (X := .cells #[.int .i64 (start x y z n).1.m, .int .i64 (start x y z n).1.e, .int .i64 (start x y z n).1.o, .int .i64 (start x y z n).1.d, .int .i64 (start x y z n).1.f] 23) c1a_11 lc1a_11) (by simp; omega)
  generalize (World.alloc w11 _) = W at hW q ⊢
  clear c1a_11 lc1a_11 c1b_11 lc1b_11 c3_11 lc3_11 c4_11 lc4_11 c5_11 lc5_11 c6_11 lc6_11 c7_11 lc7_11 c8_11 lc8_11 c9_11 lc9_11 c10_11 lc10_11 c11_11 lc11_11 yc1b yc3 yc4 yc5 yc6 yc7 yc8 yc9 yc10 yc11
  refine wp_region_keep (by kernel_rfl) (by kernel_rfl) ?_
  repeat (first
    | go_big_quiet_skip
    | (go_big_quiet_want
       apply quiet_mk
       · intro w' hw'
         go_simp
         first
           | rfl
           | (go_at_call 19; refine (right_any _ _ _ _ _ _).mono ?_; rintro e w'' ⟨rfl, hb⟩; exact ⟨rfl, below_on hw' hb⟩)
           | (go_at_call 20; refine (rright_any _ _ _ _ _ _).mono ?_; rintro e w'' ⟨rfl, hb⟩; exact ⟨rfl, below_on hw' hb⟩)
           | (go_at_call 21; refine (over_any _ _ _ _ _ _).mono ?_; rintro e w'' ⟨rfl, hb⟩; exact ⟨rfl, below_on hw' hb⟩)
           | (go_at_call 22; refine (rover_any _ _ _ _ _ _).mono ?_; rintro e w'' ⟨rfl, hb⟩; exact ⟨rfl, below_on hw' hb⟩)
           | (go_at_call 23; refine (well_any _ _ _ _ _ _).mono ?_; rintro e w'' ⟨rfl, hb⟩; exact ⟨rfl, below_on hw' hb⟩)
           | (go_at_call 24; refine (rwell_any _ _ _ _ _ _).mono ?_; rintro e w'' ⟨rfl, hb⟩; exact ⟨rfl, below_on hw' hb⟩)
       go_big_quiet_on
       simp only [Act.put, List.setIfInBounds_toArray, List.set_cons_succ, List.set_cons_zero]))
  refine wpQuiet_nil ?_
  intro w' hw'
  go_wp2
  go_ret
  exact ⟨rfl, hW.trans (hw'.mono hW.size)⟩
end Go.Proofs.Ytebkibpdagdmiaa

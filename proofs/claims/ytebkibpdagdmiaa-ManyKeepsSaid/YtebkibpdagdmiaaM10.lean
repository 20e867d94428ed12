/-
  The walk of ManyEnds: it returns true for every batch and every row of picks, and nothing that was there is written. No condition.
-/
import Derived.Test.YtebkibpdagdmiaaM9
import Derived.Test.YtebkibpdagdmiaaOpenKit
namespace Go.Proofs.Ytebkibpdagdmiaa
open Go.RowKit
/-- The cell of an element of a row that came in. -/
theorem row_cell {q : IntKind} {w : World} {a : Option Addr} {len cap : Nat} {zs : List Int} (h : IsRow q w a len cap zs) {k : Nat} (hk : k < len) :
    ∃ bk off, a = some ⟨bk, off, none⟩ ∧ w.cell? ⟨bk, off + k, none⟩ = some (.int q (zs.getD k 0)) := by
  rcases h with ⟨_, h0, _⟩ | ⟨x, rfl, h1, _, h3, h4, _⟩
  · omega
  · have h5 := h4 k (by omega)
    have h6 := h4 0 (by omega)
    obtain ⟨bk, off, spot⟩ := x
    have h7 : w.cell? ⟨bk, off, spot⟩ = some (.int q (zs.getD 0 0)) := by simpa [Addr.add] using h6
    have hs : spot = none := by simpa using World.cell?_spot h7
    subst hs
    refine ⟨bk, off, rfl, ?_⟩
    by_cases h0 : k = 0
    · subst h0; simpa using h7
    · simpa [Addr.add, h0] using h5
theorem set_blk {w : World} {b i : Nat} {xs : Array Value} {v : Value} (h : ∀ j, w.cell? ⟨b, j, none⟩ = xs[j]?) : ∀ j, (w.setCell ⟨b, i, none⟩ v).cell? ⟨b, j, none⟩ = (xs.setIfInBounds i v)[j]? := by
  intro j
  by_cases hij : i = j
  · subst hij
    rw [Array.getElem?_setIfInBounds]
    simp only [if_true]
    by_cases hi : i < xs.size
    · rw [if_pos hi]
      exact World.cell?_setCell_same' w _ v (by rw [h i, Array.getElem?_eq_getElem hi]; rfl)
    · rw [if_neg hi]
      have h0 : w.cell? ⟨b, i, none⟩ = none := by rw [h i]; exact Array.getElem?_eq_none (by omega)
      have := isSome_setCell w ⟨b, i, none⟩ ⟨b, i, none⟩ v
      rw [h0] at this
      simpa using this
  · rw [World.cell?_setCell_other w _ _ v (fun e => hij (by injection e)), h j, Array.getElem?_setIfInBounds, if_neg hij]
theorem other_blk {w : World} {b : Nat} {f : Nat → Option Value} {a : Addr} {v : Value} (h : ∀ j, w.cell? ⟨b, j, none⟩ = f j) (hne : a.block ≠ b) : ∀ j, (w.setCell a v).cell? ⟨b, j, none⟩ = f j := by
  intro j
  rw [World.cell?_setCell_other w _ _ v (by intro e; exact hne (by rw [e])), h j]
theorem set5 {w : World} {b : Nat} {a0 a1 a2 a3 a4 v0 v1 v2 v3 v4 : Value} (h : ∀ j, w.cell? ⟨b, j, none⟩ = (#[a0, a1, a2, a3, a4] : Array Value)[j]?) :
    ∀ j, (((((w.setCell ⟨b, 0, none⟩ v0).setCell ⟨b, 1, none⟩ v1).setCell ⟨b, 2, none⟩ v2).setCell ⟨b, 3, none⟩ v3).setCell ⟨b, 4, none⟩ v4).cell? ⟨b, j, none⟩ = (#[v0, v1, v2, v3, v4] : Array Value)[j]? := by
  have := set_blk (i := 4) (v := v4) (set_blk (i := 3) (v := v3) (set_blk (i := 2) (v := v2) (set_blk (i := 1) (v := v1) (set_blk (i := 0) (v := v0) h))))
  simpa using this
theorem set5b {w : World} {b c : Nat} {a0 a1 a2 a3 a4 v0 v1 v2 v3 v4 x0 x1 x2 x3 x4 : Value} (hne : c ≠ b) (h : ∀ j, w.cell? ⟨b, j, none⟩ = (#[a0, a1, a2, a3, a4] : Array Value)[j]?) :
    ∀ j, ((((((((((w.setCell ⟨c, 0, none⟩ x0).setCell ⟨c, 1, none⟩ x1).setCell ⟨c, 2, none⟩ x2).setCell ⟨c, 3, none⟩ x3).setCell ⟨c, 4, none⟩ x4).setCell ⟨b, 0, none⟩ v0).setCell ⟨b, 1, none⟩ v1).setCell ⟨b, 2, none⟩ v2).setCell ⟨b, 3, none⟩ v3).setCell ⟨b, 4, none⟩ v4).cell? ⟨b, j, none⟩ = (#[v0, v1, v2, v3, v4] : Array Value)[j]? :=
  set5 (other_blk (other_blk (other_blk (other_blk (other_blk h hne) hne) hne) hne) hne)
theorem alloc_free {w : World} {X : Obj} {b : Nat} (h : ∀ j, w.frozen? ⟨b, j, none⟩ = false) (hlt : b < w.heap.size) : ∀ j, (w.alloc X).frozen? ⟨b, j, none⟩ = false := by
  intro j
  rw [← h j]
  exact World.frozen?_of_block (w := w) (Below.heap_alloc w X b hlt)
theorem new_free (w : World) (xs : Array Value) (t : TypeId) : ∀ j, (w.alloc (.cells xs t)).frozen? ⟨w.heap.size, j, none⟩ = false := by
  intro j; go_simp
theorem set_free {w : World} {b : Nat} {a : Addr} {v : Value} (h : ∀ j, w.frozen? ⟨b, j, none⟩ = false) : ∀ j, (w.setCell a v).frozen? ⟨b, j, none⟩ = false := by
  intro j; rw [World.frozen?_setCell]; exact h j
theorem set5_free {w : World} {b : Nat} {a0 a1 a2 a3 a4 : Addr} {v0 v1 v2 v3 v4 : Value} (h : ∀ j, w.frozen? ⟨b, j, none⟩ = false) :
    ∀ j, (((((w.setCell a0 v0).setCell a1 v1).setCell a2 v2).setCell a3 v3).setCell a4 v4).frozen? ⟨b, j, none⟩ = false := set_free (set_free (set_free (set_free (set_free h))))
theorem set5b_free {w : World} {b : Nat} {a0 a1 a2 a3 a4 a5 a6 a7 a8 a9 : Addr} {v0 v1 v2 v3 v4 v5 v6 v7 v8 v9 : Value} (h : ∀ j, w.frozen? ⟨b, j, none⟩ = false) :
    ∀ j, ((((((((((w.setCell a0 v0).setCell a1 v1).setCell a2 v2).setCell a3 v3).setCell a4 v4).setCell a5 v5).setCell a6 v6).setCell a7 v7).setCell a8 v8).setCell a9 v9).frozen? ⟨b, j, none⟩ = false := set5_free (set5_free h)
/-- What holds at the head of each round: so many rounds are over, the batch in the variable is right, and as many fewer are open. -/
def EndsRel (w : World) (o : Int) (i : Value) (wr : World) : Prop :=
  ∃ (k : Nat) (b : B), i = .int .i64 k ∧ (k : Int) + b.o = o ∧ right b = true ∧ (∀ j, wr.cell? ⟨w.heap.size, j, none⟩ = (#[.int .i64 b.m, .int .i64 b.e, .int .i64 b.o, .int .i64 b.d, .int .i64 b.f] : Array Value)[j]?) ∧
    (∀ j, wr.frozen? ⟨w.heap.size, j, none⟩ = false) ∧ Below w.heap.size w wr ∧ w.heap.size < wr.heap.size

set_option maxHeartbeats 1000000 in
theorem ends_bad (m e o d f : Int) (a : Option Addr) (len cap : Nat) (w : World) (hr : right ⟨m, e, o, d, f⟩ = false) : Calls Try.prog 4 #[.agg #[.int .i64 m, .int .i64 e, .int .i64 o, .int .i64 d, .int .i64 f], .slice a len cap] w (Yes w) := by
  go_enter Try.func4, Try.ntmps4
  go_wp2_with fail
  refine (small_any _).mono ?_
  rintro en w1 ⟨rfl, hb1⟩
  have H1 := on_alloc (Below.refl _ _) (Nat.le_refl _) hb1
  have z1 := new_lt hb1
  have c1_1 := new_blk hb1
  have lc1_1 : w.heap.size < w1.heap.size := z1
  go_wp2_with fail
  refine (right_is hr _).mono ?_
  rintro en w2 ⟨rfl, hb2⟩
  have H2 := H1.trans (hb2.mono H1.size)
  have z2 := hb2.size
  have c1_2 := below_blk hb2 c1_1 lc1_1
  have lc1_2 : w.heap.size < w2.heap.size := Nat.lt_of_lt_of_le lc1_1 z2
  clear c1_1 lc1_1
  go_wp2_with fail
  go_ret
  exact ⟨rfl, H2⟩

set_option maxHeartbeats 1000000 in
theorem ends_long (m e o d f : Int) (a : Option Addr) (len cap : Nat) (w : World) (hr : right ⟨m, e, o, d, f⟩ = true) (hl : 50 < len) : Calls Try.prog 4 #[.agg #[.int .i64 m, .int .i64 e, .int .i64 o, .int .i64 d, .int .i64 f], .slice a len cap] w (Yes w) := by
  have hl' : (50 : Int) < (len : Int) := by omega
  go_enter Try.func4, Try.ntmps4
  go_wp2_with fail
  refine (small_any _).mono ?_
  rintro en w1 ⟨rfl, hb1⟩
  have H1 := on_alloc (Below.refl _ _) (Nat.le_refl _) hb1
  have z1 := new_lt hb1
  have c1_1 := new_blk hb1
  have lc1_1 : w.heap.size < w1.heap.size := z1
  go_wp2_with fail
  refine (right_is hr _).mono ?_
  rintro en w2 ⟨rfl, hb2⟩
  have H2 := H1.trans (hb2.mono H1.size)
  have z2 := hb2.size
  have c1_2 := below_blk hb2 c1_1 lc1_1
  have lc1_2 : w.heap.size < w2.heap.size := Nat.lt_of_lt_of_le lc1_1 z2
  clear c1_1 lc1_1
  go_wp2_with fail
  go_ret
  exact ⟨rfl, H2⟩

set_option maxHeartbeats 2000000 in
theorem ends_loop (m e o d f : Int) (a : Option Addr) (len cap : Nat) (zs : List Int) (w : World) (hr : right ⟨m, e, o, d, f⟩ = true) (hl : len ≤ 50) (hrow : IsRow .i64 w a len cap zs) : Calls Try.prog 4 #[.agg #[.int .i64 m, .int .i64 e, .int .i64 o, .int .i64 d, .int .i64 f], .slice a len cap] w (Yes w) := by
  have hl' : (len : Int) ≤ (50 : Int) := by omega
  have hi := right_iff.1 hr
  simp only [] at hi
  have ho : 0 ≤ o ∧ o ≤ 16 := by omega
  clear hi
  go_enter Try.func4, Try.ntmps4
  go_wp2_with fail
  refine (small_any _).mono ?_
  rintro en w1 ⟨rfl, hb1⟩
  have H1 := on_alloc (Below.refl _ _) (Nat.le_refl _) hb1
  have z1 := new_lt hb1
  have c1_1 := new_blk hb1
  have lc1_1 : w.heap.size < w1.heap.size := z1
  go_wp2_with fail
  refine (right_is hr _).mono ?_
  rintro en w2 ⟨rfl, hb2⟩
  have H2 := H1.trans (hb2.mono H1.size)
  have z2 := hb2.size
  have c1_2 := below_blk hb2 c1_1 lc1_1
  have lc1_2 : w.heap.size < w2.heap.size := Nat.lt_of_lt_of_le lc1_1 z2
  clear c1_1 lc1_1
  go_wp2_with fail
  have f2 : ∀ j, w2.frozen? ⟨w.heap.size, j, none⟩ = false := below_free (below_free (w := w.alloc (.cells #[.int .i64 m, .int .i64 e, .int .i64 o, .int .i64 d, .int .i64 f] 23)) (by intro j; go_simp) hb1 (by simp)) hb2 (by assumption)
  have HR := Lib.hid hrow; clear hrow
  have C2 := Lib.hid c1_2; clear c1_2
  go_loopw [7] (fun i wr => EndsRel w o i wr) (fun i _ => (o - intOf i).toNat)
  case atStart => exact ⟨0, ⟨m, e, o, d, f⟩, rfl, by simp, hr, C2.out, f2, H2, lc1_2⟩
  case round =>
    obtain ⟨k, b, rfl, hk, hrb, hc, hf, hbl, hlt⟩ := hrel
    obtain ⟨m1, e1, o1, d1, f1⟩ := b
    simp only [] at hk hc
    have H2' := hbl
    have hi := right_iff.1 hrb
    simp only [] at hi
    have hb1 : 0 ≤ o1 ∧ o1 ≤ 16 := by omega
    have hb2 : 0 ≤ f1 ∧ f1 ≤ 16 := by omega
    by_cases hd : o1 = 0
    · obtain rfl : o1 = 0 := hd
      have hov : over ⟨m1, e1, 0, d1, f1⟩ = true := by simp [over, hrb]
      have hcl : close ⟨m1, e1, 0, d1, f1⟩ = (⟨m1, e1, 0, d1, f1⟩, 0) := by simp [close, hrb]
      have hko : ¬ (k : Int) < o := by omega
      clear hi hk hb1 hb2
      have H2 := H2'
      have c1_2 := hc
      have lc1_2 := hlt
      clear H2' hc
      go_wp2_with fail
      refine (close_is (b := ⟨m1, e1, 0, d1, f1⟩) (k := 0) hcl _).mono ?_
      rintro en w3 ⟨rfl, hb3⟩
      have H3 := H2.trans (hb3.mono H2.size)
      have z3 := hb3.size
      have c1_3 := below_blk hb3 c1_2 lc1_2
      have lc1_3 : w.heap.size < w3.heap.size := Nat.lt_of_lt_of_le lc1_2 z3
      clear c1_2 lc1_2
      simp only [B.v]
      go_wp2_with fail
      have hW := H3.alloc H3.size (.cells #[.int .i64 m1, .int .i64 e1, .int .i64 0, .int .i64 d1, .int .i64 f1] 23)
      have q1 := fact_blk (alloc_blk (X := (.cells #[.int .i64 m1, .int .i64 e1, .int .i64 0, .int .i64 d1, .int .i64 f1] 23)) c1_3 lc1_3) (by simp; omega)
      have q2 := fact_blk (w := w3.alloc (.cells #[.int .i64 m1, .int .i64 e1, .int .i64 0, .int .i64 d1, .int .i64 f1] 23)) (b := w3.heap.size) (new_blk (Below.refl _ _)) (by simp)
      generalize (World.alloc w3 _) = W at hW q1 q2 ⊢
      clear c1_3 lc1_3 hf
      refine wp_region_keep (by kernel_rfl) (by kernel_rfl) ?_
      repeat (first
        | go_big_quiet_skip
        | (go_big_quiet_want
           apply quiet_mk
           · intro w' hw'
             go_simp
             first
               | rfl
               | (go_at_call 21; refine (over_is hov _).mono ?_; rintro e w'' ⟨rfl, hb⟩; exact ⟨rfl, below_on hw' hb⟩)
               | (go_at_call 23; refine (well_any _ _ _ _ _ _).mono ?_; rintro e w'' ⟨rfl, hb⟩; exact ⟨rfl, below_on hw' hb⟩)
           go_big_quiet_on
           simp only [Act.put, List.setIfInBounds_toArray, List.set_cons_succ, List.set_cons_zero]))
      refine wpQuiet_nil ?_
      intro w' hw'
      go_wp2
      go_ret
      exact ⟨rfl, hW.trans (hw'.mono hW.size)⟩
    · by_cases hov : over ⟨m1, e1, o1, d1, f1⟩ = true
      · have hko : (k : Int) < o := by omega
        clear hi hk
        have H2 := H2'
        have c1_2 := hc
        have lc1_2 := hlt
        clear H2' hc
        go_wp2_with fail
        refine (over_is hov _).mono ?_
        rintro en w3 ⟨rfl, hb3⟩
        have H3 := H2.trans (hb3.mono H2.size)
        have z3 := hb3.size
        have c1_3 := below_blk hb3 c1_2 lc1_2
        have lc1_3 : w.heap.size < w3.heap.size := Nat.lt_of_lt_of_le lc1_2 z3
        clear c1_2 lc1_2
        go_wp2_with fail
        go_ret
        exact ⟨rfl, H3⟩
      · have hov' : over ⟨m1, e1, o1, d1, f1⟩ = false := by simpa using hov
        clear hov
        have hn : d1 < e1 := by
          have := hov'
          simp only [over, hrb, Bool.true_and] at this
          simp at this
          omega
        have s1 : step ⟨m1, e1, o1, d1, f1⟩ 1 = (⟨m1, e1, o1 - 1, d1 + 1, f1⟩, 0) := by simp [step, hrb, hov']
        have s2 : step ⟨m1, e1, o1, d1, f1⟩ 2 = (⟨m1, e1, o1 - 1, d1, f1 + 1⟩, 0) := by simp [step, hrb, hov']
        have rc : right ⟨m1, e1, o1 - 1, d1 + 1, f1⟩ = true := right_iff.2 (by simp only []; omega)
        have rd : right ⟨m1, e1, o1 - 1, d1, f1 + 1⟩ = true := right_iff.2 (by simp only []; omega)
        have hko : (k : Int) < o := by omega
        have hkn : ((k + 1 : Nat) : Int) + (o1 - 1) = o := by omega
        have HK := Lib.hid hkn
        have RC := Lib.hid rc
        have RD := Lib.hid rd
        clear hi hk hkn hn rc rd
        by_cases hkl : (k : Int) < (len : Int)
        · obtain ⟨bk, off, rfl, hx⟩ := row_cell HR.out (k := k) (by omega)
          generalize zs.getD k 0 = x at hx
          have hxb := World.block_lt_of_cell? w _ hx
          simp only [] at hxb
          have hx1 := (hbl.cell (p := ⟨bk, off + k, none⟩) hxb).trans hx
          clear hx
          have hk0 : (0 : Int) ≤ (k : Int) := by omega
          have H2 := H2'
          have c1_2 := hc
          have lc1_2 := hlt
          have lc0 := hlt
          clear H2' hc
          go_wp2_with fail
          refine (over_is hov' _).mono ?_
          rintro en w3 ⟨rfl, hb3⟩
          have H3 := H2.trans (hb3.mono H2.size)
          have z3 := hb3.size
          have c1_3 := below_blk hb3 c1_2 lc1_2
          have lc1_3 : w.heap.size < w3.heap.size := Nat.lt_of_lt_of_le lc1_2 z3
          clear c1_2 lc1_2
          have f3 := below_free hf hb3 lc0
          have l3 := lc1_3
          have hx3 := below_fact hx1 _ hb3
          go_wp2_with fail
          refine (fail_is (b := ⟨m1, e1, o1 - 1, d1, f1 + 1⟩) (k := 0) s2 _).mono ?_
          rintro en w4 ⟨rfl, hb4⟩
          have H4 := H3.trans (hb4.mono H3.size)
          have z4 := hb4.size
          have c1_4 := below_blk hb4 c1_3 lc1_3
          have lc1_4 : w.heap.size < w4.heap.size := Nat.lt_of_lt_of_le lc1_3 z4
          clear c1_3 lc1_3
          simp only [B.v]
          have f4 := below_free f3 hb4 l3
          have l4 := lc1_4
          clear f3 l3
          go_wp2_with fail
          · refine (done_is (b := ⟨m1, e1, o1 - 1, d1 + 1, f1⟩) (k := 0) s1 _).mono ?_
            rintro en w5 ⟨rfl, hb5⟩
            have H5 := on_alloc H4 H4.size hb5
            have z5 := new_lt hb5
            have c1_5 := keep_blk hb5 c1_4 lc1_4
            have lc1_5 : w.heap.size < w5.heap.size := Nat.lt_trans lc1_4 z5
            have c5_5 := new_blk hb5
            have lc5_5 : w4.heap.size < w5.heap.size := z5
            clear c1_4 lc1_4
            simp only [B.v]
            have f5 := below_free (alloc_free f4 l4) hb5 (by simp; omega)
            have g5 := below_free (new_free w4 _ 23) hb5 (by simp)
            have hne : w4.heap.size ≠ w.heap.size := by omega
            have l5 := lc1_5
            go_wp2_with fail
            go_roundw
            case rel => exact ⟨k + 1, ⟨m1, e1, o1 - 1, d1 + 1, f1⟩, rfl, HK.out, RC.out, set5b hne c1_5, set5b_free f5, (((((((((H5.setCell (Nat.le_of_lt l4) _).setCell (Nat.le_of_lt l4) _).setCell (Nat.le_of_lt l4) _).setCell (Nat.le_of_lt l4) _).setCell (Nat.le_of_lt l4) _).setCell (Nat.le_refl _) _).setCell (Nat.le_refl _) _).setCell (Nat.le_refl _) _).setCell (Nat.le_refl _) _).setCell (Nat.le_refl _) _, by simp; omega⟩
            case measure => simp [intOf]; omega
          · go_roundw
            case rel => exact ⟨k + 1, ⟨m1, e1, o1 - 1, d1, f1 + 1⟩, rfl, HK.out, RD.out, alloc_blk (set5 c1_4) (by simpa using l4), alloc_free (set5_free f4) (by simpa using l4), ((((((H4.setCell (Nat.le_refl _) _).setCell (Nat.le_refl _) _).setCell (Nat.le_refl _) _).setCell (Nat.le_refl _) _).setCell (Nat.le_refl _) _).alloc (by simp; omega) _), by simp; omega⟩
            case measure => simp [intOf]; omega
        · have hkl' : (len : Int) ≤ (k : Int) := by omega
          have H2 := H2'
          have c1_2 := hc
          have lc1_2 := hlt
          have lc0 := hlt
          clear H2' hc
          go_wp2_with fail
          refine (over_is hov' _).mono ?_
          rintro en w3 ⟨rfl, hb3⟩
          have H3 := H2.trans (hb3.mono H2.size)
          have z3 := hb3.size
          have c1_3 := below_blk hb3 c1_2 lc1_2
          have lc1_3 : w.heap.size < w3.heap.size := Nat.lt_of_lt_of_le lc1_2 z3
          clear c1_2 lc1_2
          have f3 := below_free hf hb3 lc0
          have l3 := lc1_3
          go_wp2_with fail
          refine (fail_is (b := ⟨m1, e1, o1 - 1, d1, f1 + 1⟩) (k := 0) s2 _).mono ?_
          rintro en w4 ⟨rfl, hb4⟩
          have H4 := H3.trans (hb4.mono H3.size)
          have z4 := hb4.size
          have c1_4 := below_blk hb4 c1_3 lc1_3
          have lc1_4 : w.heap.size < w4.heap.size := Nat.lt_of_lt_of_le lc1_3 z4
          clear c1_3 lc1_3
          simp only [B.v]
          have f4 := below_free f3 hb4 l3
          have l4 := lc1_4
          clear f3 l3
          go_wp2_with fail
          go_roundw
          case rel => exact ⟨k + 1, ⟨m1, e1, o1 - 1, d1, f1 + 1⟩, rfl, HK.out, RD.out, alloc_blk (set5 c1_4) (by simpa using l4), alloc_free (set5_free f4) (by simpa using l4), ((((((H4.setCell (Nat.le_refl _) _).setCell (Nat.le_refl _) _).setCell (Nat.le_refl _) _).setCell (Nat.le_refl _) _).setCell (Nat.le_refl _) _).alloc (by simp; omega) _), by simp; omega⟩
          case measure => simp [intOf]; omega
theorem ends_any (m e o d f : Int) (a : Option Addr) (len cap : Nat) (zs : List Int) (w : World) (hrow : IsRow .i64 w a len cap zs) : Calls Try.prog 4 #[.agg #[.int .i64 m, .int .i64 e, .int .i64 o, .int .i64 d, .int .i64 f], .slice a len cap] w (Yes w) := by
  by_cases hr : right ⟨m, e, o, d, f⟩ = true
  · by_cases hl : len ≤ 50
    · exact ends_loop m e o d f a len cap zs w hr hl hrow
    · exact ends_long m e o d f a len cap w hr (by omega)
  · exact ends_bad m e o d f a len cap w (by simpa using hr)
end Go.Proofs.Ytebkibpdagdmiaa

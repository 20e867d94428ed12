/-
  The contract of Play, of the program and of the reference: for every three numbers, every number and every row of at most 1,000 steps.
-/
import Derived.Test.YtebkibpdagdmiaaM12
namespace Go.Proofs.Ytebkibpdagdmiaa
open Go.RowKit
theorem owns_new {w : World} {base : Nat} {x : Value} {t : TypeId} (hb : base ≤ w.heap.size) : (w.alloc (.cells #[x] t)).ownsRow base t 1 (.slice (some ⟨w.heap.size, 0, none⟩) 1 1) 1 [x] :=
  ⟨rfl, .inr ⟨w.heap.size, 1, #[x], rfl, hb, heap_alloc_new w _, Nat.le_refl _, by unfold maxLen; omega, rfl, rfl⟩⟩
theorem owns_new' {w : World} {base n : Nat} {x : Value} {t : TypeId} (hb : base ≤ w.heap.size) (hn : w.heap.size = n) : (w.alloc (.cells #[x] t)).ownsRow base t 1 (.slice (some ⟨n, 0, none⟩) 1 1) 1 [x] := by
  subst hn; exact owns_new hb
theorem play_rel0 {w wr w3 : World} {B1 R : Nat} {b : B} {out : Value} {n : Nat} {xs : List Value} {X : Obj} (hB : Holds wr B1 b) (hR : Holds wr R ⟨0, 0, 0, 0, 0⟩) (hown : wr.ownsRow (B1 + 1) 26 1 out n xs) (hbl : Below w.heap.size w wr)
    (h0 : w.heap.size ≤ B1) (hRB : R < B1) (hg : (wr.alloc X).grownBy w3 out.ownBlock) :
    Holds w3 B1 b ∧ Holds w3 R ⟨0, 0, 0, 0, 0⟩ ∧ Below w.heap.size w w3 :=
  ⟨(hB.alloc X).grown hg (own_ne hown (Nat.lt_succ_self _)), (hR.alloc X).grown hg (own_ne hown (by omega)),
    (hbl.alloc hbl.size X).grown hg (by simp; have := hbl.size; omega) (fun k hk => by have := hown.lt k hk; omega)⟩
theorem rstart_is {x y z n : Int} {b : B} {k : Int} (h : start x y z n = (b, k)) (w : World) : Calls Try.prog 18 #[.agg #[.int .i64 x, .int .i64 y, .int .i64 z], .int .i64 n] w (Two b k w) := by
  have := rstart_any x y z n w; rw [h] at this; exact this

set_option maxHeartbeats 1000000 in
theorem play_bad (x y z n : Int) (v : Value) (s : B) (w : World) (k : Int) (hk : (k != 0) = true) (hs : start x y z n = (s, k)) :
    Calls Try.prog 25 #[.agg #[.int .i64 x, .int .i64 y, .int .i64 z], .int .i64 n, v] w (Played (s, [k]) w) := by
  obtain ⟨m, e, o, d, f⟩ := s
  go_enter Try.func25, Try.ntmps25
  go_wp2_with (go_at_call 17; refine (start_is hs _).mono ?_; rintro en w1 ⟨rfl, hb1⟩; simp only [B.v]; have hR := new_blkb hb1; have z1 := new_lt2b hb1; have z2 : w.heap.size + 1 < w1.heap.size + 1 := Nat.lt_succ_of_lt z1; have fR : ∀ j, w1.frozen? ⟨w.heap.size + 1, j, none⟩ = false := by { have := below_free (new_free (w.alloc (.cells #[.int .i64 x, .int .i64 y, .int .i64 z] 24)) #[.int .i64 0, .int .i64 0, .int .i64 0, .int .i64 0, .int .i64 0] 23) hb1 (by simp); simpa using this }; have H1 := on_alloc2 (Below.refl _ _) (Nat.le_refl _) hb1)
  refine bodyPost_ret (v := .tuple #[.agg #[.int .i64 m, .int .i64 e, .int .i64 o, .int .i64 d, .int .i64 f], .slice (some ⟨w1.heap.size + 1, 0, none⟩) 1 1]) (by simp [results, Try.results25, go_sem, *]) rfl ?_
  exact ⟨_, rfl, owns_new' (by simp; have := H1.size; omega) (by simp), ((below_set5 H1 (Nat.le_succ _)).alloc (by simp; exact H1.size) _).alloc (by simp; have := H1.size; omega) _⟩

set_option maxHeartbeats 1000000 in
theorem rplay_bad (x y z n : Int) (v : Value) (s : B) (w : World) (k : Int) (hk : (k != 0) = true) (hs : start x y z n = (s, k)) :
    Calls Try.prog 26 #[.agg #[.int .i64 x, .int .i64 y, .int .i64 z], .int .i64 n, v] w (Played (s, [k]) w) := by
  obtain ⟨m, e, o, d, f⟩ := s
  go_enter Try.func26, Try.ntmps26
  go_wp2_with (go_at_call 18; refine (rstart_is hs _).mono ?_; rintro en w1 ⟨rfl, hb1⟩; simp only [B.v]; have hR := new_blkb hb1; have z1 := new_lt2b hb1; have z2 : w.heap.size + 1 < w1.heap.size + 1 := Nat.lt_succ_of_lt z1; have fR : ∀ j, w1.frozen? ⟨w.heap.size + 1, j, none⟩ = false := by { have := below_free (new_free (w.alloc (.cells #[.int .i64 x, .int .i64 y, .int .i64 z] 24)) #[.int .i64 0, .int .i64 0, .int .i64 0, .int .i64 0, .int .i64 0] 23) hb1 (by simp); simpa using this }; have H1 := on_alloc2 (Below.refl _ _) (Nat.le_refl _) hb1)
  refine bodyPost_ret (v := .tuple #[.agg #[.int .i64 m, .int .i64 e, .int .i64 o, .int .i64 d, .int .i64 f], .slice (some ⟨w1.heap.size + 1, 0, none⟩) 1 1]) (by simp [results, Try.results26, go_sem, *]) rfl ?_
  exact ⟨_, rfl, owns_new' (by simp; have := H1.size; omega) (by simp), ((below_set5 H1 (Nat.le_succ _)).alloc (by simp; exact H1.size) _).alloc (by simp; have := H1.size; omega) _⟩
set_option maxHeartbeats 1000000 in
theorem rplay_ok (x y z n : Int) (l : List Int) (a : Option Addr) (cap : Nat) (s : B) (w : World) (hl : l.length ≤ 1000) (hs : start x y z n = (s, 0)) (hr : Reads .i64 w a l) :
    Calls Try.prog 26 #[.agg #[.int .i64 x, .int .i64 y, .int .i64 z], .int .i64 n, .slice a l.length cap] w (Played (plays s l) w) := by
  have hl' : (l.length : Int) ≤ 1000 := by omega
  have HR := Lib.hid hr
  clear hr
  obtain ⟨i0, hi, hz0, hz1, hz2⟩ := info_parts info26
  go_enter Try.func26, Try.ntmps26
  go_wp2_with (go_at_call 18; refine (rstart_is hs _).mono ?_; rintro en w1 ⟨rfl, hb1⟩; simp only [B.v])
  have h1 := on_alloc2 (Below.refl _ _) (Nat.le_refl _) hb1
  have z1 := new_lt2b hb1
  have hR1 : Holds w1 (w.heap.size + 1) ⟨0, 0, 0, 0, 0⟩ := ⟨z1, new_blkb hb1, by have := below_free (new_free (w.alloc (.cells #[.int .i64 x, .int .i64 y, .int .i64 z] 24)) #[.int .i64 0, .int .i64 0, .int .i64 0, .int .i64 0, .int .i64 0] 23) hb1 (by simp); simpa using this⟩
  clear hb1
  go_loopw [10, 11] (fun out i wr => PlayRel w w1.heap.size s l out i wr) (fun _ i _ => l.length - (intOf i).toNat)
  case atStart => exact ⟨0, rfl, Nat.zero_le _, Holds.new w1 s, hR1.alloc _, World.ownsRow_nil _ _ _ _, h1.alloc h1.size _⟩
  case round =>
    obtain ⟨k, rfl, hk, hB, hR, hown, hbl⟩ := hrel
    have HP := Lib.hid (plays_step s l k)
    have HL := Lib.hid (plays_len s (l.take k))
    generalize hq : plays s (l.take k) = q at hB hown HP HL
    have HQ := Lib.hid hq
    clear hq
    obtain ⟨⟨m, e, o, d, f⟩, errs⟩ := q
    simp only [] at hB hown HP HL
    have HB := Lib.hid hB
    obtain ⟨cB1, cB2, cB3⟩ := hB
    simp only [] at cB2
    by_cases hlt : k < l.length
    · obtain ⟨g, off, rfl, hg, hx⟩ := HR.out k hlt
      generalize hxx : l.getD k 0 = x1 at hx
      have HX := Lib.hid hxx
      clear hxx
      have hx1 := (hbl.cell (p := ⟨g, off + k, none⟩) hg).trans hx
      clear hx
      have hlt' : (k : Int) < (l.length : Int) := by omega
      have h0 : (0 : Int) ≤ (k : Int) := by omega
      have hsz : w1.heap.size + 1 ≤ wr.heap.size := cB1
      have hel : errs.length ≤ 1000 := by have := HL.out; simp at this; omega
      by_cases hx : x1 = 0
      · obtain rfl : x1 = 0 := hx
        have he : (pstep ⟨m, e, o, d, f⟩ 0).2 = (step ⟨m, e, o, d, f⟩ 0).2 := rfl
        go_wp2_with (first
          | (go_at_call 10; refine (radd_any _ _ _ _ _ _).mono ?_; rintro en w2 ⟨rfl, hb2⟩; have c2 := below_blk hb2 cB2 cB1; have f2 := below_free cB3 hb2 cB1; have z2 := Nat.lt_of_lt_of_le cB1 hb2.size; have o2 := owns_below hown hb2; have hz9 := hb2.size; simp only [B.v])
          | (at_builtin; refine wpList_append_own _ rfl _ _ 36 rfl (w1.heap.size + 1) 26 i0 (.int .i64 0) 1 8 Try.underlying36 hi hz0 hz1 hz2 rfl (by decide) _ _ _ rfl ((owns_set5 o2 (Nat.lt_succ_self _)).alloc _) ⟨w2.heap.size, 0, none⟩ 1 1 [_] rfl rfl (cell_one_at (by simp)) (by simp [Value.oneCell']) (by unfold maxLen; omega) (by omega) (by simp; omega) ?_; intro v' w3 hown' hgrow _))
        have RR := rel_next (s := s) (b := ⟨m, e, o, d, f⟩) hlt (by rw [HP.out hlt, HX.out]) he (play_rel HB.out hR hown hbl hb2 h1.size hR1.1 hgrow) hown'
        go_roundw
        case rel => exact RR
        case measure => simp [intOf]; omega
      by_cases hx1 : x1 = 1
      · obtain rfl : x1 = 1 := hx1
        have he : (pstep ⟨m, e, o, d, f⟩ 1).2 = (step ⟨m, e, o, d, f⟩ 1).2 := rfl
        go_wp2_with (first
          | (go_at_call 12; refine (rdone_any _ _ _ _ _ _).mono ?_; rintro en w2 ⟨rfl, hb2⟩; have c2 := below_blk hb2 cB2 cB1; have f2 := below_free cB3 hb2 cB1; have z2 := Nat.lt_of_lt_of_le cB1 hb2.size; have o2 := owns_below hown hb2; have hz9 := hb2.size; simp only [B.v])
          | (at_builtin; refine wpList_append_own _ rfl _ _ 36 rfl (w1.heap.size + 1) 26 i0 (.int .i64 0) 1 8 Try.underlying36 hi hz0 hz1 hz2 rfl (by decide) _ _ _ rfl ((owns_set5 o2 (Nat.lt_succ_self _)).alloc _) ⟨w2.heap.size, 0, none⟩ 1 1 [_] rfl rfl (cell_one_at (by simp)) (by simp [Value.oneCell']) (by unfold maxLen; omega) (by omega) (by simp; omega) ?_; intro v' w3 hown' hgrow _))
        have RR := rel_next (s := s) (b := ⟨m, e, o, d, f⟩) hlt (by rw [HP.out hlt, HX.out]) he (play_rel HB.out hR hown hbl hb2 h1.size hR1.1 hgrow) hown'
        go_roundw
        case rel => exact RR
        case measure => simp [intOf]; omega
      by_cases hx2 : x1 = 2
      · obtain rfl : x1 = 2 := hx2
        have he : (pstep ⟨m, e, o, d, f⟩ 2).2 = (step ⟨m, e, o, d, f⟩ 2).2 := rfl
        go_wp2_with (first
          | (go_at_call 14; refine (rfail_any _ _ _ _ _ _).mono ?_; rintro en w2 ⟨rfl, hb2⟩; have c2 := below_blk hb2 cB2 cB1; have f2 := below_free cB3 hb2 cB1; have z2 := Nat.lt_of_lt_of_le cB1 hb2.size; have o2 := owns_below hown hb2; have hz9 := hb2.size; simp only [B.v])
          | (at_builtin; refine wpList_append_own _ rfl _ _ 36 rfl (w1.heap.size + 1) 26 i0 (.int .i64 0) 1 8 Try.underlying36 hi hz0 hz1 hz2 rfl (by decide) _ _ _ rfl ((owns_set5 o2 (Nat.lt_succ_self _)).alloc _) ⟨w2.heap.size, 0, none⟩ 1 1 [_] rfl rfl (cell_one_at (by simp)) (by simp [Value.oneCell']) (by unfold maxLen; omega) (by omega) (by simp; omega) ?_; intro v' w3 hown' hgrow _))
        have RR := rel_next (s := s) (b := ⟨m, e, o, d, f⟩) hlt (by rw [HP.out hlt, HX.out]) he (play_rel HB.out hR hown hbl hb2 h1.size hR1.1 hgrow) hown'
        go_roundw
        case rel => exact RR
        case measure => simp [intOf]; omega
      · have hout : x1 < 0 ∨ 2 < x1 := by omega
        have he : (pstep ⟨m, e, o, d, f⟩ x1).2 = 0 := by simp only [pstep]; rw [if_pos hout]
        have hst : (step ⟨m, e, o, d, f⟩ x1).1 = ⟨m, e, o, d, f⟩ := step_else_fst hout
        have n0 : (x1 == 0) = false := by simpa using hx
        have n1 : (x1 == 1) = false := by simpa using hx1
        have n2 : (x1 == 2) = false := by simpa using hx2
        have HS := Lib.hid hst
        have HE := Lib.hid he
        clear hx hx1 hx2 hout hst he
        go_wp2_with ((at_builtin; refine wpList_append_own _ rfl _ _ 36 rfl (w1.heap.size + 1) 26 i0 (.int .i64 0) 1 8 Try.underlying36 hi hz0 hz1 hz2 rfl (by decide) _ _ _ rfl (hown.alloc _) ⟨wr.heap.size, 0, none⟩ 1 1 [_] rfl rfl (cell_one_at (by simp)) (by simp [Value.oneCell']) (by unfold maxLen; omega) (by omega) (by simp; omega) ?_; intro v' w3 hown' hgrow _))
        have RR := rel_next (s := s) (b := ⟨m, e, o, d, f⟩) hlt (by rw [HP.out hlt, HX.out]) HE.out (by rw [HS.out]; exact play_rel0 HB.out hR hown hbl h1.size hR1.1 hgrow) hown'
        go_roundw
        case rel => exact RR
        case measure => simp [intOf]; omega
    · have hkl : k = l.length := by omega
      have hlt' : ¬ (k : Int) < (l.length : Int) := by omega
      have hpl : plays s l = (⟨m, e, o, d, f⟩, errs) := by
        have := HQ.out
        rwa [hkl, List.take_length] at this
      have HPL := Lib.hid hpl
      clear hkl hpl HP HL HQ
      have HR1 := Lib.hid hR
      obtain ⟨cR1, cR2, cR3⟩ := hR
      simp only [] at cR2
      go_wp2
      refine bodyPost_ret (v := .tuple #[.agg #[.int .i64 m, .int .i64 e, .int .i64 o, .int .i64 d, .int .i64 f], _]) (by simp [results, Try.results26, go_sem, *]; rfl) rfl ?_
      rw [HPL.out]
      have hlo : w.heap.size + 1 < w1.heap.size + 1 := by have := hR1.1; omega
      exact ⟨_, rfl, ownsRow_base (owns_set5 hown hlo) (by omega), below_set5 hbl (by omega)⟩

theorem played_of {x y z n : Int} {l : List Int} : (start x y z n).2 = 0 ∧ play x y z n l = plays (start x y z n).1 l ∨ ((start x y z n).2 != 0) = true ∧ play x y z n l = ((start x y z n).1, [(start x y z n).2]) := by
  by_cases h : (start x y z n).2 = 0
  · exact .inl ⟨h, by unfold play; rw [if_pos h]⟩
  · exact .inr ⟨by simpa using h, by unfold play; rw [if_neg h]⟩
theorem play_any (x y z n : Int) (l : List Int) (a : Option Addr) (cap : Nat) (w : World) (hl : l.length ≤ 1000) (hr : Reads .i64 w a l) :
    Calls Try.prog 25 #[.agg #[.int .i64 x, .int .i64 y, .int .i64 z], .int .i64 n, .slice a l.length cap] w (Played (play x y z n l) w) := by
  rcases played_of (x := x) (y := y) (z := z) (n := n) (l := l) with ⟨h, e⟩ | ⟨h, e⟩
  · rw [e]; exact play_ok x y z n l a cap _ w hl (by rw [← h]) hr
  · rw [e]; exact play_bad x y z n _ _ w _ h rfl
theorem rplay_any (x y z n : Int) (l : List Int) (a : Option Addr) (cap : Nat) (w : World) (hl : l.length ≤ 1000) (hr : Reads .i64 w a l) :
    Calls Try.prog 26 #[.agg #[.int .i64 x, .int .i64 y, .int .i64 z], .int .i64 n, .slice a l.length cap] w (Played (play x y z n l) w) := by
  rcases played_of (x := x) (y := y) (z := z) (n := n) (l := l) with ⟨h, e⟩ | ⟨h, e⟩
  · rw [e]; exact rplay_ok x y z n l a cap _ w hl (by rw [← h]) hr
  · rw [e]; exact rplay_bad x y z n _ _ w _ h rfl
end Go.Proofs.Ytebkibpdagdmiaa

/-
  The contract of Play: the batch and the row of errors that plain Lean tells, for every three numbers, every number and every row of at most 1,000 steps.
-/
import Derived.Test.YtebkibpdagdmiaaM11
import Derived.Maps.AppendAt
namespace Go.Proofs.Ytebkibpdagdmiaa
open Go.RowKit
theorem info26 : (Try.prog.info? 26).map (fun i => (i.zero, i.size, i.bytes)) = some (some (.int .i64 0), 1, 8) := by kernel_rfl
/-- What a call of Play hands back: the batch, and a slice of new memory that holds the errors. -/
def Played (r : B × List Int) (w : World) (en : Ending) (w' : World) : Prop :=
  ∃ v, en = .returned (.tuple #[r.1.v, v]) ∧ w'.ownsRow w.heap.size 26 1 v r.2.length (r.2.map (.int .i64)) ∧ Below w.heap.size w w'
theorem grown_blk {w w' : World} {row : Option Nat} {b : Nat} {f : Nat → Option Value} (hg : w.grownBy w' row) (h : ∀ j, w.cell? ⟨b, j, none⟩ = f j) (hlt : b < w.heap.size) (hne : some b ≠ row) : ∀ j, w'.cell? ⟨b, j, none⟩ = f j := by
  intro j; rw [World.cell?_of_block (w := w) (hg.block b hlt hne)]; exact h j
theorem grown_free {w w' : World} {row : Option Nat} {b : Nat} (hg : w.grownBy w' row) (h : ∀ j, w.frozen? ⟨b, j, none⟩ = false) (hlt : b < w.heap.size) (hne : some b ≠ row) : ∀ j, w'.frozen? ⟨b, j, none⟩ = false := by
  intro j; rw [World.frozen?_of_block (w := w) (hg.block b hlt hne)]; exact h j
/-- A batch in memory that may be written. -/
def Holds (w : World) (g : Nat) (b : B) : Prop :=
  g < w.heap.size ∧ (∀ j, w.cell? ⟨g, j, none⟩ = (#[.int .i64 b.m, .int .i64 b.e, .int .i64 b.o, .int .i64 b.d, .int .i64 b.f] : Array Value)[j]?) ∧ (∀ j, w.frozen? ⟨g, j, none⟩ = false)
theorem Holds.below {w w1 : World} {g : Nat} {b : B} (h : Holds w g b) (hb : Below w.heap.size w w1) : Holds w1 g b :=
  ⟨Nat.lt_of_lt_of_le h.1 hb.size, below_blk hb h.2.1 h.1, below_free h.2.2 hb h.1⟩
theorem Holds.alloc {w : World} {g : Nat} {b : B} (h : Holds w g b) (X : Obj) : Holds (w.alloc X) g b :=
  ⟨by have := h.1; simp; omega, alloc_blk h.2.1 h.1, alloc_free h.2.2 h.1⟩
theorem Holds.new (w : World) (b : B) : Holds (w.alloc (.cells #[.int .i64 b.m, .int .i64 b.e, .int .i64 b.o, .int .i64 b.d, .int .i64 b.f] 23)) w.heap.size b :=
  ⟨by simp, new_blk (Below.refl _ _), new_free _ _ _⟩
theorem Holds.set {w : World} {g : Nat} {b : B} (h : Holds w g b) (c : B) : Holds (((((w.setCell ⟨g, 0, none⟩ (.int .i64 c.m)).setCell ⟨g, 1, none⟩ (.int .i64 c.e)).setCell ⟨g, 2, none⟩ (.int .i64 c.o)).setCell ⟨g, 3, none⟩ (.int .i64 c.d)).setCell ⟨g, 4, none⟩ (.int .i64 c.f)) g c :=
  ⟨by simpa using h.1, set5 h.2.1, set5_free h.2.2⟩
theorem Holds.grown {w w1 : World} {g : Nat} {b : B} {row : Option Nat} (h : Holds w g b) (hg : w.grownBy w1 row) (hne : some g ≠ row) : Holds w1 g b :=
  ⟨Nat.lt_of_lt_of_le h.1 hg.size, grown_blk hg h.2.1 h.1 hne, grown_free hg h.2.2 h.1 hne⟩
theorem Holds.other {w : World} {g : Nat} {b : B} (h : Holds w g b) {a : Addr} (hne : a.block ≠ g) (v : Value) : Holds (w.setCell a v) g b :=
  ⟨by simpa using h.1, other_blk h.2.1 hne, set_free h.2.2⟩
theorem owns_set5 {w : World} {base : Nat} {t : TypeId} {n g : Nat} {v v0 v1 v2 v3 v4 : Value} {xs : List Value} (h : w.ownsRow base t 1 v n xs) (hg : g < base) :
    (((((w.setCell ⟨g, 0, none⟩ v0).setCell ⟨g, 1, none⟩ v1).setCell ⟨g, 2, none⟩ v2).setCell ⟨g, 3, none⟩ v3).setCell ⟨g, 4, none⟩ v4).ownsRow base t 1 v n xs :=
  ownsRow_setCell_below (ownsRow_setCell_below (ownsRow_setCell_below (ownsRow_setCell_below (ownsRow_setCell_below h hg _) hg _) hg _) hg _) hg _
theorem below_set5 {B0 : Nat} {a w : World} {g : Nat} {v0 v1 v2 v3 v4 : Value} (h : Below B0 a w) (hg : B0 ≤ g) :
    Below B0 a (((((w.setCell ⟨g, 0, none⟩ v0).setCell ⟨g, 1, none⟩ v1).setCell ⟨g, 2, none⟩ v2).setCell ⟨g, 3, none⟩ v3).setCell ⟨g, 4, none⟩ v4) :=
  ((((h.setCell hg _).setCell hg _).setCell hg _).setCell hg _).setCell hg _
theorem cell_one_at {w : World} {n : Nat} (hn : w.heap.size = n) {x : Value} {t : TypeId} : ∀ j u, [x][j]? = some u → (w.alloc (.cells #[x] t)).cell? ((⟨n, 0, none⟩ : Addr).add j) = some u := by
  subst hn; exact cell_one_new w x t
theorem ownsRow_base {w : World} {base base' : Nat} {t : TypeId} {n : Nat} {v : Value} {xs : List Value} (h : w.ownsRow base t 1 v n xs) (hb : base' ≤ base) : w.ownsRow base' t 1 v n xs := by
  refine ⟨h.1, ?_⟩
  rcases h.2 with h2 | ⟨g, cap, cur, hv, hg, r⟩
  · exact .inl h2
  · exact .inr ⟨g, cap, cur, hv, Nat.le_trans hb hg, r⟩
theorem own_ne {w : World} {base : Nat} {t : TypeId} {n g : Nat} {v : Value} {xs : List Value} (h : w.ownsRow base t 1 v n xs) (hg : g < base) : some g ≠ v.ownBlock := by
  intro e
  have := h.lt g e.symm
  omega

/-- What holds at the head of each round of Play: so many steps are done. B1 holds the batch, R the result's place. -/
def PlayRel (w : World) (B1 : Nat) (s : B) (l : List Int) (out i : Value) (wr : World) : Prop :=
  ∃ k : Nat, i = .int .i64 k ∧ k ≤ l.length ∧ Holds wr B1 (plays s (l.take k)).1 ∧ Holds wr (w.heap.size + 1) ⟨0, 0, 0, 0, 0⟩ ∧
    wr.ownsRow (B1 + 1) 26 1 out (plays s (l.take k)).2.length ((plays s (l.take k)).2.map (.int .i64)) ∧ Below w.heap.size w wr
theorem play_rel {w wr w2 w3 : World} {B1 R : Nat} {b c : B} {out : Value} {n : Nat} {xs : List Value} {X : Obj} (hB : Holds wr B1 b) (hR : Holds wr R ⟨0, 0, 0, 0, 0⟩) (hown : wr.ownsRow (B1 + 1) 26 1 out n xs) (hbl : Below w.heap.size w wr)
    (hb2 : Below wr.heap.size wr w2) (h0 : w.heap.size ≤ B1) (hRB : R < B1)
    (hg : ((((((w2.setCell ⟨B1, 0, none⟩ (.int .i64 c.m)).setCell ⟨B1, 1, none⟩ (.int .i64 c.e)).setCell ⟨B1, 2, none⟩ (.int .i64 c.o)).setCell ⟨B1, 3, none⟩ (.int .i64 c.d)).setCell ⟨B1, 4, none⟩ (.int .i64 c.f)).alloc X).grownBy w3 out.ownBlock) :
    Holds w3 B1 c ∧ Holds w3 R ⟨0, 0, 0, 0, 0⟩ ∧ Below w.heap.size w w3 := by
  have hne : B1 ≠ R := by omega
  refine ⟨(((hB.below hb2).set c).alloc X).grown hg (own_ne hown (Nat.lt_succ_self _)), ?_, ?_⟩
  · exact ((((((((hR.below hb2).other hne _).other hne _).other hne _).other hne _).other hne _).alloc X).grown hg (own_ne hown (by omega)))
  · refine ((below_set5 (below_on' hbl (hb2.mono (Nat.le_refl _))) h0).alloc ?_ X).grown hg ?_ (fun k hk => ?_)
    · simp; exact Nat.le_trans hbl.size hb2.size
    · simp; have := hbl.size; have := hb2.size; omega
    · have := hown.lt k hk; omega
theorem rel_next {w : World} {B1 : Nat} {s b : B} {l errs : List Int} {k : Nat} {x1 err : Int} {v : Value} {w3 : World} (hk : k < l.length) (hp : plays s (l.take (k + 1)) = ((pstep b x1).1, errs ++ [(pstep b x1).2])) (he : (pstep b x1).2 = err)
    (h : Holds w3 B1 (step b x1).1 ∧ Holds w3 (w.heap.size + 1) ⟨0, 0, 0, 0, 0⟩ ∧ Below w.heap.size w w3) (ho : w3.ownsRow (B1 + 1) 26 1 v (errs.length + 1) (errs.map (.int .i64) ++ [.int .i64 err])) :
    PlayRel w B1 s l v (.int .i64 ((k : Int) + 1)) w3 := by
  subst he
  refine ⟨k + 1, rfl, hk, ?_, h.2.1, ?_, h.2.2⟩
  · rw [hp]; exact h.1
  · rw [hp]; simpa using ho
set_option maxHeartbeats 1000000 in
theorem play_ok (x y z n : Int) (l : List Int) (a : Option Addr) (cap : Nat) (s : B) (w : World) (hl : l.length ≤ 1000) (hs : start x y z n = (s, 0)) (hr : Reads .i64 w a l) :
    Calls Try.prog 25 #[.agg #[.int .i64 x, .int .i64 y, .int .i64 z], .int .i64 n, .slice a l.length cap] w (Played (plays s l) w) := by
  have hl' : (l.length : Int) ≤ 1000 := by omega
  have HR := Lib.hid hr
  clear hr
  obtain ⟨i0, hi, hz0, hz1, hz2⟩ := info_parts info26
  go_enter Try.func25, Try.ntmps25
  go_wp2_with (go_at_call 17; refine (start_is hs _).mono ?_; rintro en w1 ⟨rfl, hb1⟩; simp only [B.v])
  have h1 := on_alloc2 (Below.refl _ _) (Nat.le_refl _) hb1
  have z1 := new_lt2b hb1
  have hR1 : Holds w1 (w.heap.size + 1) ⟨0, 0, 0, 0, 0⟩ := ⟨z1, new_blkb hb1, by have := below_free (new_free (w.alloc (.cells #[.int .i64 x, .int .i64 y, .int .i64 z] 24)) #[.int .i64 0, .int .i64 0, .int .i64 0, .int .i64 0, .int .i64 0] 23) hb1 (by simp); simpa using this⟩
  clear hb1
  go_loopw [10, 26] (fun out i wr => PlayRel w w1.heap.size s l out i wr) (fun _ i _ => l.length - (intOf i).toNat)
  case atStart => exact ⟨0, rfl, Nat.zero_le _, Holds.new w1 s, hR1.alloc _, World.ownsRow_nil _ _ _ _, h1.alloc h1.size _⟩
  case round =>
    obtain ⟨k, rfl, hk, hB, hR, hown, hbl⟩ := hrel
    have HP := Lib.hid (plays_step s l k)
    have HL := Lib.hid (plays_len s (l.take k))
    generalize hq : plays s (l.take k) = q at hB hown HP HL
    have HQ := Lib.hid hq
    clear hq
    obtain ⟨⟨m, e, o, d, f⟩, errs⟩ := q
    simp only [] at hB hown HP HL
    have HB := Lib.hid hB
    obtain ⟨cB1, cB2, cB3⟩ := hB
    simp only [] at cB2
    by_cases hlt : k < l.length
    · obtain ⟨g, off, rfl, hg, hx⟩ := HR.out k hlt
      generalize hxx : l.getD k 0 = x1 at hx
      have HX := Lib.hid hxx
      clear hxx
      have hx1 := (hbl.cell (p := ⟨g, off + k, none⟩) hg).trans hx
      clear hx
      have hlt' : (k : Int) < (l.length : Int) := by omega
      have h0 : (0 : Int) ≤ (k : Int) := by omega
      have hsz : w1.heap.size + 1 ≤ wr.heap.size := cB1
      have hel : errs.length ≤ 1000 := by have := HL.out; simp at this; omega
      rcases Int.lt_or_le x1 0 with hin | hin1
      · have he : (pstep ⟨m, e, o, d, f⟩ x1).2 = 0 := by simp [pstep, hin]
        go_wp2_with (first
          | (go_at_call 29; refine (step_any _ _ _ _ _ _ _).mono ?_; rintro en w2 ⟨rfl, hb2⟩; have c2 := below_blk hb2 cB2 cB1; have f2 := below_free cB3 hb2 cB1; have z2 := Nat.lt_of_lt_of_le cB1 hb2.size; have o2 := owns_below hown hb2; have hz9 := hb2.size; simp only [B.v])
          | (at_builtin; refine wpList_append_own _ rfl _ _ 36 rfl (w1.heap.size + 1) 26 i0 (.int .i64 0) 1 8 Try.underlying36 hi hz0 hz1 hz2 rfl (by decide) _ _ _ rfl ((owns_set5 o2 (Nat.lt_succ_self _)).alloc _) ⟨w2.heap.size, 0, none⟩ 1 1 [_] rfl rfl (cell_one_at (by simp)) (by simp [Value.oneCell']) (by unfold maxLen; omega) (by omega) (by simp; omega) ?_; intro v' w3 hown' hgrow _))
        have RR := rel_next (s := s) (b := ⟨m, e, o, d, f⟩) hlt (by rw [HP.out hlt, HX.out]) he (play_rel HB.out hR hown hbl hb2 h1.size hR1.1 hgrow) hown'
        go_roundw
        case rel => exact RR
        case measure => simp [intOf]; omega
      rcases Int.lt_or_le 2 x1 with hin | hin2
      · have he : (pstep ⟨m, e, o, d, f⟩ x1).2 = 0 := by simp [pstep, hin]
        go_wp2_with (first
          | (go_at_call 29; refine (step_any _ _ _ _ _ _ _).mono ?_; rintro en w2 ⟨rfl, hb2⟩; have c2 := below_blk hb2 cB2 cB1; have f2 := below_free cB3 hb2 cB1; have z2 := Nat.lt_of_lt_of_le cB1 hb2.size; have o2 := owns_below hown hb2; have hz9 := hb2.size; simp only [B.v])
          | (at_builtin; refine wpList_append_own _ rfl _ _ 36 rfl (w1.heap.size + 1) 26 i0 (.int .i64 0) 1 8 Try.underlying36 hi hz0 hz1 hz2 rfl (by decide) _ _ _ rfl ((owns_set5 o2 (Nat.lt_succ_self _)).alloc _) ⟨w2.heap.size, 0, none⟩ 1 1 [_] rfl rfl (cell_one_at (by simp)) (by simp [Value.oneCell']) (by unfold maxLen; omega) (by omega) (by simp; omega) ?_; intro v' w3 hown' hgrow _))
        have RR := rel_next (s := s) (b := ⟨m, e, o, d, f⟩) hlt (by rw [HP.out hlt, HX.out]) he (play_rel HB.out hR hown hbl hb2 h1.size hR1.1 hgrow) hown'
        go_roundw
        case rel => exact RR
        case measure => simp [intOf]; omega
      · have he : (pstep ⟨m, e, o, d, f⟩ x1).2 = (step ⟨m, e, o, d, f⟩ x1).2 := by simp only [pstep]; rw [if_neg (by omega)]
        go_wp2_with (first
          | (go_at_call 29; refine (step_any _ _ _ _ _ _ _).mono ?_; rintro en w2 ⟨rfl, hb2⟩; have c2 := below_blk hb2 cB2 cB1; have f2 := below_free cB3 hb2 cB1; have z2 := Nat.lt_of_lt_of_le cB1 hb2.size; have o2 := owns_below hown hb2; have hz9 := hb2.size; simp only [B.v])
          | (at_builtin; refine wpList_append_own _ rfl _ _ 36 rfl (w1.heap.size + 1) 26 i0 (.int .i64 0) 1 8 Try.underlying36 hi hz0 hz1 hz2 rfl (by decide) _ _ _ rfl ((owns_set5 o2 (Nat.lt_succ_self _)).alloc _) ⟨w2.heap.size, 0, none⟩ 1 1 [_] rfl rfl (cell_one_at (by simp)) (by simp [Value.oneCell']) (by unfold maxLen; omega) (by omega) (by simp; omega) ?_; intro v' w3 hown' hgrow _))
        have RR := rel_next (s := s) (b := ⟨m, e, o, d, f⟩) hlt (by rw [HP.out hlt, HX.out]) he (play_rel HB.out hR hown hbl hb2 h1.size hR1.1 hgrow) hown'
        go_roundw
        case rel => exact RR
        case measure => simp [intOf]; omega
    · have hkl : k = l.length := by omega
      have hlt' : ¬ (k : Int) < (l.length : Int) := by omega
      have hpl : plays s l = (⟨m, e, o, d, f⟩, errs) := by
        have := HQ.out
        rwa [hkl, List.take_length] at this
      have HPL := Lib.hid hpl
      clear hkl hpl HP HL HQ
      have HR1 := Lib.hid hR
      obtain ⟨cR1, cR2, cR3⟩ := hR
      simp only [] at cR2
      go_wp2
      refine bodyPost_ret (v := .tuple #[.agg #[.int .i64 m, .int .i64 e, .int .i64 o, .int .i64 d, .int .i64 f], _]) (by simp [results, Try.results25, go_sem, *]; rfl) rfl ?_
      rw [HPL.out]
      have hlo : w.heap.size + 1 < w1.heap.size + 1 := by have := hR1.1; omega
      exact ⟨_, rfl, ownsRow_base (owns_set5 hown hlo) (by omega), below_set5 hbl (by omega)⟩
end Go.Proofs.Ytebkibpdagdmiaa

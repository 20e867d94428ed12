/-
  Contracts and plain laws, part 42 (texts: S18). No condition but what each states.
-/
import Derived.Test.YtopemjbakpahfaaSn41
/-
  The small case of the statements on stores comes out right. No condition.
-/
namespace Go.Proofs.Ytopemjbakpahfaa
open Go.RowKit Disk Jour Crc Slot
set_option linter.unusedSimpArgs false
set_option linter.unusedVariables false
def z0 : St := st0 2 12
def z1 : St := apS z0 [97]
def z2 : St := apS z1 [98]
def z3 : St := svS z2 [99]
def z4 : St := apS z3 [100]
theorem Held.lit {n0 : Nat} {H : Nat → Prop} {w : World} {S B : Nat} {d : Dev} {s : St} (h : Held n0 H w S B d s) (X : Obj) : Held n0 (fun k => k = w.heap.size) (w.alloc X) S B d s :=
  h.ext (below_alloc w X) (fun k hk => .inr (by subst hk; simp))
theorem Held.append_lit {n0 : Nat} {H : Nat → Prop} {w : World} {S B : Nat} {d : Dev} {s : St} (h : Held n0 H w S B d s) (l : List UInt8) (xs : Array Value) (fr : Nat × Nat) (n c g : Nat) (hn : l.length = n) (hc : l.length ≤ c) (hx : xs = (l.map byteV).toArray) (hg : w.heap.size = g) (hb4 : l.length ≤ 4096)
    (hp : d.pend.length + 33000 ≤ 90000) (hw : d.writes + 33000 ≤ 90000) (hy : d.syncs ≤ 90000) :
    Calls Try.prog 71 #[.pointer (some ⟨S, 0, none⟩), .slice (some ⟨g, 0, none⟩) n c] (w.alloc (.cells xs 5 fr)) (HeldOf n0 (fun k => k = w.heap.size) (w.alloc (.cells xs 5 fr)) S B (sappend d s l).1 (sappend d s l).2.1 (sappend d s l).2.2) := by
  subst hn hg
  exact (h.lit (.cells xs 5 fr)).append hc (fun e => by cases e) (RB.lit w l xs fr _ rfl hx) (fun g o e => by cases e; rfl) hb4 hp hw hy
theorem Held.save_lit {n0 : Nat} {H : Nat → Prop} {w : World} {S B : Nat} {d : Dev} {s : St} (h : Held n0 H w S B d s) (l : List UInt8) (xs : Array Value) (fr : Nat × Nat) (n c g : Nat) (hn : l.length = n) (hc : l.length ≤ c) (hx : xs = (l.map byteV).toArray) (hg : w.heap.size = g) (hb4 : l.length ≤ 4096)
    (hp : d.pend.length + 33000 ≤ 90000) (hw : d.writes + 33000 ≤ 90000) (hy : d.syncs ≤ 90000) :
    Calls Try.prog 70 #[.pointer (some ⟨S, 0, none⟩), .slice (some ⟨g, 0, none⟩) n c] (w.alloc (.cells xs 5 fr)) (HeldOf n0 (fun k => k = w.heap.size) (w.alloc (.cells xs 5 fr)) S B (ssave d s l).1 (ssave d s l).2.1 (ssave d s l).2.2) := by
  subst hn hg
  exact (h.lit (.cells xs 5 fr)).save hc (RB.lit w l xs fr _ rfl hx) rfl (by omega) hp hw hy
theorem Runs.dev {d : Dev} {s : St} {M : Nat} (h : Runs d s M) : d.kept.length ≤ 1024 := by have := h.good.K; have := h.good.le; omega
theorem z_chain : ∃ e1 e2 e3 e4, sappend (Dev.new 12) z0 [97] = (e1, z1, 0) ∧ Runs e1 z1 20 ∧ sappend e1 z1 [98] = (e2, z2, 0) ∧ Runs e2 z2 30 ∧ ssave e2 z2 [99] = (e3, z3, 0) ∧ Runs e3 z3 40 ∧ sappend e3 z3 [100] = (e4, z4, 0) ∧ Runs e4 z4 50 := by
  have r0 : Runs (Dev.new 12) z0 0 := Runs.new (by omega) (by omega) (by omega)
  obtain ⟨e1, h1, r1⟩ := r0.append [97] (by decide) (by decide)
  obtain ⟨e2, h2, r2⟩ := r1.append [98] (by decide) (by decide)
  obtain ⟨e3, h3, r3⟩ := r2.save [99] (by decide)
  obtain ⟨e4, h4, r4⟩ := r3.append [100] (by decide) (by decide)
  exact ⟨e1, e2, e3, e4, h1, r1.mono (by decide), h2, r2.mono (by decide), h3, r3.mono (by decide), h4, r4.mono (by decide)⟩
theorem open_is {w : World} {B : Nat} {r : Option St × Int} {en : Ending} {w' : World} {s : St} (h : OpenOf w B r en w') (hr : r = (some s, 0)) : Below w.heap.size w w' ∧ ∃ S, en = .returned (.tuple #[.pointer (some ⟨S, 0, none⟩), .int .i64 0]) ∧ IsSt (fun k => w.heap.size ≤ k ∧ k < w'.heap.size) w' S B s := by
  subst hr
  obtain ⟨hb, ⟨h1, _⟩ | ⟨s', S, h1, h2, h3⟩⟩ := h
  · cases h1
  · cases h1; exact ⟨hb, S, h2, h3⟩
theorem open_no {w : World} {B : Nat} {r : Option St × Int} {en : Ending} {w' : World} {e : Int} (h : OpenOf w B r en w') (hr : r = (none, e)) : Below w.heap.size w w' ∧ en = .returned (.tuple #[.pointer none, .int .i64 e]) := by
  subst hr
  obtain ⟨hb, ⟨h1, h2⟩ | ⟨s', S, h1, h2, h3⟩⟩ := h
  · exact ⟨hb, h2⟩
  · cases h1
set_option maxRecDepth 100000 in
set_option maxHeartbeats 8000000 in
theorem ssmall_any (w : World) : Calls Try.prog 67 #[] w fun en w' => en = .returned (.bool true) ∧ Below w.heap.size w w' := by
  have kc := conv_const
  obtain ⟨e1, e2, e3, e4, q1, r1, q2, r2, q3, r3, q4, r4⟩ := z_chain
  have p1 := r1.pend; have p2 := r2.pend; have p3 := r3.pend; have p4 := r4.pend
  have w1' := r1.writes; have w2' := r2.writes; have w3' := r3.writes; have w4' := r4.writes
  have y1 := r1.syncs; have y2 := r2.syncs; have y3 := r3.syncs; have y4 := r4.syncs
  have O0 := (good_new (N := 2) (K := 12) (by omega) (by omega) (by omega)).opens (size := 2) rfl
  have O4 := r4.good.opens (size := 2) rfl
  have K4 := r4.dev
  have O5 : sopen (Dev.new 5) 2 = (none, 1) := sopen_arg (.inr (.inr (by decide)))
  have Q1 := Lib.hid q1; have Q2 := Lib.hid q2; have Q3 := Lib.hid q3; have Q4 := Lib.hid q4
  have OO0 := Lib.hid O0; have OO4 := Lib.hid O4; have OO5 := Lib.hid O5
  clear r1 r2 r3 r4 q1 q2 q3 q4 O0 O4 O5
  go_enter Try.func67, Try.ntmps67
  go_wp2_with fail
  refine (new_any w 12).mono ?_
  rintro en w1 ⟨B, rfl, B1, hB, D1⟩
  rw [show sizeOfDev 12 = 12 by decide +kernel] at D1
  obtain ⟨F1, hF1⟩ : ∃ F : Nat → Prop, (fun k => w.heap.size ≤ k ∧ k < w1.heap.size) = F := ⟨_, rfl⟩
  have g1 : ∀ k, F1 k → w.heap.size ≤ k := by rw [← hF1]; exact fun k hk => hk.1
  rw [hF1] at D1
  clear hF1
  have G1 := Lib.hid g1
  have BB1 := Lib.hid B1
  clear g1 B1
  go_wp2_with fail
  refine (open_any D1 (by decide +kernel) (by decide +kernel) 2 (by decide)).mono ?_
  intro en w2 h2
  obtain ⟨b2, S, rfl, hst⟩ := open_is h2 OO0.out
  have H2 : Hid (Held w.heap.size (fun _ => False) w2 S B (Dev.new 12) z0) := Held.start D1 G1.out BB1.out.size b2 hst (fun _ h => h.elim)
  have B2 := Lib.hid (BB1.out.trans (b2.mono BB1.out.size))
  clear h2 b2 hst D1 BB1 OO0 G1
  go_wp2_with fail
  refine (H2.out.append_lit [97] _ _ _ _ _ rfl (by decide) rfl rfl (by decide) (by decide) (by decide) (by decide)).mono ?_
  rintro en w3 ⟨rfl, h3, b3, _⟩
  rw [Q1.out] at h3 ⊢
  have H3 := Lib.hid h3
  have B3 := Lib.hid ((B2.out.alloc B2.out.size _).trans b3)
  clear h3 b3 H2 B2
  go_wp2_with fail
  refine (H3.out.append_lit [98] _ _ _ _ _ rfl (by decide) rfl rfl (by decide) (by omega) (by omega) (by omega)).mono ?_
  rintro en w4 ⟨rfl, h4, b4, _⟩
  rw [Q2.out] at h4 ⊢
  have H4 := Lib.hid h4
  have B4 := Lib.hid ((B3.out.alloc B3.out.size _).trans b4)
  clear h4 b4 H3 B3
  go_wp2_with fail
  refine (H4.out.save_lit [99] _ _ _ _ _ rfl (by decide) rfl rfl (by decide) (by omega) (by omega) (by omega)).mono ?_
  rintro en w5 ⟨rfl, h5, b5, _⟩
  rw [Q3.out] at h5 ⊢
  have H5 := Lib.hid h5
  have B5 := Lib.hid ((B4.out.alloc B4.out.size _).trans b5)
  clear h5 b5 H4 B4
  go_wp2_with fail
  refine (H5.out.append_lit [100] _ _ _ _ _ rfl (by decide) rfl rfl (by decide) (by omega) (by omega) (by omega)).mono ?_
  rintro en w6 ⟨rfl, h6, b6, _⟩
  rw [Q4.out] at h6 ⊢
  have H6 := Lib.hid h6
  have B6 := Lib.hid ((B5.out.alloc B5.out.size _).trans b6)
  obtain ⟨F6, D6⟩ := h6.dev
  have DD6 := Lib.hid D6
  clear h6 b6 H5 B5 D6
  go_wp2_with fail
  refine (open_any DD6.out K4 (by omega) 2 (by decide)).mono ?_
  intro en w7 h7
  obtain ⟨b7, T, rfl, hst⟩ := open_is h7 OO4.out
  have T7 := Lib.hid hst
  have B7 := Lib.hid (B6.out.trans (b7.mono B6.out.size))
  clear h7 b7 hst DD6 H6 B6 OO4
  go_wp2_with fail
  refine (new_any w7 5).mono ?_
  rintro en w8 ⟨X, rfl, b8, hX, D8⟩
  rw [show sizeOfDev 5 = 5 by decide +kernel] at D8
  have T8 := Lib.hid (T7.out.below b8)
  have B8 := Lib.hid (B7.out.trans (b8.mono B7.out.size))
  have DD8 := Lib.hid D8
  clear T7 B7 b8 D8
  go_wp2_with fail
  refine (open_any DD8.out (by decide +kernel) (by decide +kernel) 2 (by decide)).mono ?_
  intro en w9 h9
  obtain ⟨b9, rfl⟩ := open_no h9 OO5.out
  have T9 := Lib.hid (T8.out.below b9)
  have B9 := Lib.hid (B8.out.trans (b9.mono B8.out.size))
  clear T8 B8 b9 h9 DD8
  go_wp2_with fail
  refine (checkpoint_any T9.out).mono ?_
  rintro en w10 ⟨v10, rfl, o10, b10⟩
  have hcv : (convert 22 9 v10).run Try.prog w10 = .ok (.string ⟨#[99]⟩) w10 := conv_bs o10
  have T10 := Lib.hid (T9.out.below b10)
  have B10 := Lib.hid (B9.out.trans (b10.mono B9.out.size))
  clear T9 B9 b10 o10
  go_wp2_with fail
  refine (records_any T10.out).mono ?_
  rintro en w11 ⟨b11, v11, rfl, r11⟩
  have T11 := Lib.hid (T10.out.below b11)
  have B11 := Lib.hid (B10.out.trans (b11.mono B10.out.size))
  have r11' : RowsOf w11 w10.heap.size v11 [[100]] := r11
  obtain ⟨c8, k8, rfl, _, _, rr8⟩ := RR.of_rows r11'
  have RR8 := Lib.hid rr8
  clear T10 B10 b11 r11 r11' rr8 hcv
  go_wp2_with fail
  have bL : Below w11.heap.size w11 ((w11.alloc (.cells #[.int .u8 100] 5 (1, 2))).alloc (.cells #[.slice (some ⟨w11.heap.size, 0, none⟩) 1 1] 22)) := (below_alloc w11 _).alloc (by simp) _
  have rL : RR ((w11.alloc (.cells #[.int .u8 100] 5 (1, 2))).alloc (.cells #[.slice (some ⟨w11.heap.size, 0, none⟩) 1 1] 22)) (some ⟨w11.heap.size + 1, 0, none⟩) [[100]] := by
    intro i hi
    obtain rfl : i = 0 := by simpa using hi
    refine ⟨w11.heap.size + 1, 0, _, rfl, by simp, cell_lit _ (.slice (some ⟨w11.heap.size, 0, none⟩) 1 1) 22 (0, 0) _ (by simp), some ⟨w11.heap.size, 0, none⟩, 1, rfl, by decide, fun e => (by cases e), ?_⟩
    exact (RB.lit w11 [100] _ (1, 2) _ rfl rfl).alloc _
  refine (rows_any [[100]] [[100]] c8 (some ⟨w11.heap.size + 1, 0, none⟩) k8 1 _ (by decide) (RR8.out.below bL) rL).mono ?_
  rintro en w12 ⟨rfl, b12⟩
  have T12 := Lib.hid ((T11.out.below bL).below b12)
  have B12 := Lib.hid ((B11.out.trans (bL.mono B11.out.size)).trans (b12.mono (Nat.le_trans B11.out.size bL.size)))
  rw [decide_eq_true rfl]
  clear bL rL b12 RR8 T11 B11
  go_wp2_with fail
  refine (turn_any T12.out).mono ?_
  rintro en w13 ⟨rfl, rfl⟩
  rw [show (z4.h.turn : Int) = 4 by decide]
  go_wp2_with fail
  refine (sroom_any T12.out).mono ?_
  rintro en w13 ⟨rfl, b13⟩
  rw [show z4.room = 217 by decide]
  have T13 := Lib.hid (T12.out.below b13)
  have B13 := Lib.hid (B12.out.trans (b13.mono B12.out.size))
  clear T12 B12 b13
  go_wp2_with fail
  refine (broken_any T13.out).mono ?_
  rintro en w14 ⟨rfl, rfl⟩
  rw [show z4.broken = false by decide]
  go_wp2
  go_ret
  exact ⟨rfl, B13.out⟩
end Go.Proofs.Ytopemjbakpahfaa

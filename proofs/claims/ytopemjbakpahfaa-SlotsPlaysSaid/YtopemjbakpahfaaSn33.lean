/-
  Contracts and plain laws, part 33 (texts: S11). No condition but what each states.
-/
import Derived.Test.YtopemjbakpahfaaSn32
/-
  Saving a checkpoint: the walk. No condition but that the numbers are small.
-/
namespace Go.Proofs.Ytopemjbakpahfaa
open Go.RowKit Disk Jour Crc Slot
set_option linter.unusedSimpArgs false
set_option linter.unusedVariables false
def hbox (w : World) (x y : Int) : World := w.alloc (.cells #[.int .i64 x, .int .i64 y, .int .i64 0, .int .i64 0] 132 (0, 0))
theorem ssave_broken {d : Dev} {s : St} {b : List UInt8} (h : s.broken = true) : ssave d s b = (d, s, 14) := by unfold ssave; rw [if_pos h]
theorem ssave_full {d : Dev} {s : St} {b : List UInt8} (h : s.broken = false) (h2 : 32 * s.N < b.length) : ssave d s b = (d, s, 2) := by unfold ssave; rw [if_neg (by rw [h]; decide), if_pos h2]
theorem ssave_no {d : Dev} {s : St} {b : List UInt8} (h : s.broken = false) (h2 : ¬ 32 * s.N < b.length) (h3 : (svD d s b).2 ≠ 0) : ssave d s b = ((svD d s b).1, { s with broken := true }, (svD d s b).2) := by unfold ssave; rw [if_neg (by rw [h]; decide), if_neg h2, if_pos h3]
theorem ssave_yes {d : Dev} {s : St} {b : List UInt8} (h : s.broken = false) (h2 : ¬ 32 * s.N < b.length) (h3 : (svD d s b).2 = 0) : ssave d s b = ((svD d s b).1, { s with h := svHd s b, check := b, recs := [] }, 0) := by unfold ssave; rw [if_neg (by rw [h]; decide), if_neg h2, if_neg (by rw [h3]; decide)]
theorem no_broken {s : St} (h : s.broken = false) : { s with broken := false } = s := by obtain ⟨N, L, h', c, r, b⟩ := s; dsimp only at h ⊢; rw [h]
/-- Behind the safe writing of a checkpoint, in either slot. -/
theorem save_end {F G : Nat → Prop} {w w1 w3 : World} {S B A0 A1 AL : Nat} {s : St} {vc vr : Value} {d : Dev} {b : List UInt8} (hd : IsDev F w B d) (V : StV G w S B A0 A1 AL s vc vr) (dis : ∀ k, G k → ¬ F k) (hb : Below w.heap.size w w1) (hbk : s.broken = false) (hfit : ¬ 32 * s.N < b.length)
    (P : SafePost F w1 S B A0 A1 AL (afterSafe s (svHd s b) (svD d s b).2) vc vr (svD d s b).1 w3) :
    ((svD d s b).2 ≠ 0 → StorOf F G w S B (ssave d s b).1 (ssave d s b).2.1 (ssave d s b).2.2 (.returned (.int .i64 (svD d s b).2)) w3) ∧
    ((svD d s b).2 = 0 → ∀ (w4 : World) (v : Value), Below w3.heap.size w3 w4 → w4.ownsRow w3.heap.size 5 1 v b.length (b.map byteV) → StorOf F G w S B (ssave d s b).1 (ssave d s b).2.1 (ssave d s b).2.2 (.returned (.int .i64 0)) ((w4.setCell ⟨S, 8, none⟩ v).setCell ⟨S, 9, none⟩ (.slice none 0 0))) := by
  refine ⟨fun hne => ?_, fun hz w4 v b4 o4 => ?_⟩
  · rw [ssave_no hbk hfit hne]
    unfold afterSafe at P
    rw [if_neg hne, decide_eq_true hne] at P
    exact broke_fin hd V dis hb P _
  · rw [ssave_yes hbk hfit hz]
    unfold afterSafe at P
    rw [if_pos hz, decide_eq_false (by rw [hz]; decide)] at P
    have ok := V.ok
    have k1 := ok.slot
    have k2 := ok.k
    have ks : { s with h := svHd s b, broken := false, check := b, recs := [] } = { s with h := svHd s b, check := b, recs := [] } := by
      obtain ⟨N, L, h', c, r, bk⟩ := s; dsimp only at hbk ⊢; rw [hbk]
    have := save_fin hd V dis hb P b4 o4 ⟨by show 1 - s.h.slot < 2; omega, by show (s.h.turn + 1) % 4294967296 < 4294967296; omega, by show b.length ≤ 32 * s.N; omega, Nat.zero_le _, ok.n1, ok.k, by show b.length ≤ 32768; omega, Nat.le_refl 0, fun r hr => absurd hr (by simp)⟩
    rw [ks] at this
    exact this
set_option maxRecDepth 100000 in
set_option maxHeartbeats 4000000 in
theorem save_any {F G : Nat → Prop} {w : World} {S B : Nat} {d : Dev} {s : St} (h : Stor F G w S B d s) {b : List UInt8} {g off cap : Nat} (hlc : b.length ≤ cap) (hb : RB w (some ⟨g, off, none⟩) b) (hgF : ¬ F g) (hgS : g ≠ S) (hgl : g < w.heap.size) (hbl : b.length ≤ 1000000)
    (hp : d.pend.length + 33000 ≤ 90000) (hw : d.writes + 33000 ≤ 90000) (hy : d.syncs ≤ 90000) :
    Calls Try.prog 70 #[.pointer (some ⟨S, 0, none⟩), .slice (some ⟨g, off, none⟩) b.length cap] w (StorOf F G w S B (ssave d s b).1 (ssave d s b).2.1 (ssave d s b).2.2) := by
  obtain ⟨hd, ⟨A0, A1, AL, vc, vr, V⟩, dis⟩ := h
  have SAME : Hid (∀ w', Below w.heap.size w w' → ∀ e : Int, StorOf F G w S B d s e (.returned (.int .i64 e)) w') := fun w' hb e => StorOf.same ⟨hd, ⟨A0, A1, AL, vc, vr, V⟩, dis⟩ hb e
  have c10 : w.cell? ⟨S, 10, none⟩ = some (.bool s.broken) := Joins.cell_of_block V.blk 10
  have c1 : w.cell? ⟨S, 1, none⟩ = some (.pointer (some ⟨A0, 0, none⟩)) := Joins.cell_of_block V.blk 1
  have c4 : w.cell? ⟨S, 4, none⟩ = some (.int .i64 (s.h.slot : Int)) := Joins.cell_of_block V.blk 4
  have hN : s.N ≤ 512 := by have := V.ok.k; omega
  have hNi : (s.N : Int) ≤ 512 := by omega
  cases hbk : s.broken
  rotate_left
  · rw [ssave_broken hbk]
    rw [hbk] at c10
    have V' := Lib.hid V
    clear V hbk
    go_enter Try.func70, Try.ntmps70
    go_wp2
    go_ret
    exact SAME.out _ (Below.refl _ _) 14
  rw [hbk] at c10
  by_cases hfit : 32 * s.N < b.length
  · rw [ssave_full hbk hfit]
    have hfi : 32 * (s.N : Int) < (b.length : Int) := by omega
    have SZ := Lib.hid (size_any V.a0)
    clear V hbk hfit
    go_enter Try.func70, Try.ntmps70
    go_wp2_with fail
    refine SZ.out.mono ?_
    rintro en w1 ⟨rfl, rfl⟩
    go_wp2_with fail
    go_ret
    exact SAME.out _ (Below.refl _ _) 2
  have hfi : ¬ 32 * (s.N : Int) < (b.length : Int) := by omega
  have hb32 : b.length ≤ 32768 := by omega
  have SZ := Lib.hid (size_any V.a0)
  have hSF := dis S V.fs
  have hSl := V.lt S V.fs
  obtain ⟨A, hA0, hAG, hA⟩ : ∃ A, (if s.h.slot = 0 then A = A1 else A = A0) ∧ G A ∧ IsArea w A B (1 + (1 - s.h.slot) * s.N) s.N := by
    have := V.ok.slot
    rcases (by omega : s.h.slot = 0 ∨ s.h.slot = 1) with h | h
    · exact ⟨A1, by rw [if_pos h], V.f1, by rw [h, Nat.one_mul]; exact V.a1⟩
    · exact ⟨A0, by rw [if_neg (by omega)], V.f0, by rw [h]; rw [show (1 - 1) * s.N = 0 by simp]; exact V.a0⟩
  have hfirst : 1 + (1 - s.h.slot) * s.N ≤ 1024 := by
    have := V.ok.slot; have := V.ok.k
    rcases (by omega : s.h.slot = 0 ∨ s.h.slot = 1) with h | h <;> rw [h] <;> omega
  have SAFE : Hid (∀ w1, Below w.heap.size w w1 → Calls Try.prog 96 #[.pointer (some ⟨S, 0, none⟩), .pointer (some ⟨A, 0, none⟩), .int .i64 0, .slice (some ⟨g, off, none⟩) b.length cap, .agg #[.int .i64 ((1 - s.h.slot : Nat) : Int), .int .i64 (b.length : Int), .int .i64 0, .int .i64 0]] w1 (fun en w' => en = .returned (.int .i64 (svD d s b).2) ∧ SafePost F w1 S B A0 A1 AL (afterSafe s (svHd s b) (svD d s b).2) vc vr (svD d s b).1 w')) := fun w1 hb1 =>
    safe_any (hd.below hb1) (V.below hb1) dis (hA.below hb1) hAG hlc (hb.below hb1) hgF (Nat.lt_of_lt_of_le hgl hb1.size) (svHd s b) 0 (by show 1 - s.h.slot < 2; omega) (by show b.length < _; omega) (by show 0 < _; omega) rfl (by omega) (by omega) (by omega) (.inr hfirst)
  have EN : Hid (∀ w1 w3, Below w.heap.size w w1 → SafePost F w1 S B A0 A1 AL (afterSafe s (svHd s b) (svD d s b).2) vc vr (svD d s b).1 w3 → _) := fun w1 w3 hb1 P => save_end hd V dis hb1 hbk hfit P
  have S1 : Hid (∀ w1, Below w.heap.size w w1 → w1.heap[S]? = some (.cells (stcells B A0 A1 AL s vc vr) 134 (0, 0))) := fun w1 hb1 => (hb1.block S hSl).trans V.blk
  have KB : Hid (∀ w1 w3, Below w.heap.size w w1 → SafePost F w1 S B A0 A1 AL (afterSafe s (svHd s b) (svD d s b).2) vc vr (svD d s b).1 w3 → RB w3 (some ⟨g, off, none⟩) b) := fun w1 w3 hb1 P => RB.frm (hb.below hb1) P.frm (fun h => h.elim hgF hgS)
  have PB : Hid (∀ w1 w3 s', SafePost F w1 S B A0 A1 AL s' vc vr (svD d s b).1 w3 → w3.heap[S]? = some (.cells (stcells B A0 A1 AL s' vc vr) 134 (0, 0))) := fun w1 w3 s' P => P.blk
  generalize svD d s b = r at SAFE EN KB PB
  generalize hE : svHd s b = hh at SAFE EN KB PB
  clear hE
  obtain ⟨e, r⟩ := r
  generalize ssave d s b = rr at EN ⊢
  generalize hs2 : s.h.slot = sl at *
  have hsl2 : sl < 2 := by rw [← hs2]; exact V.ok.slot
  have HDL := Lib.hid hd.lt
  have HBL : Hid (b.length ≤ 1000000) := hbl
  have HLC : Hid (b.length ≤ cap) := hlc
  clear hA hAG hbk hfit V hfirst hb hs2
  rcases (by omega : sl = 0 ∨ sl = 1) with rfl | rfl
  · skip
    have hAA : A = A1 := hA0
    subst hAA
    obtain ⟨W1, hW1⟩ : ∃ W1, (w.alloc (.cells #[.int .i64 1, .int .i64 (b.length : Int), .int .i64 0, .int .i64 0] 132)).drew = W1 := ⟨_, rfl⟩
    have hB1 : Below w.heap.size w W1 := by rw [← hW1]; exact (below_alloc w _).drew
    have hX1 : W1.heap[w.heap.size]? = some (.cells #[.int .i64 1, .int .i64 (b.length : Int), .int .i64 0, .int .i64 0] 132 (0, 0)) := by rw [← hW1]; exact heap_alloc_new w _
    have SF := Lib.hid (SAFE.out W1 hB1)
    obtain ⟨S0, hS0⟩ : ∃ S0 : World → Prop, S0 = fun w' => w'.cell? ⟨S, 2, none⟩ = some (.pointer (some ⟨A, 0, none⟩)) ∧ w'.heap[w.heap.size]? = some (.cells #[.int .i64 1, .int .i64 (b.length : Int), .int .i64 0, .int .i64 0] 132 (0, 0)) := ⟨_, rfl⟩
    have hSS : Hid (∀ w', S0 w' → w'.cell? ⟨S, 2, none⟩ = some (.pointer (some ⟨A, 0, none⟩)) ∧ w'.cell? ⟨w.heap.size, 0, none⟩ = some (.int .i64 1) ∧ w'.cell? ⟨w.heap.size, 1, none⟩ = some (.int .i64 (b.length : Int)) ∧ w'.cell? ⟨w.heap.size, 2, none⟩ = some (.int .i64 0) ∧ w'.cell? ⟨w.heap.size, 3, none⟩ = some (.int .i64 0)) := fun w' h => by
      rw [hS0] at h
      obtain ⟨a, c⟩ := h
      exact ⟨a, Joins.cell_of_block c 0, Joins.cell_of_block c 1, Joins.cell_of_block c 2, Joins.cell_of_block c 3⟩
    have s0 : S0 W1 := by rw [hS0]; exact ⟨Joins.cell_of_block (S1.out W1 hB1) 2, hX1⟩
    have S3 : Hid (∀ w' s', SafePost F W1 S B A0 A AL s' vc vr e w' → S0 w') := fun w' s' P => by
      rw [hS0]
      exact ⟨Joins.cell_of_block P.blk 2, (P.frm.block _ (Array.getElem?_eq_some_iff.1 hX1).1 (fun h => h.elim (fun h => by have := HDL.out _ h; omega) (fun h => by omega))).trans hX1⟩
    have HB1 := Lib.hid hB1
    have HW1 := Lib.hid hW1
    clear hB1 hX1 hW1
    go_enter Try.func70, Try.ntmps70
    go_wp2_with fail
    refine SZ.out.mono ?_
    rintro en w1 ⟨rfl, rfl⟩
    go_wp2_with fail
    refine wp_region_held (S := S0) (by kernel_rfl) ?_
    change wpAnyH _ _ _ _ _ _ _ _ (World.drew _)
    rw [HW1.out]
    refine wpAnyH_take (i := 0) (v := .pointer (some ⟨S, 0, none⟩)) rfl (by kernel_rfl) (by kernel_rfl) (by kernel_rfl) (fun _ _ _ h => h) (.inl ⟨by rfl, by intro w hw; go_simp⟩) s0 ?_
    try simp only [Act.put, List.getElem_toArray, List.getElem_cons_zero, List.getElem_cons_succ, List.setIfInBounds_toArray, List.set_cons_zero, List.set_cons_succ]
    refine wpAnyH_take (i := 1) (v := .pointer (some ⟨S, 0, none⟩)) rfl (by kernel_rfl) (by kernel_rfl) (by kernel_rfl) (fun _ _ _ h => h) (.inl ⟨by rfl, by intro w hw; go_simp⟩) s0 ?_
    try simp only [Act.put, List.getElem_toArray, List.getElem_cons_zero, List.getElem_cons_succ, List.setIfInBounds_toArray, List.set_cons_zero, List.set_cons_succ]
    refine wpAnyH_take (i := 2) (v := .pointer (some ⟨w.heap.size, 0, none⟩)) rfl (by kernel_rfl) (by kernel_rfl) (by kernel_rfl) (fun _ _ _ h => h) (.inl ⟨by rfl, by intro w hw; go_simp⟩) s0 ?_
    try simp only [Act.put, List.getElem_toArray, List.getElem_cons_zero, List.getElem_cons_succ, List.setIfInBounds_toArray, List.set_cons_zero, List.set_cons_succ]
    refine wpAnyH_take (i := 3) (v := .int .i64 1) rfl (by kernel_rfl) (by kernel_rfl) (by kernel_rfl) (fun _ _ _ h => h) (.inl ⟨by rfl, by intro w hw; have h := hSS.out w hw; obtain ⟨q0, q1, q2, q3, q4⟩ := h; go_simp⟩) s0 ?_
    try simp only [Act.put, List.getElem_toArray, List.getElem_cons_zero, List.getElem_cons_succ, List.setIfInBounds_toArray, List.set_cons_zero, List.set_cons_succ]
    refine wpAnyH_take (i := 4) (v := .pointer (some ⟨S, 0, none⟩)) rfl (by kernel_rfl) (by kernel_rfl) (by kernel_rfl) (fun _ _ _ h => h) (.inl ⟨by rfl, by intro w hw; go_simp⟩) s0 ?_
    try simp only [Act.put, List.getElem_toArray, List.getElem_cons_zero, List.getElem_cons_succ, List.setIfInBounds_toArray, List.set_cons_zero, List.set_cons_succ]
    refine wpAnyH_take (i := 5) (v := .pointer (some ⟨S, 1, none⟩)) rfl (by kernel_rfl) (by kernel_rfl) (by kernel_rfl) (fun _ _ _ h => h) (.inl ⟨by rfl, by intro w hw; go_simp⟩) s0 ?_
    try simp only [Act.put, List.getElem_toArray, List.getElem_cons_zero, List.getElem_cons_succ, List.setIfInBounds_toArray, List.set_cons_zero, List.set_cons_succ]
    refine wpAnyH_take (i := 6) (v := .pointer (some ⟨S, 2, none⟩)) rfl (by kernel_rfl) (by kernel_rfl) (by kernel_rfl) (fun _ _ _ h => h) (.inl ⟨by rfl, by intro w hw; go_simp⟩) s0 ?_
    try simp only [Act.put, List.getElem_toArray, List.getElem_cons_zero, List.getElem_cons_succ, List.setIfInBounds_toArray, List.set_cons_zero, List.set_cons_succ]
    refine wpAnyH_take (i := 7) (v := .pointer (some ⟨A, 0, none⟩)) rfl (by kernel_rfl) (by kernel_rfl) (by kernel_rfl) (fun _ _ _ h => h) (.inl ⟨by rfl, by intro w hw; have h := hSS.out w hw; obtain ⟨q0, q1, q2, q3, q4⟩ := h; go_simp⟩) s0 ?_
    try simp only [Act.put, List.getElem_toArray, List.getElem_cons_zero, List.getElem_cons_succ, List.setIfInBounds_toArray, List.set_cons_zero, List.set_cons_succ]
    refine wpAnyH_take (i := 8) (v := .slice (some ⟨g, off, none⟩) b.length cap) rfl (by kernel_rfl) (by kernel_rfl) (by kernel_rfl) (fun _ _ _ h => h) (.inl ⟨by rfl, by intro w hw; go_simp⟩) s0 ?_
    try simp only [Act.put, List.getElem_toArray, List.getElem_cons_zero, List.getElem_cons_succ, List.setIfInBounds_toArray, List.set_cons_zero, List.set_cons_succ]
    refine wpAnyH_take (i := 9) (v := .agg #[.int .i64 1, .int .i64 (b.length : Int), .int .i64 0, .int .i64 0]) rfl (by kernel_rfl) (by kernel_rfl) (by kernel_rfl) (fun _ _ _ h => h) (.inl ⟨by rfl, by intro w hw; have h := hSS.out w hw; obtain ⟨q0, q1, q2, q3, q4⟩ := h; go_simp⟩) s0 ?_
    try simp only [Act.put, List.getElem_toArray, List.getElem_cons_zero, List.getElem_cons_succ, List.setIfInBounds_toArray, List.set_cons_zero, List.set_cons_succ]
    refine wpAnyH_one (i := 10) (by kernel_rfl) rfl (by rfl) (fun Kc hK => ?_)
    go_simp
    refine (SF.out).mono ?_
    rintro en w3 ⟨rfl, h3'⟩
    go_simp
    refine hK _ _ (S3.out _ _ h3') ?_
    clear hK Kc
    try simp only [Act.put, List.getElem_toArray, List.getElem_cons_zero, List.getElem_cons_succ, List.setIfInBounds_toArray, List.set_cons_zero, List.set_cons_succ]
    refine wpAnyH_take (i := 11) (v := .int .i64 r) rfl (by kernel_rfl) (by kernel_rfl) (by kernel_rfl) (fun _ _ _ h => h) (.inl ⟨by rfl, by intro w hw; go_simp⟩) (S3.out _ _ h3') ?_
    try simp only [Act.put, List.getElem_toArray, List.getElem_cons_zero, List.getElem_cons_succ, List.setIfInBounds_toArray, List.set_cons_zero, List.set_cons_succ]
    refine wpAnyH_done (by kernel_rfl) ?_ _
    have EE := Lib.hid (EN.out W1 w3 HB1.out h3')
    have KB3 := Lib.hid (KB.out W1 w3 HB1.out h3')
    have X3 := Lib.hid h3'.blk
    clear h3' SF S3 s0 hSS KB SAFE
    by_cases hr : r = 0
    · have E2 := Lib.hid (EE.out.2 hr)
      clear EE
      subst hr
      go_wp2_with fail
      refine (clone_any b (some ⟨g, off, none⟩) cap w3 HBL.out HLC.out (fun h => by cases h) KB3.out).mono ?_
      rintro en w4 ⟨v4, rfl, o4, b4⟩
      have x4 := (b4.block S (Array.getElem?_eq_some_iff.1 X3.out).1).trans X3.out
      have k8 : w4.cell? ⟨S, 8, none⟩ = some vc := Joins.cell_of_block x4 8
      have kf8 : w4.frozen? ⟨S, 8, none⟩ = false := Joins.unfrozen_of_block x4 8
      have k9 : w4.cell? ⟨S, 9, none⟩ = some vr := Joins.cell_of_block x4 9
      have kf9 : w4.frozen? ⟨S, 9, none⟩ = false := Joins.unfrozen_of_block x4 9
      have FIN := Lib.hid (E2.out w4 v4 b4 o4)
      obtain ⟨a4, c4, rfl⟩ := row_form o4
      clear x4 o4 b4
      go_wp2_with fail
      go_ret
      exact FIN.out
    · have hb' : ((r : Int) != 0) = true := by rw [bne_iff_ne]; exact hr
      have E1 := Lib.hid (EE.out.1 hr)
      clear hr EE
      go_wp2_with fail
      go_ret
      exact E1.out
  · skip
    have hAA : A = A0 := hA0
    subst hAA
    obtain ⟨W1, hW1⟩ : ∃ W1, (w.alloc (.cells #[.int .i64 0, .int .i64 (b.length : Int), .int .i64 0, .int .i64 0] 132)).drew = W1 := ⟨_, rfl⟩
    have hB1 : Below w.heap.size w W1 := by rw [← hW1]; exact (below_alloc w _).drew
    have hX1 : W1.heap[w.heap.size]? = some (.cells #[.int .i64 0, .int .i64 (b.length : Int), .int .i64 0, .int .i64 0] 132 (0, 0)) := by rw [← hW1]; exact heap_alloc_new w _
    have SF := Lib.hid (SAFE.out W1 hB1)
    obtain ⟨S0, hS0⟩ : ∃ S0 : World → Prop, S0 = fun w' => w'.cell? ⟨S, 1, none⟩ = some (.pointer (some ⟨A, 0, none⟩)) ∧ w'.heap[w.heap.size]? = some (.cells #[.int .i64 0, .int .i64 (b.length : Int), .int .i64 0, .int .i64 0] 132 (0, 0)) := ⟨_, rfl⟩
    have hSS : Hid (∀ w', S0 w' → w'.cell? ⟨S, 1, none⟩ = some (.pointer (some ⟨A, 0, none⟩)) ∧ w'.cell? ⟨w.heap.size, 0, none⟩ = some (.int .i64 0) ∧ w'.cell? ⟨w.heap.size, 1, none⟩ = some (.int .i64 (b.length : Int)) ∧ w'.cell? ⟨w.heap.size, 2, none⟩ = some (.int .i64 0) ∧ w'.cell? ⟨w.heap.size, 3, none⟩ = some (.int .i64 0)) := fun w' h => by
      rw [hS0] at h
      obtain ⟨a, c⟩ := h
      exact ⟨a, Joins.cell_of_block c 0, Joins.cell_of_block c 1, Joins.cell_of_block c 2, Joins.cell_of_block c 3⟩
    have s0 : S0 W1 := by rw [hS0]; exact ⟨Joins.cell_of_block (S1.out W1 hB1) 1, hX1⟩
    have S3 : Hid (∀ w' s', SafePost F W1 S B A A1 AL s' vc vr e w' → S0 w') := fun w' s' P => by
      rw [hS0]
      exact ⟨Joins.cell_of_block P.blk 1, (P.frm.block _ (Array.getElem?_eq_some_iff.1 hX1).1 (fun h => h.elim (fun h => by have := HDL.out _ h; omega) (fun h => by omega))).trans hX1⟩
    have HB1 := Lib.hid hB1
    have HW1 := Lib.hid hW1
    clear hB1 hX1 hW1
    go_enter Try.func70, Try.ntmps70
    go_wp2_with fail
    refine SZ.out.mono ?_
    rintro en w1 ⟨rfl, rfl⟩
    go_wp2_with fail
    refine wp_region_held (S := S0) (by kernel_rfl) ?_
    change wpAnyH _ _ _ _ _ _ _ _ (World.drew _)
    rw [HW1.out]
    refine wpAnyH_take (i := 0) (v := .pointer (some ⟨S, 0, none⟩)) rfl (by kernel_rfl) (by kernel_rfl) (by kernel_rfl) (fun _ _ _ h => h) (.inl ⟨by rfl, by intro w hw; go_simp⟩) s0 ?_
    try simp only [Act.put, List.getElem_toArray, List.getElem_cons_zero, List.getElem_cons_succ, List.setIfInBounds_toArray, List.set_cons_zero, List.set_cons_succ]
    refine wpAnyH_take (i := 1) (v := .pointer (some ⟨S, 0, none⟩)) rfl (by kernel_rfl) (by kernel_rfl) (by kernel_rfl) (fun _ _ _ h => h) (.inl ⟨by rfl, by intro w hw; go_simp⟩) s0 ?_
    try simp only [Act.put, List.getElem_toArray, List.getElem_cons_zero, List.getElem_cons_succ, List.setIfInBounds_toArray, List.set_cons_zero, List.set_cons_succ]
    refine wpAnyH_take (i := 2) (v := .pointer (some ⟨w.heap.size, 0, none⟩)) rfl (by kernel_rfl) (by kernel_rfl) (by kernel_rfl) (fun _ _ _ h => h) (.inl ⟨by rfl, by intro w hw; go_simp⟩) s0 ?_
    try simp only [Act.put, List.getElem_toArray, List.getElem_cons_zero, List.getElem_cons_succ, List.setIfInBounds_toArray, List.set_cons_zero, List.set_cons_succ]
    refine wpAnyH_take (i := 3) (v := .int .i64 0) rfl (by kernel_rfl) (by kernel_rfl) (by kernel_rfl) (fun _ _ _ h => h) (.inl ⟨by rfl, by intro w hw; have h := hSS.out w hw; obtain ⟨q0, q1, q2, q3, q4⟩ := h; go_simp⟩) s0 ?_
    try simp only [Act.put, List.getElem_toArray, List.getElem_cons_zero, List.getElem_cons_succ, List.setIfInBounds_toArray, List.set_cons_zero, List.set_cons_succ]
    refine wpAnyH_take (i := 4) (v := .pointer (some ⟨S, 0, none⟩)) rfl (by kernel_rfl) (by kernel_rfl) (by kernel_rfl) (fun _ _ _ h => h) (.inl ⟨by rfl, by intro w hw; go_simp⟩) s0 ?_
    try simp only [Act.put, List.getElem_toArray, List.getElem_cons_zero, List.getElem_cons_succ, List.setIfInBounds_toArray, List.set_cons_zero, List.set_cons_succ]
    refine wpAnyH_take (i := 5) (v := .pointer (some ⟨S, 1, none⟩)) rfl (by kernel_rfl) (by kernel_rfl) (by kernel_rfl) (fun _ _ _ h => h) (.inl ⟨by rfl, by intro w hw; go_simp⟩) s0 ?_
    try simp only [Act.put, List.getElem_toArray, List.getElem_cons_zero, List.getElem_cons_succ, List.setIfInBounds_toArray, List.set_cons_zero, List.set_cons_succ]
    refine wpAnyH_take (i := 6) (v := .pointer (some ⟨S, 1, none⟩)) rfl (by kernel_rfl) (by kernel_rfl) (by kernel_rfl) (fun _ _ _ h => h) (.inl ⟨by rfl, by intro w hw; go_simp⟩) s0 ?_
    try simp only [Act.put, List.getElem_toArray, List.getElem_cons_zero, List.getElem_cons_succ, List.setIfInBounds_toArray, List.set_cons_zero, List.set_cons_succ]
    refine wpAnyH_take (i := 7) (v := .pointer (some ⟨A, 0, none⟩)) rfl (by kernel_rfl) (by kernel_rfl) (by kernel_rfl) (fun _ _ _ h => h) (.inl ⟨by rfl, by intro w hw; have h := hSS.out w hw; obtain ⟨q0, q1, q2, q3, q4⟩ := h; go_simp⟩) s0 ?_
    try simp only [Act.put, List.getElem_toArray, List.getElem_cons_zero, List.getElem_cons_succ, List.setIfInBounds_toArray, List.set_cons_zero, List.set_cons_succ]
    refine wpAnyH_take (i := 8) (v := .slice (some ⟨g, off, none⟩) b.length cap) rfl (by kernel_rfl) (by kernel_rfl) (by kernel_rfl) (fun _ _ _ h => h) (.inl ⟨by rfl, by intro w hw; go_simp⟩) s0 ?_
    try simp only [Act.put, List.getElem_toArray, List.getElem_cons_zero, List.getElem_cons_succ, List.setIfInBounds_toArray, List.set_cons_zero, List.set_cons_succ]
    refine wpAnyH_take (i := 9) (v := .agg #[.int .i64 0, .int .i64 (b.length : Int), .int .i64 0, .int .i64 0]) rfl (by kernel_rfl) (by kernel_rfl) (by kernel_rfl) (fun _ _ _ h => h) (.inl ⟨by rfl, by intro w hw; have h := hSS.out w hw; obtain ⟨q0, q1, q2, q3, q4⟩ := h; go_simp⟩) s0 ?_
    try simp only [Act.put, List.getElem_toArray, List.getElem_cons_zero, List.getElem_cons_succ, List.setIfInBounds_toArray, List.set_cons_zero, List.set_cons_succ]
    refine wpAnyH_one (i := 10) (by kernel_rfl) rfl (by rfl) (fun Kc hK => ?_)
    go_simp
    refine (SF.out).mono ?_
    rintro en w3 ⟨rfl, h3'⟩
    go_simp
    refine hK _ _ (S3.out _ _ h3') ?_
    clear hK Kc
    try simp only [Act.put, List.getElem_toArray, List.getElem_cons_zero, List.getElem_cons_succ, List.setIfInBounds_toArray, List.set_cons_zero, List.set_cons_succ]
    refine wpAnyH_take (i := 11) (v := .int .i64 r) rfl (by kernel_rfl) (by kernel_rfl) (by kernel_rfl) (fun _ _ _ h => h) (.inl ⟨by rfl, by intro w hw; go_simp⟩) (S3.out _ _ h3') ?_
    try simp only [Act.put, List.getElem_toArray, List.getElem_cons_zero, List.getElem_cons_succ, List.setIfInBounds_toArray, List.set_cons_zero, List.set_cons_succ]
    refine wpAnyH_done (by kernel_rfl) ?_ _
    have EE := Lib.hid (EN.out W1 w3 HB1.out h3')
    have KB3 := Lib.hid (KB.out W1 w3 HB1.out h3')
    have X3 := Lib.hid h3'.blk
    clear h3' SF S3 s0 hSS KB SAFE
    by_cases hr : r = 0
    · have E2 := Lib.hid (EE.out.2 hr)
      clear EE
      subst hr
      go_wp2_with fail
      refine (clone_any b (some ⟨g, off, none⟩) cap w3 HBL.out HLC.out (fun h => by cases h) KB3.out).mono ?_
      rintro en w4 ⟨v4, rfl, o4, b4⟩
      have x4 := (b4.block S (Array.getElem?_eq_some_iff.1 X3.out).1).trans X3.out
      have k8 : w4.cell? ⟨S, 8, none⟩ = some vc := Joins.cell_of_block x4 8
      have kf8 : w4.frozen? ⟨S, 8, none⟩ = false := Joins.unfrozen_of_block x4 8
      have k9 : w4.cell? ⟨S, 9, none⟩ = some vr := Joins.cell_of_block x4 9
      have kf9 : w4.frozen? ⟨S, 9, none⟩ = false := Joins.unfrozen_of_block x4 9
      have FIN := Lib.hid (E2.out w4 v4 b4 o4)
      obtain ⟨a4, c4, rfl⟩ := row_form o4
      clear x4 o4 b4
      go_wp2_with fail
      go_ret
      exact FIN.out
    · have hb' : ((r : Int) != 0) = true := by rw [bne_iff_ne]; exact hr
      have E1 := Lib.hid (EE.out.1 hr)
      clear hr EE
      go_wp2_with fail
      go_ret
      exact E1.out
end Go.Proofs.Ytopemjbakpahfaa

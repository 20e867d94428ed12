/-
  Contracts and plain laws, part 45 (texts: R5). No condition but what each states.
-/
import Derived.Test.YtopemjbakpahfaaSlotsPlaysA
/-
  The reference's saving of a checkpoint: the walk. No condition but that the numbers are small.
-/
namespace Go.Proofs.Ytopemjbakpahfaa
open Go.RowKit Disk Jour Crc Slot
set_option linter.unusedSimpArgs false
set_option linter.unusedVariables false
/-- Behind the reference's safe writing. -/
theorem rfin {F G : Nat → Prop} {w W4 w' : World} {S B A0 A1 AL : Nat} {d d' : Dev} {s s' : St} {vc vr vc' vr' : Value} {e : Int} (hd : IsRef F w B d) (V : SrV G w S B A0 A1 AL s vc vr) (dis : ∀ k, G k → ¬ F k) (hb : Below w.heap.size w W4) (P : RSafe F W4 S B A0 A1 AL s s' vc vr vc' vr' d' e w')
    (hc : BsG (fun k => G k ∨ (w.heap.size ≤ k ∧ k < W4.heap.size)) W4 vc' s'.check) (hr : RowsG (fun k => G k ∨ (w.heap.size ≤ k ∧ k < W4.heap.size)) W4 vr' s'.recs) (ok : StOk s') (hN : s'.N = s.N) (hL : s'.L = s.L) :
    (e = 0 → SrorOf F G w S B d' s' 0 (.returned (.int .i64 0)) w') ∧ (e ≠ 0 → SrorOf F G w S B d' { s with broken := true } e (.returned (.int .i64 e)) w') := by
  obtain ⟨F', h1, h2⟩ := P.dev
  have hsz := hb.size
  have hs4 := P.frm.size
  have hF : ∀ k, F k → k < w.heap.size := hd.lt
  have hSl := V.lt S V.fs
  have R := (V.below hb).rest P.frm dis
  have fw : Frm (fun k => F k ∨ G k) w w' := (Frm.of_below (F := fun k => F k ∨ G k) hb).trans P.frm (fun k hk => .inl (hk.imp_right (fun h => by rw [h]; exact V.fs)))
  have x4 := (hb.block S hSl).trans V.blk
  have nF : ∀ k, (G k ∨ (w.heap.size ≤ k ∧ k < W4.heap.size)) → ¬ F k := fun k hk hf => hk.elim (fun h => dis k h hf) (fun h => by have := hF k hf; omega)
  have e4 : ∀ k, ((G k ∨ (w.heap.size ≤ k ∧ k < W4.heap.size)) ∧ k ≠ S) → k < W4.heap.size → w'.heap[k]? = W4.heap[k]? := fun k hk hl => P.frm.block k hl (fun h => h.elim (nF k hk.1) hk.2)
  have new : ∀ k, F' k → F k ∨ w.heap.size ≤ k := fun k hk => (h2 k hk).imp_right (fun h => by omega)
  refine ⟨fun he => ⟨rfl, fw, F', fun k => G k ∨ (w.heap.size ≤ k ∧ k < W4.heap.size), ⟨h1, ⟨A0, A1, AL, vc', vr', P.yes he, ?_, ?_, ?_, ((hc.rnot x4).same e4 (fun _ h => h)).mono (fun _ h => h.1), (hr.rnot x4).same e4 (fun _ h => h.1), .inl V.fs, .inl V.f0, .inl V.f1, .inl V.fl, fun k hk => ?_, ok⟩, fun k hk hF' => ?_⟩, new, fun k hk => hk.imp_right (fun h => h.1)⟩, fun he => ⟨rfl, fw, F', G, ⟨h1, ⟨A0, A1, AL, vc, vr, P.no he, R.a0, R.a1, R.al, R.check, R.recs, V.fs, V.f0, V.f1, V.fl, fun k hk => ?_, ?_⟩, fun k hk hF' => ?_⟩, new, fun k hk => .inl hk⟩⟩
  · rw [hN]; exact R.a0
  · rw [hN]; exact R.a1
  · rw [hN, hL]; exact R.al
  · rcases hk with hk | hk
    · have := V.lt k hk; omega
    · omega
  · rcases h2 k hF' with h | h
    · exact nF k hk h
    · rcases hk with hk | hk
      · have := V.lt k hk; omega
      · omega
  · have := V.lt k hk; omega
  · have k := V.ok; exact ⟨k.slot, k.turn, k.long, k.used, k.n1, k.k, k.check, k.rl, k.rr⟩
  · have := V.lt k hk
    rcases h2 k hF' with h | h
    · exact dis k hk h
    · omega
/-- Beside what is told: the areas are told as before, and what came before the call stays. -/
structure SrKeep (w W4 : World) (S A0 A1 AL : Nat) (w' : World) : Prop where
  c1 : w'.cell? ⟨S, 1, none⟩ = some (.pointer (some ⟨A0, 0, none⟩))
  c2 : w'.cell? ⟨S, 2, none⟩ = some (.pointer (some ⟨A1, 0, none⟩))
  c3 : w'.cell? ⟨S, 3, none⟩ = some (.pointer (some ⟨AL, 0, none⟩))
  keep : ∀ k, w.heap.size ≤ k → k < W4.heap.size → w'.heap[k]? = W4.heap[k]?
theorem RSafe.keep {F : Nat → Prop} {w W4 w' : World} {S B A0 A1 AL : Nat} {s s' : St} {vc vr vc' vr' : Value} {d : Dev} {e : Int} (P : RSafe F W4 S B A0 A1 AL s s' vc vr vc' vr' d e w') (hF : ∀ k, F k → k < w.heap.size) (hS : S < w.heap.size) : SrKeep w W4 S A0 A1 AL w' := by
  have hk : ∀ k, w.heap.size ≤ k → k < W4.heap.size → w'.heap[k]? = W4.heap[k]? := fun k h1 h2 => P.frm.block k h2 (fun h => h.elim (fun h => by have := hF k h; omega) (fun h => by omega))
  by_cases he : e = 0
  · have h := P.yes he
    exact ⟨Joins.cell_of_block h 1, Joins.cell_of_block h 2, Joins.cell_of_block h 3, hk⟩
  · have h := P.no he
    exact ⟨Joins.cell_of_block h 1, Joins.cell_of_block h 2, Joins.cell_of_block h 3, hk⟩
theorem rsave_call {F G : Nat → Prop} {w : World} {S B A0 A1 AL : Nat} {d : Dev} {s : St} {vc vr : Value} (hd : IsRef F w B d) (V : SrV G w S B A0 A1 AL s vc vr) (dis : ∀ k, G k → ¬ F k) (hbk : s.broken = false) {b : List UInt8} (hfit : ¬ 32 * s.N < b.length) {g off cap : Nat} (hlc : b.length ≤ cap) (hb : RB w (some ⟨g, off, none⟩) b) (hgF : ¬ F g) (hgl : g < w.heap.size) (hb32 : b.length ≤ 32768)
    (hp : d.pend.length + 33000 ≤ 90000) (hw : d.writes + 33000 ≤ 90000) (hy : d.syncs ≤ 90000) {A : Nat} {first : Int} (hA : IsRArea w A B first s.N) (hAG : G A) (hfirst : first.toNat = 1 + (1 - s.h.slot) * s.N) (hf0 : 0 ≤ first) {W4 : World} (hb4 : Below w.heap.size w W4) {a6 : Option Addr} {c6 : Nat} (ho : W4.ownsRow w.heap.size 5 1 (.slice a6 b.length c6) b.length (b.map byteV)) :
    Calls Try.prog 100 #[.pointer (some ⟨S, 0, none⟩), .pointer (some ⟨A, 0, none⟩), .int .i64 0, .slice (some ⟨g, off, none⟩) b.length cap, .agg #[.pointer (some ⟨B, 0, none⟩), .pointer (some ⟨A0, 0, none⟩), .pointer (some ⟨A1, 0, none⟩), .pointer (some ⟨AL, 0, none⟩), .int .i64 ((1 - s.h.slot : Nat) : Int), .int .i64 (b.length : Int), .int .i64 0, .int .i64 (turnOf s.h : Int), .slice a6 b.length c6, .slice none 0 0, .bool false]] W4 (fun en w' => SrorOf F G w S B (ssave d s b).1 (ssave d s b).2.1 (ssave d s b).2.2 en w' ∧ SrKeep w W4 S A0 A1 AL w') := by
  have ok := V.ok
  have k1 := ok.slot
  have k2 := ok.k
  have kN := ok.n1
  have h1024 : first ≤ 1024 := by
    have h1 : (1 - s.h.slot) * s.N ≤ s.N := by rcases (by omega : s.h.slot = 0 ∨ s.h.slot = 1) with h | h <;> rw [h] <;> omega
    omega
  have := rsafe_any (s' := { s with h := svHd s b, check := b, recs := [], broken := false }) (ac := a6) (nc := b.length) (cc := c6) (ar := none) (nr := 0) (cr := 0) (p := 0) (hd.below hb4) (V.below hb4) dis (hA.below hb4) hAG hlc (hb.below hb4) hgF (Nat.lt_of_lt_of_le hgl hb4.size) (by show 1 - s.h.slot < 2; omega) (by show b.length < _; omega) (by show 0 < _; omega) (by show (s.h.turn + 1) % 4294967296 < _; omega) (by omega) (by omega) (by omega) (.inr ⟨hf0, h1024⟩)
  rw [hfirst] at this
  refine this.mono ?_
  rintro en w' ⟨rfl, P⟩
  change RSafe F W4 S B A0 A1 AL s { s with h := svHd s b, check := b, recs := [], broken := false } vc vr _ _ (svD d s b).1 (svD d s b).2 w' at P
  refine ⟨?_, P.keep hd.lt (V.lt S V.fs)⟩
  change SrorOf F G w S B (ssave d s b).1 (ssave d s b).2.1 (ssave d s b).2.2 (.returned (.int .i64 (svD d s b).2)) w'
  obtain ⟨y, n⟩ := rfin hd V dis hb4 P ⟨ownsRow_base ho (Nat.zero_le _), fun k hk => .inr (ho.lt k hk)⟩ (RowsG.nil _ _) ⟨by show 1 - s.h.slot < 2; omega, by show (s.h.turn + 1) % 4294967296 < _; omega, by show b.length ≤ 32 * s.N; omega, Nat.zero_le _, kN, k2, by show b.length ≤ 32768; omega, Nat.le_refl 0, fun r hr => absurd hr (by simp)⟩ rfl rfl
  by_cases hz : (svD d s b).2 = 0
  · rw [ssave_yes hbk hfit hz, hz]
    have ks : { s with h := svHd s b, check := b, recs := [], broken := false } = { s with h := svHd s b, check := b, recs := [] } := by
      obtain ⟨N, L, h', c, r, bk⟩ := s; dsimp only at hbk ⊢; rw [hbk]
    rw [← ks]
    exact y hz
  · rw [ssave_no hbk hfit hz]
    exact n hz
set_option maxRecDepth 100000 in
set_option maxHeartbeats 8000000 in
theorem rsave_any {F G : Nat → Prop} {w : World} {S B : Nat} {d : Dev} {s : St} (h : Sror F G w S B d s) {b : List UInt8} {g off cap : Nat} (hlc : b.length ≤ cap) (hb : RB w (some ⟨g, off, none⟩) b) (hgF : ¬ F g) (hgl : g < w.heap.size) (hbl : b.length ≤ 1000000)
    (hp : d.pend.length + 33000 ≤ 90000) (hw : d.writes + 33000 ≤ 90000) (hy : d.syncs ≤ 90000) :
    Calls Try.prog 80 #[.pointer (some ⟨S, 0, none⟩), .slice (some ⟨g, off, none⟩) b.length cap] w (SrorOf F G w S B (ssave d s b).1 (ssave d s b).2.1 (ssave d s b).2.2) := by
  obtain ⟨hd, ⟨A0, A1, AL, vc, vr, V⟩, dis⟩ := h
  have SAME : Hid (∀ w', Below w.heap.size w w' → ∀ e : Int, SrorOf F G w S B d s e (.returned (.int .i64 e)) w') := fun w' hb e => SrorOf.same ⟨hd, ⟨A0, A1, AL, vc, vr, V⟩, dis⟩ hb e
  have k10 : w.cell? ⟨S, 10, none⟩ = some (.bool s.broken) := Joins.cell_of_block V.blk 10
  have k1 : w.cell? ⟨S, 1, none⟩ = some (.pointer (some ⟨A0, 0, none⟩)) := Joins.cell_of_block V.blk 1
  have hN : s.N ≤ 512 := by have := V.ok.k; omega
  have hNi : (s.N : Int) ≤ 512 := by omega
  have SZ := Lib.hid (rsize_any V.a0)
  cases hbk : s.broken
  rotate_left
  · rw [ssave_broken hbk]
    rw [hbk] at k10
    clear V hbk
    go_enter Try.func80, Try.ntmps80
    go_wp2
    go_ret
    exact SAME.out _ (Below.refl _ _) 14
  rw [hbk] at k10
  by_cases hfit : 32 * s.N < b.length
  · rw [ssave_full hbk hfit]
    have hfi : 32 * (s.N : Int) < (b.length : Int) := by omega
    clear V hbk hfit
    go_enter Try.func80, Try.ntmps80
    go_wp2_with fail
    refine SZ.out.mono ?_
    rintro en w1 ⟨rfl, rfl⟩
    go_wp2_with fail
    go_ret
    exact SAME.out _ (Below.refl _ _) 2
  have hfi : ¬ 32 * (s.N : Int) < (b.length : Int) := by omega
  have hb32 : b.length ≤ 32768 := by omega
  have hSl := V.lt S V.fs
  obtain ⟨ac, cc, hvc⟩ := row_form V.check.1
  obtain ⟨ar, cr, hvr⟩ : ∃ ar cr, vr = .slice ar s.recs.length cr := by obtain ⟨vs, h1, _⟩ := V.recs; exact row_form h1
  subst hvc hvr
  have hsl2 := V.ok.slot
  have ht := V.ok.turn
  rcases (by omega : s.h.slot = 0 ∨ s.h.slot = 1) with hsl | hsl
  · skip
    have CALL : Hid (∀ (W4 : World) (a6 : Option Addr) (c6 : Nat), Below w.heap.size w W4 → W4.ownsRow w.heap.size 5 1 (.slice a6 b.length c6) b.length (b.map byteV) → Calls Try.prog 100 #[.pointer (some ⟨S, 0, none⟩), .pointer (some ⟨A1, 0, none⟩), .int .i64 0, .slice (some ⟨g, off, none⟩) b.length cap, .agg #[.pointer (some ⟨B, 0, none⟩), .pointer (some ⟨A0, 0, none⟩), .pointer (some ⟨A1, 0, none⟩), .pointer (some ⟨AL, 0, none⟩), .int .i64 1, .int .i64 (b.length : Int), .int .i64 0, .int .i64 (turnOf s.h : Int), .slice a6 b.length c6, .slice none 0 0, .bool false]] W4 (fun en w' => SrorOf F G w S B (ssave d s b).1 (ssave d s b).2.1 (ssave d s b).2.2 en w' ∧ SrKeep w W4 S A0 A1 AL w')) := fun W4 a6 c6 hb4 ho => by
      have := rsave_call hd V dis hbk hfit hlc hb hgF hgl hb32 hp hw hy V.a1 V.f1 (by rw [hsl]; omega) (by omega) hb4 ho
      rw [hsl] at this
      exact this
    generalize ssave d s b = rr at CALL ⊢
    have S1 : Hid (∀ W, Below w.heap.size w W → W.heap[S]? = some (.cells (srcells B A0 A1 AL s (.slice ac s.check.length cc) (.slice ar s.recs.length cr)) 141 (0, 0))) := fun W hW => (hW.block S hSl).trans V.blk
    have hslI : (s.h.slot : Int) = 0 := by omega
    have k0 : w.cell? ⟨S, 0, none⟩ = some (.pointer (some ⟨B, 0, none⟩)) := Joins.cell_of_block V.blk 0
    have k2 : w.cell? ⟨S, 2, none⟩ = some (.pointer (some ⟨A1, 0, none⟩)) := Joins.cell_of_block V.blk 2
    have k3 : w.cell? ⟨S, 3, none⟩ = some (.pointer (some ⟨AL, 0, none⟩)) := Joins.cell_of_block V.blk 3
    have k4 : w.cell? ⟨S, 4, none⟩ = some (.int .i64 0) := by rw [← hslI]; exact Joins.cell_of_block V.blk 4
    have k5 : w.cell? ⟨S, 5, none⟩ = some (.int .i64 (s.h.long : Int)) := Joins.cell_of_block V.blk 5
    have k6 : w.cell? ⟨S, 6, none⟩ = some (.int .i64 (s.h.used : Int)) := Joins.cell_of_block V.blk 6
    have k7 : w.cell? ⟨S, 7, none⟩ = some (.int .i64 (s.h.turn : Int)) := Joins.cell_of_block V.blk 7
    have k8 : w.cell? ⟨S, 8, none⟩ = some (.slice ac s.check.length cc) := Joins.cell_of_block V.blk 8
    have k9 : w.cell? ⟨S, 9, none⟩ = some (.slice ar s.recs.length cr) := Joins.cell_of_block V.blk 9
    have hti : ((s.h.turn : Int) + 1) % 4294967296 = (turnOf s.h : Int) := by unfold turnOf; omega
    have RBW := Lib.hid hb
    clear V hbk hfit hslI hsl
    clear hb
    obtain ⟨tt, htt⟩ : ∃ tt, turnOf s.h = tt := ⟨_, rfl⟩
    rw [htt] at hti CALL
    clear htt
    go_enter Try.func80, Try.ntmps80
    go_wp2_with fail
    refine SZ.out.mono ?_
    rintro en w1 ⟨rfl, rfl⟩
    go_wp2_with (at_builtin; refine app_bytes rfl (.tmp 39) (.tmp 40) rfl (w.heap.size + 1) (.slice (some ⟨w.heap.size + 1, 0, none⟩) 0 0) [] b cap rfl (owns_bytes _ [] _ (w.heap.size + 1) (w.heap.size + 1) (by simp) (Nat.le_refl _) rfl (by unfold maxLen; simp)) (some ⟨g, off, none⟩) rfl (fun e => by cases e) ((RBW.out.alloc _).alloc _) (by simp; omega) (by simp) ?_; intro v6 w3 o6 b6 g6; rw [List.nil_append] at o6; obtain ⟨a6, c6, rfl⟩ := row_form o6; have xb : w3.heap[w.heap.size]? = some (.cells #[.pointer (some ⟨B, 0, none⟩), .pointer (some ⟨A0, 0, none⟩), .pointer (some ⟨A1, 0, none⟩), .pointer (some ⟨AL, 0, none⟩), .int .i64 1, .int .i64 (b.length : Int), .int .i64 0, .int .i64 (tt : Int), .slice ac s.check.length cc, .slice ar s.recs.length cr, .bool false] 141 (0, 0)) := (b6.block w.heap.size (by omega)).trans ((Below.heap_alloc _ _ _ (by simp)).trans (heap_alloc_new w _)); have B3 := Lib.hid (((below_alloc w _).alloc (by simp) _).trans (b6.mono (by omega))); have O6 := Lib.hid o6; have XB := Lib.hid xb; have c8 := Joins.cell_of_block xb 8; have f8 := Joins.unfrozen_of_block xb 8; have c9 := Joins.cell_of_block xb 9; have f9 := Joins.unfrozen_of_block xb 9; dsimp at c8 c9; clear o6 xb b6 g6)
    obtain ⟨W4, hW4⟩ : ∃ W4, (w3.setCell ⟨w.heap.size, 8, none⟩ (.slice a6 b.length c6)).setCell ⟨w.heap.size, 9, none⟩ (.slice none 0 0) = W4 := ⟨_, rfl⟩
    have xb4 : W4.heap[w.heap.size]? = some (.cells #[.pointer (some ⟨B, 0, none⟩), .pointer (some ⟨A0, 0, none⟩), .pointer (some ⟨A1, 0, none⟩), .pointer (some ⟨AL, 0, none⟩), .int .i64 1, .int .i64 (b.length : Int), .int .i64 0, .int .i64 (tt : Int), .slice a6 b.length c6, .slice none 0 0, .bool false] 141 (0, 0)) := by rw [← hW4]; exact Joins.block_setCell (Joins.block_setCell XB.out _) _
    have B4 : Hid (Below w.heap.size w W4) := by rw [← hW4]; exact (B3.out.setCell (p := ⟨w.heap.size, 8, none⟩) (Nat.le_refl _) _).setCell (p := ⟨w.heap.size, 9, none⟩) (Nat.le_refl _) _
    have O4 : Hid (W4.ownsRow w.heap.size 5 1 (.slice a6 b.length c6) b.length (b.map byteV)) := by
      rw [← hW4]
      refine ownsRow_base (owns_block O6.out (fun k hk => ?_)) (Nat.le_succ _)
      have hk' := (O6.out.lt k hk).1
      rw [Below.heap_setCell _ _ _ _ (by show k ≠ w.heap.size; omega), Below.heap_setCell _ _ _ _ (by show k ≠ w.heap.size; omega)]
    have CL := Lib.hid (CALL.out W4.drew a6 c6 B4.out.drew (owns_below O4.out (Below.refl _ W4).drew))
    obtain ⟨S0, hS0⟩ : ∃ S0 : World → Prop, S0 = fun w' => w'.cell? ⟨S, 2, none⟩ = some (.pointer (some ⟨A1, 0, none⟩)) ∧ w'.heap[w.heap.size]? = some (.cells #[.pointer (some ⟨B, 0, none⟩), .pointer (some ⟨A0, 0, none⟩), .pointer (some ⟨A1, 0, none⟩), .pointer (some ⟨AL, 0, none⟩), .int .i64 1, .int .i64 (b.length : Int), .int .i64 0, .int .i64 (tt : Int), .slice a6 b.length c6, .slice none 0 0, .bool false] 141 (0, 0)) := ⟨_, rfl⟩
    have hSS : Hid (∀ w', S0 w' → w'.cell? ⟨S, 2, none⟩ = some (.pointer (some ⟨A1, 0, none⟩)) ∧ w'.cell? ⟨w.heap.size, 0, none⟩ = some (.pointer (some ⟨B, 0, none⟩)) ∧ w'.cell? ⟨w.heap.size, 1, none⟩ = some (.pointer (some ⟨A0, 0, none⟩)) ∧ w'.cell? ⟨w.heap.size, 2, none⟩ = some (.pointer (some ⟨A1, 0, none⟩)) ∧ w'.cell? ⟨w.heap.size, 3, none⟩ = some (.pointer (some ⟨AL, 0, none⟩)) ∧ w'.cell? ⟨w.heap.size, 4, none⟩ = some (.int .i64 1) ∧ w'.cell? ⟨w.heap.size, 5, none⟩ = some (.int .i64 (b.length : Int)) ∧ w'.cell? ⟨w.heap.size, 6, none⟩ = some (.int .i64 0) ∧ w'.cell? ⟨w.heap.size, 7, none⟩ = some (.int .i64 (tt : Int)) ∧ w'.cell? ⟨w.heap.size, 8, none⟩ = some (.slice a6 b.length c6) ∧ w'.cell? ⟨w.heap.size, 9, none⟩ = some (.slice none 0 0) ∧ w'.cell? ⟨w.heap.size, 10, none⟩ = some (.bool false)) := fun w' hh => by
      rw [hS0] at hh
      obtain ⟨a, c⟩ := hh
      exact ⟨a, Joins.cell_of_block c 0, Joins.cell_of_block c 1, Joins.cell_of_block c 2, Joins.cell_of_block c 3, Joins.cell_of_block c 4, Joins.cell_of_block c 5, Joins.cell_of_block c 6, Joins.cell_of_block c 7, Joins.cell_of_block c 8, Joins.cell_of_block c 9, Joins.cell_of_block c 10⟩
    have s0 : S0 W4.drew := by rw [hS0]; exact ⟨Joins.cell_of_block (S1.out W4.drew B4.out.drew) 2, xb4⟩
    have SK : Hid (∀ w', SrKeep w W4.drew S A0 A1 AL w' → S0 w') := fun w' hk => by
      rw [hS0]
      exact ⟨hk.c2, (hk.keep w.heap.size (Nat.le_refl _) (Array.getElem?_eq_some_iff.1 xb4).1).trans xb4⟩
    have HW4 := Lib.hid hW4
    clear hS0 hW4 xb4 B3 O6 XB c8 f8 c9 f9 CALL O4
    go_wp2_with fail
    refine wp_region_held (S := S0) (by kernel_rfl) ?_
    change wpAnyH _ _ _ _ _ _ _ _ (World.drew _)
    rw [HW4.out]
    refine wpAnyH_take (i := 0) (v := .pointer (some ⟨S, 0, none⟩)) rfl (by kernel_rfl) (by kernel_rfl) (by kernel_rfl) (fun _ _ _ h => h) (.inl ⟨by rfl, by intro w hw; go_simp⟩) s0 ?_
    try simp only [Act.put, List.getElem_toArray, List.getElem_cons_zero, List.getElem_cons_succ, List.setIfInBounds_toArray, List.set_cons_zero, List.set_cons_succ]
    refine wpAnyH_take (i := 1) (v := .pointer (some ⟨S, 0, none⟩)) rfl (by kernel_rfl) (by kernel_rfl) (by kernel_rfl) (fun _ _ _ h => h) (.inl ⟨by rfl, by intro w hw; go_simp⟩) s0 ?_
    try simp only [Act.put, List.getElem_toArray, List.getElem_cons_zero, List.getElem_cons_succ, List.setIfInBounds_toArray, List.set_cons_zero, List.set_cons_succ]
    refine wpAnyH_take (i := 2) (v := .pointer (some ⟨w.heap.size, 4, none⟩)) rfl (by kernel_rfl) (by kernel_rfl) (by kernel_rfl) (fun _ _ _ h => h) (.inl ⟨by rfl, by intro w hw; go_simp⟩) s0 ?_
    try simp only [Act.put, List.getElem_toArray, List.getElem_cons_zero, List.getElem_cons_succ, List.setIfInBounds_toArray, List.set_cons_zero, List.set_cons_succ]
    refine wpAnyH_take (i := 3) (v := .int .i64 1) rfl (by kernel_rfl) (by kernel_rfl) (by kernel_rfl) (fun _ _ _ h => h) (.inl ⟨by rfl, by intro w' hw; have h := hSS.out w' hw; obtain ⟨q0, q1, q2, q3, q4, q5, q6, q7, q8, q9, q10, q11⟩ := h; go_simp⟩) s0 ?_
    try simp only [Act.put, List.getElem_toArray, List.getElem_cons_zero, List.getElem_cons_succ, List.setIfInBounds_toArray, List.set_cons_zero, List.set_cons_succ]
    refine wpAnyH_take (i := 4) (v := .pointer (some ⟨S, 0, none⟩)) rfl (by kernel_rfl) (by kernel_rfl) (by kernel_rfl) (fun _ _ _ h => h) (.inl ⟨by rfl, by intro w hw; go_simp⟩) s0 ?_
    try simp only [Act.put, List.getElem_toArray, List.getElem_cons_zero, List.getElem_cons_succ, List.setIfInBounds_toArray, List.set_cons_zero, List.set_cons_succ]
    refine wpAnyH_take (i := 5) (v := .pointer (some ⟨S, 1, none⟩)) rfl (by kernel_rfl) (by kernel_rfl) (by kernel_rfl) (fun _ _ _ h => h) (.inl ⟨by rfl, by intro w hw; go_simp⟩) s0 ?_
    try simp only [Act.put, List.getElem_toArray, List.getElem_cons_zero, List.getElem_cons_succ, List.setIfInBounds_toArray, List.set_cons_zero, List.set_cons_succ]
    refine wpAnyH_take (i := 6) (v := .pointer (some ⟨S, 2, none⟩)) rfl (by kernel_rfl) (by kernel_rfl) (by kernel_rfl) (fun _ _ _ h => h) (.inl ⟨by rfl, by intro w hw; go_simp⟩) s0 ?_
    try simp only [Act.put, List.getElem_toArray, List.getElem_cons_zero, List.getElem_cons_succ, List.setIfInBounds_toArray, List.set_cons_zero, List.set_cons_succ]
    refine wpAnyH_take (i := 7) (v := .pointer (some ⟨A1, 0, none⟩)) rfl (by kernel_rfl) (by kernel_rfl) (by kernel_rfl) (fun _ _ _ h => h) (.inl ⟨by rfl, by intro w' hw; have h := hSS.out w' hw; obtain ⟨q0, q1, q2, q3, q4, q5, q6, q7, q8, q9, q10, q11⟩ := h; go_simp⟩) s0 ?_
    try simp only [Act.put, List.getElem_toArray, List.getElem_cons_zero, List.getElem_cons_succ, List.setIfInBounds_toArray, List.set_cons_zero, List.set_cons_succ]
    refine wpAnyH_take (i := 8) (v := .slice (some ⟨g, off, none⟩) b.length cap) rfl (by kernel_rfl) (by kernel_rfl) (by kernel_rfl) (fun _ _ _ h => h) (.inl ⟨by rfl, by intro w hw; go_simp⟩) s0 ?_
    try simp only [Act.put, List.getElem_toArray, List.getElem_cons_zero, List.getElem_cons_succ, List.setIfInBounds_toArray, List.set_cons_zero, List.set_cons_succ]
    refine wpAnyH_take (i := 9) (v := .agg #[.pointer (some ⟨B, 0, none⟩), .pointer (some ⟨A0, 0, none⟩), .pointer (some ⟨A1, 0, none⟩), .pointer (some ⟨AL, 0, none⟩), .int .i64 1, .int .i64 (b.length : Int), .int .i64 0, .int .i64 (tt : Int), .slice a6 b.length c6, .slice none 0 0, .bool false]) rfl (by kernel_rfl) (by kernel_rfl) (by kernel_rfl) (fun _ _ _ h => h) (.inl ⟨by rfl, by intro w' hw; have h := hSS.out w' hw; obtain ⟨q0, q1, q2, q3, q4, q5, q6, q7, q8, q9, q10, q11⟩ := h; go_simp⟩) s0 ?_
    try simp only [Act.put, List.getElem_toArray, List.getElem_cons_zero, List.getElem_cons_succ, List.setIfInBounds_toArray, List.set_cons_zero, List.set_cons_succ]
    refine wpAnyH_one (i := 10) (by kernel_rfl) rfl (by rfl) (fun Kc hK => ?_)
    go_simp
    refine (CL.out.mono ?_)
    rintro en w5 ⟨h4', k4'⟩
    have h4 : en = .returned (.int .i64 rr.2.2) ∧ SrorOf F G w S B rr.1 rr.2.1 rr.2.2 en w5 := ⟨h4'.1, h4'⟩
    obtain ⟨rfl, _⟩ := h4'
    go_simp
    refine hK _ _ (SK.out _ k4') ?_
    clear hK Kc
    try simp only [Act.put, List.getElem_toArray, List.getElem_cons_zero, List.getElem_cons_succ, List.setIfInBounds_toArray, List.set_cons_zero, List.set_cons_succ]
    refine wpAnyH_take (i := 11) (v := .int .i64 rr.2.2) rfl (by kernel_rfl) (by kernel_rfl) (by kernel_rfl) (fun _ _ _ h => h) (.inl ⟨by rfl, by intro w hw; go_simp⟩) (SK.out _ k4') ?_
    try simp only [Act.put, List.getElem_toArray, List.getElem_cons_zero, List.getElem_cons_succ, List.setIfInBounds_toArray, List.set_cons_zero, List.set_cons_succ]
    refine wpAnyH_done (by kernel_rfl) ?_ _
    have E4 := Lib.hid h4
    clear h4 s0 hSS SK
    go_wp2_with fail
    go_ret
    exact E4.out.2
  · skip
    have CALL : Hid (∀ (W4 : World) (a6 : Option Addr) (c6 : Nat), Below w.heap.size w W4 → W4.ownsRow w.heap.size 5 1 (.slice a6 b.length c6) b.length (b.map byteV) → Calls Try.prog 100 #[.pointer (some ⟨S, 0, none⟩), .pointer (some ⟨A0, 0, none⟩), .int .i64 0, .slice (some ⟨g, off, none⟩) b.length cap, .agg #[.pointer (some ⟨B, 0, none⟩), .pointer (some ⟨A0, 0, none⟩), .pointer (some ⟨A1, 0, none⟩), .pointer (some ⟨AL, 0, none⟩), .int .i64 0, .int .i64 (b.length : Int), .int .i64 0, .int .i64 (turnOf s.h : Int), .slice a6 b.length c6, .slice none 0 0, .bool false]] W4 (fun en w' => SrorOf F G w S B (ssave d s b).1 (ssave d s b).2.1 (ssave d s b).2.2 en w' ∧ SrKeep w W4 S A0 A1 AL w')) := fun W4 a6 c6 hb4 ho => by
      have := rsave_call hd V dis hbk hfit hlc hb hgF hgl hb32 hp hw hy V.a0 V.f0 (by rw [hsl]; omega) (by omega) hb4 ho
      rw [hsl] at this
      exact this
    generalize ssave d s b = rr at CALL ⊢
    have S1 : Hid (∀ W, Below w.heap.size w W → W.heap[S]? = some (.cells (srcells B A0 A1 AL s (.slice ac s.check.length cc) (.slice ar s.recs.length cr)) 141 (0, 0))) := fun W hW => (hW.block S hSl).trans V.blk
    have hslI : (s.h.slot : Int) = 1 := by omega
    have k0 : w.cell? ⟨S, 0, none⟩ = some (.pointer (some ⟨B, 0, none⟩)) := Joins.cell_of_block V.blk 0
    have k2 : w.cell? ⟨S, 2, none⟩ = some (.pointer (some ⟨A1, 0, none⟩)) := Joins.cell_of_block V.blk 2
    have k3 : w.cell? ⟨S, 3, none⟩ = some (.pointer (some ⟨AL, 0, none⟩)) := Joins.cell_of_block V.blk 3
    have k4 : w.cell? ⟨S, 4, none⟩ = some (.int .i64 1) := by rw [← hslI]; exact Joins.cell_of_block V.blk 4
    have k5 : w.cell? ⟨S, 5, none⟩ = some (.int .i64 (s.h.long : Int)) := Joins.cell_of_block V.blk 5
    have k6 : w.cell? ⟨S, 6, none⟩ = some (.int .i64 (s.h.used : Int)) := Joins.cell_of_block V.blk 6
    have k7 : w.cell? ⟨S, 7, none⟩ = some (.int .i64 (s.h.turn : Int)) := Joins.cell_of_block V.blk 7
    have k8 : w.cell? ⟨S, 8, none⟩ = some (.slice ac s.check.length cc) := Joins.cell_of_block V.blk 8
    have k9 : w.cell? ⟨S, 9, none⟩ = some (.slice ar s.recs.length cr) := Joins.cell_of_block V.blk 9
    have hti : ((s.h.turn : Int) + 1) % 4294967296 = (turnOf s.h : Int) := by unfold turnOf; omega
    have RBW := Lib.hid hb
    clear V hbk hfit hslI hsl
    clear hb
    obtain ⟨tt, htt⟩ : ∃ tt, turnOf s.h = tt := ⟨_, rfl⟩
    rw [htt] at hti CALL
    clear htt
    go_enter Try.func80, Try.ntmps80
    go_wp2_with fail
    refine SZ.out.mono ?_
    rintro en w1 ⟨rfl, rfl⟩
    go_wp2_with (at_builtin; refine app_bytes rfl (.tmp 39) (.tmp 40) rfl (w.heap.size + 1) (.slice (some ⟨w.heap.size + 1, 0, none⟩) 0 0) [] b cap rfl (owns_bytes _ [] _ (w.heap.size + 1) (w.heap.size + 1) (by simp) (Nat.le_refl _) rfl (by unfold maxLen; simp)) (some ⟨g, off, none⟩) rfl (fun e => by cases e) ((RBW.out.alloc _).alloc _) (by simp; omega) (by simp) ?_; intro v6 w3 o6 b6 g6; rw [List.nil_append] at o6; obtain ⟨a6, c6, rfl⟩ := row_form o6; have xb : w3.heap[w.heap.size]? = some (.cells #[.pointer (some ⟨B, 0, none⟩), .pointer (some ⟨A0, 0, none⟩), .pointer (some ⟨A1, 0, none⟩), .pointer (some ⟨AL, 0, none⟩), .int .i64 0, .int .i64 (b.length : Int), .int .i64 0, .int .i64 (tt : Int), .slice ac s.check.length cc, .slice ar s.recs.length cr, .bool false] 141 (0, 0)) := (b6.block w.heap.size (by omega)).trans ((Below.heap_alloc _ _ _ (by simp)).trans (heap_alloc_new w _)); have B3 := Lib.hid (((below_alloc w _).alloc (by simp) _).trans (b6.mono (by omega))); have O6 := Lib.hid o6; have XB := Lib.hid xb; have c8 := Joins.cell_of_block xb 8; have f8 := Joins.unfrozen_of_block xb 8; have c9 := Joins.cell_of_block xb 9; have f9 := Joins.unfrozen_of_block xb 9; dsimp at c8 c9; clear o6 xb b6 g6)
    obtain ⟨W4, hW4⟩ : ∃ W4, (w3.setCell ⟨w.heap.size, 8, none⟩ (.slice a6 b.length c6)).setCell ⟨w.heap.size, 9, none⟩ (.slice none 0 0) = W4 := ⟨_, rfl⟩
    have xb4 : W4.heap[w.heap.size]? = some (.cells #[.pointer (some ⟨B, 0, none⟩), .pointer (some ⟨A0, 0, none⟩), .pointer (some ⟨A1, 0, none⟩), .pointer (some ⟨AL, 0, none⟩), .int .i64 0, .int .i64 (b.length : Int), .int .i64 0, .int .i64 (tt : Int), .slice a6 b.length c6, .slice none 0 0, .bool false] 141 (0, 0)) := by rw [← hW4]; exact Joins.block_setCell (Joins.block_setCell XB.out _) _
    have B4 : Hid (Below w.heap.size w W4) := by rw [← hW4]; exact (B3.out.setCell (p := ⟨w.heap.size, 8, none⟩) (Nat.le_refl _) _).setCell (p := ⟨w.heap.size, 9, none⟩) (Nat.le_refl _) _
    have O4 : Hid (W4.ownsRow w.heap.size 5 1 (.slice a6 b.length c6) b.length (b.map byteV)) := by
      rw [← hW4]
      refine ownsRow_base (owns_block O6.out (fun k hk => ?_)) (Nat.le_succ _)
      have hk' := (O6.out.lt k hk).1
      rw [Below.heap_setCell _ _ _ _ (by show k ≠ w.heap.size; omega), Below.heap_setCell _ _ _ _ (by show k ≠ w.heap.size; omega)]
    have CL := Lib.hid (CALL.out W4.drew a6 c6 B4.out.drew (owns_below O4.out (Below.refl _ W4).drew))
    obtain ⟨S0, hS0⟩ : ∃ S0 : World → Prop, S0 = fun w' => w'.cell? ⟨S, 1, none⟩ = some (.pointer (some ⟨A0, 0, none⟩)) ∧ w'.heap[w.heap.size]? = some (.cells #[.pointer (some ⟨B, 0, none⟩), .pointer (some ⟨A0, 0, none⟩), .pointer (some ⟨A1, 0, none⟩), .pointer (some ⟨AL, 0, none⟩), .int .i64 0, .int .i64 (b.length : Int), .int .i64 0, .int .i64 (tt : Int), .slice a6 b.length c6, .slice none 0 0, .bool false] 141 (0, 0)) := ⟨_, rfl⟩
    have hSS : Hid (∀ w', S0 w' → w'.cell? ⟨S, 1, none⟩ = some (.pointer (some ⟨A0, 0, none⟩)) ∧ w'.cell? ⟨w.heap.size, 0, none⟩ = some (.pointer (some ⟨B, 0, none⟩)) ∧ w'.cell? ⟨w.heap.size, 1, none⟩ = some (.pointer (some ⟨A0, 0, none⟩)) ∧ w'.cell? ⟨w.heap.size, 2, none⟩ = some (.pointer (some ⟨A1, 0, none⟩)) ∧ w'.cell? ⟨w.heap.size, 3, none⟩ = some (.pointer (some ⟨AL, 0, none⟩)) ∧ w'.cell? ⟨w.heap.size, 4, none⟩ = some (.int .i64 0) ∧ w'.cell? ⟨w.heap.size, 5, none⟩ = some (.int .i64 (b.length : Int)) ∧ w'.cell? ⟨w.heap.size, 6, none⟩ = some (.int .i64 0) ∧ w'.cell? ⟨w.heap.size, 7, none⟩ = some (.int .i64 (tt : Int)) ∧ w'.cell? ⟨w.heap.size, 8, none⟩ = some (.slice a6 b.length c6) ∧ w'.cell? ⟨w.heap.size, 9, none⟩ = some (.slice none 0 0) ∧ w'.cell? ⟨w.heap.size, 10, none⟩ = some (.bool false)) := fun w' hh => by
      rw [hS0] at hh
      obtain ⟨a, c⟩ := hh
      exact ⟨a, Joins.cell_of_block c 0, Joins.cell_of_block c 1, Joins.cell_of_block c 2, Joins.cell_of_block c 3, Joins.cell_of_block c 4, Joins.cell_of_block c 5, Joins.cell_of_block c 6, Joins.cell_of_block c 7, Joins.cell_of_block c 8, Joins.cell_of_block c 9, Joins.cell_of_block c 10⟩
    have s0 : S0 W4.drew := by rw [hS0]; exact ⟨Joins.cell_of_block (S1.out W4.drew B4.out.drew) 1, xb4⟩
    have SK : Hid (∀ w', SrKeep w W4.drew S A0 A1 AL w' → S0 w') := fun w' hk => by
      rw [hS0]
      exact ⟨hk.c1, (hk.keep w.heap.size (Nat.le_refl _) (Array.getElem?_eq_some_iff.1 xb4).1).trans xb4⟩
    have HW4 := Lib.hid hW4
    clear hS0 hW4 xb4 B3 O6 XB c8 f8 c9 f9 CALL O4
    go_wp2_with fail
    refine wp_region_held (S := S0) (by kernel_rfl) ?_
    change wpAnyH _ _ _ _ _ _ _ _ (World.drew _)
    rw [HW4.out]
    refine wpAnyH_take (i := 0) (v := .pointer (some ⟨S, 0, none⟩)) rfl (by kernel_rfl) (by kernel_rfl) (by kernel_rfl) (fun _ _ _ h => h) (.inl ⟨by rfl, by intro w hw; go_simp⟩) s0 ?_
    try simp only [Act.put, List.getElem_toArray, List.getElem_cons_zero, List.getElem_cons_succ, List.setIfInBounds_toArray, List.set_cons_zero, List.set_cons_succ]
    refine wpAnyH_take (i := 1) (v := .pointer (some ⟨S, 0, none⟩)) rfl (by kernel_rfl) (by kernel_rfl) (by kernel_rfl) (fun _ _ _ h => h) (.inl ⟨by rfl, by intro w hw; go_simp⟩) s0 ?_
    try simp only [Act.put, List.getElem_toArray, List.getElem_cons_zero, List.getElem_cons_succ, List.setIfInBounds_toArray, List.set_cons_zero, List.set_cons_succ]
    refine wpAnyH_take (i := 2) (v := .pointer (some ⟨w.heap.size, 4, none⟩)) rfl (by kernel_rfl) (by kernel_rfl) (by kernel_rfl) (fun _ _ _ h => h) (.inl ⟨by rfl, by intro w hw; go_simp⟩) s0 ?_
    try simp only [Act.put, List.getElem_toArray, List.getElem_cons_zero, List.getElem_cons_succ, List.setIfInBounds_toArray, List.set_cons_zero, List.set_cons_succ]
    refine wpAnyH_take (i := 3) (v := .int .i64 0) rfl (by kernel_rfl) (by kernel_rfl) (by kernel_rfl) (fun _ _ _ h => h) (.inl ⟨by rfl, by intro w' hw; have h := hSS.out w' hw; obtain ⟨q0, q1, q2, q3, q4, q5, q6, q7, q8, q9, q10, q11⟩ := h; go_simp⟩) s0 ?_
    try simp only [Act.put, List.getElem_toArray, List.getElem_cons_zero, List.getElem_cons_succ, List.setIfInBounds_toArray, List.set_cons_zero, List.set_cons_succ]
    refine wpAnyH_take (i := 4) (v := .pointer (some ⟨S, 0, none⟩)) rfl (by kernel_rfl) (by kernel_rfl) (by kernel_rfl) (fun _ _ _ h => h) (.inl ⟨by rfl, by intro w hw; go_simp⟩) s0 ?_
    try simp only [Act.put, List.getElem_toArray, List.getElem_cons_zero, List.getElem_cons_succ, List.setIfInBounds_toArray, List.set_cons_zero, List.set_cons_succ]
    refine wpAnyH_take (i := 5) (v := .pointer (some ⟨S, 1, none⟩)) rfl (by kernel_rfl) (by kernel_rfl) (by kernel_rfl) (fun _ _ _ h => h) (.inl ⟨by rfl, by intro w hw; go_simp⟩) s0 ?_
    try simp only [Act.put, List.getElem_toArray, List.getElem_cons_zero, List.getElem_cons_succ, List.setIfInBounds_toArray, List.set_cons_zero, List.set_cons_succ]
    refine wpAnyH_take (i := 6) (v := .pointer (some ⟨S, 1, none⟩)) rfl (by kernel_rfl) (by kernel_rfl) (by kernel_rfl) (fun _ _ _ h => h) (.inl ⟨by rfl, by intro w hw; go_simp⟩) s0 ?_
    try simp only [Act.put, List.getElem_toArray, List.getElem_cons_zero, List.getElem_cons_succ, List.setIfInBounds_toArray, List.set_cons_zero, List.set_cons_succ]
    refine wpAnyH_take (i := 7) (v := .pointer (some ⟨A0, 0, none⟩)) rfl (by kernel_rfl) (by kernel_rfl) (by kernel_rfl) (fun _ _ _ h => h) (.inl ⟨by rfl, by intro w' hw; have h := hSS.out w' hw; obtain ⟨q0, q1, q2, q3, q4, q5, q6, q7, q8, q9, q10, q11⟩ := h; go_simp⟩) s0 ?_
    try simp only [Act.put, List.getElem_toArray, List.getElem_cons_zero, List.getElem_cons_succ, List.setIfInBounds_toArray, List.set_cons_zero, List.set_cons_succ]
    refine wpAnyH_take (i := 8) (v := .slice (some ⟨g, off, none⟩) b.length cap) rfl (by kernel_rfl) (by kernel_rfl) (by kernel_rfl) (fun _ _ _ h => h) (.inl ⟨by rfl, by intro w hw; go_simp⟩) s0 ?_
    try simp only [Act.put, List.getElem_toArray, List.getElem_cons_zero, List.getElem_cons_succ, List.setIfInBounds_toArray, List.set_cons_zero, List.set_cons_succ]
    refine wpAnyH_take (i := 9) (v := .agg #[.pointer (some ⟨B, 0, none⟩), .pointer (some ⟨A0, 0, none⟩), .pointer (some ⟨A1, 0, none⟩), .pointer (some ⟨AL, 0, none⟩), .int .i64 0, .int .i64 (b.length : Int), .int .i64 0, .int .i64 (tt : Int), .slice a6 b.length c6, .slice none 0 0, .bool false]) rfl (by kernel_rfl) (by kernel_rfl) (by kernel_rfl) (fun _ _ _ h => h) (.inl ⟨by rfl, by intro w' hw; have h := hSS.out w' hw; obtain ⟨q0, q1, q2, q3, q4, q5, q6, q7, q8, q9, q10, q11⟩ := h; go_simp⟩) s0 ?_
    try simp only [Act.put, List.getElem_toArray, List.getElem_cons_zero, List.getElem_cons_succ, List.setIfInBounds_toArray, List.set_cons_zero, List.set_cons_succ]
    refine wpAnyH_one (i := 10) (by kernel_rfl) rfl (by rfl) (fun Kc hK => ?_)
    go_simp
    refine (CL.out.mono ?_)
    rintro en w5 ⟨h4', k4'⟩
    have h4 : en = .returned (.int .i64 rr.2.2) ∧ SrorOf F G w S B rr.1 rr.2.1 rr.2.2 en w5 := ⟨h4'.1, h4'⟩
    obtain ⟨rfl, _⟩ := h4'
    go_simp
    refine hK _ _ (SK.out _ k4') ?_
    clear hK Kc
    try simp only [Act.put, List.getElem_toArray, List.getElem_cons_zero, List.getElem_cons_succ, List.setIfInBounds_toArray, List.set_cons_zero, List.set_cons_succ]
    refine wpAnyH_take (i := 11) (v := .int .i64 rr.2.2) rfl (by kernel_rfl) (by kernel_rfl) (by kernel_rfl) (fun _ _ _ h => h) (.inl ⟨by rfl, by intro w hw; go_simp⟩) (SK.out _ k4') ?_
    try simp only [Act.put, List.getElem_toArray, List.getElem_cons_zero, List.getElem_cons_succ, List.setIfInBounds_toArray, List.set_cons_zero, List.set_cons_succ]
    refine wpAnyH_done (by kernel_rfl) ?_ _
    have E4 := Lib.hid h4
    clear h4 s0 hSS SK
    go_wp2_with fail
    go_ret
    exact E4.out.2
end Go.Proofs.Ytopemjbakpahfaa

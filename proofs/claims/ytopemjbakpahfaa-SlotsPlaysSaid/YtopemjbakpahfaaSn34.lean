/-
  Contracts and plain laws, part 34 (texts: S12). No condition but what each states.
-/
import Derived.Test.YtopemjbakpahfaaSn33
/-
  Appending a record: the walk. No condition but that the numbers are small.
-/
namespace Go.Proofs.Ytopemjbakpahfaa
open Go.RowKit Disk Jour Crc Slot
set_option linter.unusedSimpArgs false
set_option linter.unusedVariables false
theorem sappend_broken {d : Dev} {s : St} {b : List UInt8} (h : s.broken = true) : sappend d s b = (d, s, 14) := by unfold sappend; rw [if_pos h]
theorem sappend_full {d : Dev} {s : St} {b : List UInt8} (h : s.broken = false) (h2 : s.room < ((b.length + 6 : Nat) : Int)) : sappend d s b = (d, s, 2) := by unfold sappend; rw [if_neg (by rw [h]; decide), if_pos h2]
theorem sappend_no {d : Dev} {s : St} {b : List UInt8} (h : s.broken = false) (h2 : ¬ s.room < ((b.length + 6 : Nat) : Int)) (h3 : (apD d s b).2 ≠ 0) : sappend d s b = ((apD d s b).1, { s with broken := true }, (apD d s b).2) := by unfold sappend; rw [if_neg (by rw [h]; decide), if_neg h2, if_pos h3]
theorem sappend_yes {d : Dev} {s : St} {b : List UInt8} (h : s.broken = false) (h2 : ¬ s.room < ((b.length + 6 : Nat) : Int)) (h3 : (apD d s b).2 = 0) : sappend d s b = ((apD d s b).1, { s with h := apHd s b, recs := s.recs ++ [b] }, 0) := by unfold sappend; rw [if_neg (by rw [h]; decide), if_neg h2, if_neg (by rw [h3]; decide)]
/-- Rows of bytes, element by element. -/
def Elems (G : Nat → Prop) (w : World) (vs : List Value) (L : List (List UInt8)) : Prop := ∀ (i : Nat) (u : Value) (l : List UInt8), vs[i]? = some u → L[i]? = some l → BsG G w u l
theorem Elems.snoc {G : Nat → Prop} {w : World} {vs : List Value} {L : List (List UInt8)} (h : Elems G w vs L) (hl : vs.length = L.length) {v : Value} {l : List UInt8} (h2 : BsG G w v l) : Elems G w (vs ++ [v]) (L ++ [l]) := by
  intro i u m hu hm
  by_cases hi : i < vs.length
  · rw [List.getElem?_append_left hi] at hu
    rw [List.getElem?_append_left (by omega)] at hm
    exact h i u m hu hm
  · rw [List.getElem?_append_right (by omega)] at hu
    rw [List.getElem?_append_right (by omega)] at hm
    have hz : i - vs.length = 0 := by
      rcases Nat.eq_zero_or_pos (i - vs.length) with h | h
      · exact h
      · rw [List.getElem?_eq_none (by simp; omega)] at hu; cases hu
    rw [hz] at hu
    rw [← hl, hz] at hm
    simp at hu hm
    subst hu hm
    exact h2
/-- Behind an appending that told OK. -/
theorem append_fin {F G : Nat → Prop} {w w1 w3 w4 w6 : World} {S B A0 A1 AL : Nat} {s : St} {vc vr : Value} {d e : Dev} (hd : IsDev F w B d) (V : StV G w S B A0 A1 AL s vc vr) (dis : ∀ k, G k → ¬ F k) (hb : Below w.heap.size w w1) {h : Hd} (P : SafePost F w1 S B A0 A1 AL { s with h := h, broken := false } vc vr e w3)
    {vs : List Value} (r1 : w3.ownsRow 0 22 1 vr s.recs.length vs) (r2 : ∀ k, vr.ownBlock = some k → G k) (r3 : Elems G w3 vs s.recs)
    {v v6 : Value} {b : List UInt8} (b4 : Below w3.heap.size w3 w4) (o4 : w4.ownsRow w3.heap.size 5 1 v b.length (b.map byteV)) (X : Obj) (o6 : w6.ownsRow 0 22 1 v6 (s.recs.length + 1) (vs ++ [v])) (g6 : (w4.alloc X).grownBy w6 vr.ownBlock) (at6 : v6.ownBlock = vr.ownBlock ∨ v6.ownBlock = some (w4.alloc X).heap.size)
    (ok : StOk { s with h := h, broken := false, recs := s.recs ++ [b] }) :
    StorOf F G w S B e { s with h := h, broken := false, recs := s.recs ++ [b] } 0 (.returned (.int .i64 0)) (w6.setCell ⟨S, 9, none⟩ v6) := by
  obtain ⟨F', h1, h2⟩ := P.dev
  have hsz := hb.size
  have hs3 := P.frm.size
  have hs4 := b4.size
  have hs5 : (w4.alloc X).heap.size = w4.heap.size + 1 := by simp
  have hs6 := g6.size
  have hSl := V.lt S V.fs
  have b5 : Below w3.heap.size w3 (w4.alloc X) := b4.alloc hs4 X
  have R := (V.below hb).rest P.frm dis
  have hblk5 := (b5.block S (by omega)).trans P.blk
  have rw5 := (owns_below r1 b5)
  have row5 : RowOf (w4.alloc X) vr.ownBlock 22 := rowOf_owns rw5
  have rowS : ∀ k, vr.ownBlock = some k → k ≠ S := row_apart hblk5 rw5 (by decide)
  have hblk6 : w6.heap[S]? = some (.cells (stcells B A0 A1 AL { s with h := h, broken := false } vc vr) 134 (0, 0)) := (g6.block S (by omega) (fun e => rowS S e.symm rfl)).trans hblk5
  have hblk : (w6.setCell ⟨S, 9, none⟩ v6).heap[S]? = some (.cells (stcells B A0 A1 AL { s with h := h, broken := false, recs := s.recs ++ [b] } vc v6) 134 (0, 0)) := Joins.block_setCell hblk6 v6
  have nS : ¬ F' S := fun hx => (h2 S hx).elim (dis S V.fs) (fun h => by omega)
  have fS : Frm (fun k => k = S) w6 (w6.setCell ⟨S, 9, none⟩ v6) := Frm.setCell w6 9 v6 rfl
  have sS : (w6.setCell ⟨S, 9, none⟩ v6).heap.size = w6.heap.size := by simp
  -- what is not the row, nor the store's block
  have ea : ∀ k, k < (w4.alloc X).heap.size → some k ≠ vr.ownBlock → k ≠ S → (w6.setCell ⟨S, 9, none⟩ v6).heap[k]? = (w4.alloc X).heap[k]? := fun k hl hr hne => (fS.block k (by omega) hne).trans (g6.block k hl hr)
  have area : ∀ {A first n : Nat}, IsArea w3 A B first n → IsArea (w6.setCell ⟨S, 9, none⟩ v6) A B first n := fun {A first n} hA => by
    have hA5 := hA.below b5
    refine hA5.same (ea A hA5.lt (fun e => ?_) (area_ne hA5 hblk5))
    obtain ⟨cs, fr, hr⟩ := row5 A e.symm
    rw [hA5.blk] at hr; cases hr
  have bytes5 : ∀ {u : Value} {l : List UInt8}, (w4.alloc X).ownsRow 0 5 1 u l.length (l.map byteV) → (w6.setCell ⟨S, 9, none⟩ v6).ownsRow 0 5 1 u l.length (l.map byteV) := fun {u l} hu => by
    refine owns_block hu (fun k hk => ea k (hu.lt k hk).2 (fun e => ?_) (row_apart hblk5 hu (by decide) k hk))
    obtain ⟨cs, fr, hr⟩ := row5 k e.symm
    obtain ⟨cs', fr', hr'⟩ := rowOf_owns hu k hk
    rw [hr] at hr'; cases hr'
  have keepB : ∀ {u : Value} {l : List UInt8}, BsG G w3 u l → BsG (fun k => G k ∨ (w3.heap.size ≤ k ∧ k < w6.heap.size)) (w6.setCell ⟨S, 9, none⟩ v6) u l := fun {u l} hu =>
    ⟨bytes5 (owns_below hu.1 b5), fun k hk => .inl (hu.2 k hk)⟩
  have o5 : (w4.alloc X).ownsRow 0 5 1 v b.length (b.map byteV) := ownsRow_base (owns_below o4 (below_alloc w4 X)) (Nat.zero_le _)
  have newB : BsG (fun k => G k ∨ (w3.heap.size ≤ k ∧ k < w6.heap.size)) (w6.setCell ⟨S, 9, none⟩ v6) v b := ⟨bytes5 o5, fun k hk => .inr (by have := o4.lt k hk; omega)⟩
  have v6ne : ∀ k, v6.ownBlock = some k → k ≠ S := fun k hk => by
    rcases at6 with h | h
    · exact rowS k (h ▸ hk)
    · rw [h] at hk; cases hk; omega
  have dev6 : IsDev F' w6 B e := by
    refine (h1.below b5).frm (G := fun k => vr.ownBlock = some k) (Frm.grown g6 (fun k hk => hk)) (fun k hk hr => ?_)
    have hG := r2 k hr
    have := V.lt k hG
    rcases h2 k hk with h | h
    · exact dis k hG h
    · omega
  refine ⟨rfl, ?_, F', fun k => G k ∨ (w3.heap.size ≤ k ∧ k < w6.heap.size), ⟨dev6.frm fS (fun k hk he => nS (by rw [← he]; exact hk)), ⟨A0, A1, AL, vc, v6, hblk, area R.a0, area R.a1, area R.al, keepB R.check, ⟨vs ++ [v], ?_, fun k hk => ?_, ?_⟩, .inl V.fs, .inl V.f0, .inl V.f1, .inl V.fl, fun k hk => ?_, ok⟩, fun k hk hF => ?_⟩, fun k hk => (h2 k hk).imp_right (fun h => by omega), fun k hk => hk.imp_right (fun h => by omega)⟩
  · have f3 := (Frm.drop hb P.frm V.fs).trans (Frm.of_below (F := fun k => F k ∨ G k) b5) (fun k hk => .inl hk)
    have f6 := f3.trans (Frm.grown (F := fun k => F k ∨ G k) g6 (fun k hk => .inr (r2 k hk))) (fun k hk => .inl hk)
    exact f6.trans fS (fun k hk => .inl (by rw [hk]; exact .inr V.fs))
  · have : (s.recs ++ [b]).length = s.recs.length + 1 := by simp
    show (w6.setCell ⟨S, 9, none⟩ v6).ownsRow 0 22 1 v6 (s.recs ++ [b]).length (vs ++ [v])
    rw [this]
    exact owns_block o6 (fun k hk => fS.block k (o6.lt k hk).2 (v6ne k hk))
  · rcases at6 with h | h
    · exact .inl (r2 k (h ▸ hk))
    · rw [h] at hk; cases hk
      have := o6.lt _ h
      exact .inr ⟨by omega, this.2⟩
  · have hvl : vs.length = s.recs.length := by have := r1.1; omega
    have e1 : Elems (fun k => G k ∨ (w3.heap.size ≤ k ∧ k < w6.heap.size)) (w6.setCell ⟨S, 9, none⟩ v6) vs s.recs := fun i u l a c => keepB (r3 i u l a c)
    exact e1.snoc hvl newB
  · rcases hk with hk | hk
    · have := V.lt k hk; omega
    · omega
  · rcases hk with hk | hk
    · have := V.lt k hk
      rcases h2 k hF with h | h
      · exact dis k hk h
      · omega
    · have := h1.lt k hF; omega
/-- Behind the safe writing of a record. -/
theorem append_end {F G : Nat → Prop} {w w1 w3 : World} {S B A0 A1 AL : Nat} {s : St} {vc vr : Value} {d : Dev} {b : List UInt8} (hd : IsDev F w B d) (V : StV G w S B A0 A1 AL s vc vr) (dis : ∀ k, G k → ¬ F k) (hb : Below w.heap.size w w1) (hbk : s.broken = false) (hfit : ¬ s.room < ((b.length + 6 : Nat) : Int)) (hb4 : b.length ≤ 4096)
    (P : SafePost F w1 S B A0 A1 AL (afterSafe s (apHd s b) (apD d s b).2) vc vr (apD d s b).1 w3) :
    ((apD d s b).2 ≠ 0 → StorOf F G w S B (sappend d s b).1 (sappend d s b).2.1 (sappend d s b).2.2 (.returned (.int .i64 (apD d s b).2)) w3) ∧
    ((apD d s b).2 = 0 → ∃ vs, w3.ownsRow 0 22 1 vr s.recs.length vs ∧ ∀ (w4 : World) (v : Value), Below w3.heap.size w3 w4 → w4.ownsRow w3.heap.size 5 1 v b.length (b.map byteV) → ∀ (X : Obj) (w6 : World) (v6 : Value), w6.ownsRow 0 22 1 v6 (s.recs.length + 1) (vs ++ [v]) → (w4.alloc X).grownBy w6 vr.ownBlock → (v6.ownBlock = vr.ownBlock ∨ v6.ownBlock = some (w4.alloc X).heap.size) →
      StorOf F G w S B (sappend d s b).1 (sappend d s b).2.1 (sappend d s b).2.2 (.returned (.int .i64 0)) (w6.setCell ⟨S, 9, none⟩ v6)) := by
  refine ⟨fun hne => ?_, fun hz => ?_⟩
  · rw [sappend_no hbk hfit hne]
    unfold afterSafe at P
    rw [if_neg hne, decide_eq_true hne] at P
    exact broke_fin hd V dis hb P _
  · rw [sappend_yes hbk hfit hz]
    unfold afterSafe at P
    rw [if_pos hz, decide_eq_false (by rw [hz]; decide)] at P
    obtain ⟨vs, r1, r2, r3⟩ := ((V.below hb).rest P.frm dis).recs
    refine ⟨vs, r1, fun w4 v b4 o4 X w6 v6 o6 g6 at6 => ?_⟩
    have ok := V.ok
    have k1 := ok.slot
    have k2 := ok.k
    have k3 := ok.rl
    have hroom : s.h.used + (b.length + 6) ≤ 32 * s.L := by unfold St.room at hfit; omega
    have ks : { s with h := apHd s b, broken := false, recs := s.recs ++ [b] } = { s with h := apHd s b, recs := s.recs ++ [b] } := by
      obtain ⟨N, L, h', c, r, bk⟩ := s; dsimp only at hbk ⊢; rw [hbk]
    have := append_fin hd V dis hb P r1 r2 r3 b4 o4 X o6 g6 at6 ⟨k1, by show (s.h.turn + 1) % 4294967296 < 4294967296; omega, ok.long, hroom, ok.n1, ok.k, ok.check, by show (s.recs ++ [b]).length ≤ s.h.used + (b.length + 6); simp; omega, fun r hr => by
      rcases List.mem_append.1 hr with h | h
      · exact ok.rr r h
      · obtain rfl := List.mem_singleton.1 h; exact hb4⟩
    rw [ks] at this
    exact this
theorem info22i : ∃ i0, Try.prog.info? 22 = some i0 ∧ i0.zero = some (.slice none 0 0) ∧ i0.size = 1 ∧ i0.bytes = 24 := by
  obtain ⟨i0, hi, hz0, hz1, hz2⟩ := info_parts info22'
  exact ⟨i0, hi, hz0, hz1, hz2⟩
set_option maxRecDepth 100000 in
set_option maxHeartbeats 4000000 in
theorem append_any {F G : Nat → Prop} {w : World} {S B : Nat} {d : Dev} {s : St} (h : Stor F G w S B d s) {b : List UInt8} {a : Option Addr} {cap : Nat} (hlc : b.length ≤ cap) (hna : a = none → cap = 0) (hb : RB w a b) (hsrc : ∀ g o, a = some ⟨g, o, none⟩ → ¬ F g ∧ g ≠ S) (hb4 : b.length ≤ 4096)
    (hp : d.pend.length + 33000 ≤ 90000) (hw : d.writes + 33000 ≤ 90000) (hy : d.syncs ≤ 90000) :
    Calls Try.prog 71 #[.pointer (some ⟨S, 0, none⟩), .slice a b.length cap] w (StorOf F G w S B (sappend d s b).1 (sappend d s b).2.1 (sappend d s b).2.2) := by
  obtain ⟨hd, ⟨A0, A1, AL, vc, vr, V⟩, dis⟩ := h
  have SAME : Hid (∀ w', Below w.heap.size w w' → ∀ e : Int, StorOf F G w S B d s e (.returned (.int .i64 e)) w') := fun w' hb e => StorOf.same ⟨hd, ⟨A0, A1, AL, vc, vr, V⟩, dis⟩ hb e
  have c10 : w.cell? ⟨S, 10, none⟩ = some (.bool s.broken) := Joins.cell_of_block V.blk 10
  have hfl := frame_length b
  cases hbk : s.broken
  rotate_left
  · rw [sappend_broken hbk]
    rw [hbk] at c10
    clear V hbk hfl
    go_enter Try.func71, Try.ntmps71
    go_wp2
    go_ret
    exact SAME.out _ (Below.refl _ _) 14
  rw [hbk] at c10
  have FR := Lib.hid (frame_any b a cap w hb4 hlc hna hb)
  have RM : Hid (∀ w1, Below w.heap.size w w1 → Calls Try.prog 76 #[.pointer (some ⟨S, 0, none⟩)] w1 fun en w' => en = .returned (.int .i64 s.room) ∧ Below w1.heap.size w1 w') := fun w1 hb1 => sroom_any ⟨A0, A1, AL, vc, vr, V.below hb1⟩
  have hSF := dis S V.fs
  have hSl := V.lt S V.fs
  have hkk := V.ok.k
  have huu := V.ok.used
  by_cases hfit : s.room < ((b.length + 6 : Nat) : Int)
  · rw [sappend_full hbk hfit]
    have HF := Lib.hid hfit
    have HL := Lib.hid hfl
    clear V hbk hfit hfl
    go_enter Try.func71, Try.ntmps71
    go_wp2_with fail
    refine FR.out.mono ?_
    rintro en w1 ⟨v1, rfl, o1, b1⟩
    rw [HL.out] at o1
    obtain ⟨g1, c1, rfl⟩ := own_rec o1 (by omega)
    have hfi : s.room < ((b.length + 6 : Nat) : Int) := HF.out
    have B1 := Lib.hid b1
    generalize hm : b.length + 6 = m at hfi o1 ⊢
    generalize s.room = rm at hfi RM ⊢
    clear o1 hm
    go_wp2_with fail
    refine (RM.out w1 B1.out).mono ?_
    rintro en w2 ⟨rfl, b2⟩
    have B2 := Lib.hid (B1.out.trans (b2.mono B1.out.size))
    clear b2
    go_wp2_with fail
    go_ret
    exact SAME.out _ B2.out 2
  have hroom : s.h.used + (b.length + 6) ≤ 32 * s.L := by unfold St.room at hfit; omega
  have SAFE : Hid (∀ w1, Below w.heap.size w w1 → ∀ g1 c1, w1.ownsRow w.heap.size 5 1 (.slice (some ⟨g1, 0, none⟩) (frame b).length c1) (frame b).length ((frame b).map byteV) → Calls Try.prog 96 #[.pointer (some ⟨S, 0, none⟩), .pointer (some ⟨AL, 0, none⟩), .int .i64 (s.h.used : Int), .slice (some ⟨g1, 0, none⟩) (frame b).length c1, .agg #[.int .i64 (s.h.slot : Int), .int .i64 (s.h.long : Int), .int .i64 ((s.h.used + (b.length + 6) : Nat) : Int), .int .i64 (s.h.turn : Int)]] w1 (fun en w' => en = .returned (.int .i64 (apD d s b).2) ∧ SafePost F w1 S B A0 A1 AL (afterSafe s (apHd s b) (apD d s b).2) vc vr (apD d s b).1 w')) := fun w1 hb1 g1 c1 o1 => by
    obtain ⟨a', c', e, q1, q2, q3⟩ := RB.of_owns o1
    injection e with e1 e2 e3
    subst e1 e3
    exact safe_any (hd.below hb1) (V.below hb1) dis (V.al.below hb1) V.fl q1 q3 (fun hF => by have := hd.lt _ hF; have := (o1.lt g1 rfl).1; omega) (o1.lt g1 rfl).2 (apHd s b) _ V.ok.slot (by show s.h.long < _; have := V.ok.long; omega) (by show s.h.used + (b.length + 6) < _; omega) rfl (by omega) (by omega) (by omega) (.inr (by omega))
  have EN : Hid (∀ w1 w3, Below w.heap.size w w1 → SafePost F w1 S B A0 A1 AL (afterSafe s (apHd s b) (apD d s b).2) vc vr (apD d s b).1 w3 → _) := fun w1 w3 hb1 P => append_end hd V dis hb1 hbk hfit hb4 P
  have S1 : Hid (∀ w1, Below w.heap.size w w1 → w1.heap[S]? = some (.cells (stcells B A0 A1 AL s vc vr) 134 (0, 0))) := fun w1 hb1 => (hb1.block S hSl).trans V.blk
  have KB : Hid (∀ w1 w3, Below w.heap.size w w1 → SafePost F w1 S B A0 A1 AL (afterSafe s (apHd s b) (apD d s b).2) vc vr (apD d s b).1 w3 → RB w3 a b) := fun w1 w3 hb1 P => by
    intro i hi
    obtain ⟨g, off, rfl, _⟩ := (hb.below hb1) i hi
    exact RB.frm (hb.below hb1) P.frm (fun h => h.elim (hsrc g off rfl).1 (hsrc g off rfl).2) i hi
  have ROW : Hid (∀ w1, Below w.heap.size w w1 → ∃ vs, w1.ownsRow 0 22 1 vr s.recs.length vs) := fun w1 hb1 => by
    obtain ⟨vs, h1, _⟩ := (V.below hb1).recs
    exact ⟨vs, h1⟩
  generalize apD d s b = r at SAFE EN KB
  generalize hE : apHd s b = hh at SAFE EN KB
  clear hE
  obtain ⟨e, r⟩ := r
  generalize sappend d s b = rr at EN ⊢
  have HDL := Lib.hid hd.lt
  have HBL : Hid (b.length ≤ 1000000) := by show _ ≤ _; omega
  have HLC : Hid (b.length ≤ cap) := hlc
  have HNA : Hid (a = none → cap = 0) := hna
  have HF : Hid (¬ s.room < ((b.length + 6 : Nat) : Int)) := hfit
  have HRL : Hid (s.recs.length ≤ 32768) := by show _ ≤ _; have := V.ok.rl; omega
  have HL := Lib.hid hfl
  clear hbk hfit V hb hsrc hfl hlc hna
  go_enter Try.func71, Try.ntmps71
  go_wp2_with fail
  refine FR.out.mono ?_
  rintro en w1 ⟨v1, rfl, o1, b1⟩
  obtain ⟨g1, c1, rfl⟩ := own_rec o1 (by have := HL.out; omega)
  have O1 := Lib.hid o1
  have B1 := Lib.hid b1
  clear o1 b1
  have hfi : ¬ s.room < ((frame b).length : Int) := by rw [HL.out]; have := HF.out; omega
  have hm6 : ((frame b).length : Int) = ((b.length + 6 : Nat) : Int) := by rw [HL.out]
  have hml : (frame b).length ≤ 5000 := by have := HL.out; omega
  have HM := Lib.hid hm6
  clear hm6
  generalize (frame b).length = m at *
  generalize s.room = rm at *
  go_wp2_with fail
  refine (RM.out w1 B1.out).mono ?_
  rintro en w2 ⟨rfl, b2⟩
  have B2 := Lib.hid (B1.out.trans (b2.mono B1.out.size))
  have O2 := Lib.hid (owns_below O1.out b2)
  have x2 := S1.out w2 B2.out
  have k4 : w2.cell? ⟨S, 4, none⟩ = some (.int .i64 (s.h.slot : Int)) := Joins.cell_of_block x2 4
  have k5 : w2.cell? ⟨S, 5, none⟩ = some (.int .i64 (s.h.long : Int)) := Joins.cell_of_block x2 5
  have k6 : w2.cell? ⟨S, 6, none⟩ = some (.int .i64 (s.h.used : Int)) := Joins.cell_of_block x2 6
  have k7 : w2.cell? ⟨S, 7, none⟩ = some (.int .i64 (s.h.turn : Int)) := Joins.cell_of_block x2 7
  have hwr : (s.h.used : Int) + (m : Int) ≤ 9223372036854775807 := by omega
  clear b2 x2
  go_wp2_with fail
  rw [show (s.h.used : Int) + (m : Int) = ((s.h.used + (b.length + 6) : Nat) : Int) by have := HM.out; omega]
  obtain ⟨W1, hW1⟩ : ∃ W1, (w2.alloc (.cells #[.int .i64 (s.h.slot : Int), .int .i64 (s.h.long : Int), .int .i64 ((s.h.used + (b.length + 6) : Nat) : Int), .int .i64 (s.h.turn : Int)] 132)).drew = W1 := ⟨_, rfl⟩
  have hB1 : Below w.heap.size w W1 := by rw [← hW1]; exact (B2.out.alloc B2.out.size _).drew
  have hX1 : W1.heap[w2.heap.size]? = some (.cells #[.int .i64 (s.h.slot : Int), .int .i64 (s.h.long : Int), .int .i64 ((s.h.used + (b.length + 6) : Nat) : Int), .int .i64 (s.h.turn : Int)] 132 (0, 0)) := by rw [← hW1]; exact heap_alloc_new w2 _
  have SF := Lib.hid (SAFE.out W1 hB1 g1 c1 (by rw [← hW1]; exact owns_below O2.out (below_alloc w2 _).drew))
  obtain ⟨S0, hS0⟩ : ∃ S0 : World → Prop, S0 = fun w' => w'.cell? ⟨S, 3, none⟩ = some (.pointer (some ⟨AL, 0, none⟩)) ∧ w'.heap[w2.heap.size]? = some (.cells #[.int .i64 (s.h.slot : Int), .int .i64 (s.h.long : Int), .int .i64 ((s.h.used + (b.length + 6) : Nat) : Int), .int .i64 (s.h.turn : Int)] 132 (0, 0)) := ⟨_, rfl⟩
  have hSS : Hid (∀ w', S0 w' → w'.cell? ⟨S, 3, none⟩ = some (.pointer (some ⟨AL, 0, none⟩)) ∧ w'.cell? ⟨w2.heap.size, 0, none⟩ = some (.int .i64 (s.h.slot : Int)) ∧ w'.cell? ⟨w2.heap.size, 1, none⟩ = some (.int .i64 (s.h.long : Int)) ∧ w'.cell? ⟨w2.heap.size, 2, none⟩ = some (.int .i64 ((s.h.used + (b.length + 6) : Nat) : Int)) ∧ w'.cell? ⟨w2.heap.size, 3, none⟩ = some (.int .i64 (s.h.turn : Int))) := fun w' h => by
    rw [hS0] at h
    obtain ⟨a, c⟩ := h
    exact ⟨a, Joins.cell_of_block c 0, Joins.cell_of_block c 1, Joins.cell_of_block c 2, Joins.cell_of_block c 3⟩
  have s0 : S0 W1 := by rw [hS0]; exact ⟨Joins.cell_of_block (S1.out W1 hB1) 3, hX1⟩
  have S3 : Hid (∀ {w' : World} s', SafePost F W1 S B A0 A1 AL s' vc vr e w' → S0 w') := fun {w'} s' P => by
    have hs2 := B2.out.size
    rw [hS0]
    exact ⟨Joins.cell_of_block P.blk 3, (P.frm.block _ (Array.getElem?_eq_some_iff.1 hX1).1 (fun h => h.elim (fun h => by have := HDL.out _ h; omega) (fun h => by omega))).trans hX1⟩
  have q6 : W1.cell? ⟨S, 6, none⟩ = some (.int .i64 (s.h.used : Int)) := Joins.cell_of_block (S1.out W1 hB1) 6
  have HB1 := Lib.hid hB1
  have HW1 := Lib.hid hW1
  clear hB1 hX1 hW1 k4 k5 k6 k7 hfi
  refine wp_region_held (S := S0) (by kernel_rfl) ?_
  change wpAnyH _ _ _ _ _ _ _ _ (World.drew _)
  rw [HW1.out]
  refine wpAnyH_take (i := 0) (v := .pointer (some ⟨S, 0, none⟩)) rfl (by kernel_rfl) (by kernel_rfl) (by kernel_rfl) (fun _ _ _ h => h) (.inl ⟨by rfl, by intro w hw; go_simp⟩) s0 ?_
  try simp only [Act.put, List.getElem_toArray, List.getElem_cons_zero, List.getElem_cons_succ, List.setIfInBounds_toArray, List.set_cons_zero, List.set_cons_succ]
  refine wpAnyH_take (i := 1) (v := .pointer (some ⟨S, 0, none⟩)) rfl (by kernel_rfl) (by kernel_rfl) (by kernel_rfl) (fun _ _ _ h => h) (.inl ⟨by rfl, by intro w hw; go_simp⟩) s0 ?_
  try simp only [Act.put, List.getElem_toArray, List.getElem_cons_zero, List.getElem_cons_succ, List.setIfInBounds_toArray, List.set_cons_zero, List.set_cons_succ]
  refine wpAnyH_take (i := 2) (v := .pointer (some ⟨S, 0, none⟩)) rfl (by kernel_rfl) (by kernel_rfl) (by kernel_rfl) (fun _ _ _ h => h) (.inl ⟨by rfl, by intro w hw; go_simp⟩) s0 ?_
  try simp only [Act.put, List.getElem_toArray, List.getElem_cons_zero, List.getElem_cons_succ, List.setIfInBounds_toArray, List.set_cons_zero, List.set_cons_succ]
  refine wpAnyH_take (i := 3) (v := .pointer (some ⟨S, 3, none⟩)) rfl (by kernel_rfl) (by kernel_rfl) (by kernel_rfl) (fun _ _ _ h => h) (.inl ⟨by rfl, by intro w hw; go_simp⟩) s0 ?_
  try simp only [Act.put, List.getElem_toArray, List.getElem_cons_zero, List.getElem_cons_succ, List.setIfInBounds_toArray, List.set_cons_zero, List.set_cons_succ]
  refine wpAnyH_take (i := 4) (v := .pointer (some ⟨AL, 0, none⟩)) rfl (by kernel_rfl) (by kernel_rfl) (by kernel_rfl) (fun _ _ _ h => h) (.inl ⟨by rfl, by intro w hw; have h := hSS.out w hw; obtain ⟨q0, q1, q2, q3, q4⟩ := h; go_simp⟩) s0 ?_
  try simp only [Act.put, List.getElem_toArray, List.getElem_cons_zero, List.getElem_cons_succ, List.setIfInBounds_toArray, List.set_cons_zero, List.set_cons_succ]
  refine wpAnyH_take (i := 5) (v := .pointer (some ⟨S, 0, none⟩)) rfl (by kernel_rfl) (by kernel_rfl) (by kernel_rfl) (fun _ _ _ h => h) (.inl ⟨by rfl, by intro w hw; go_simp⟩) s0 ?_
  try simp only [Act.put, List.getElem_toArray, List.getElem_cons_zero, List.getElem_cons_succ, List.setIfInBounds_toArray, List.set_cons_zero, List.set_cons_succ]
  refine wpAnyH_take (i := 6) (v := .pointer (some ⟨S, 0, none⟩)) rfl (by kernel_rfl) (by kernel_rfl) (by kernel_rfl) (fun _ _ _ h => h) (.inl ⟨by rfl, by intro w hw; go_simp⟩) s0 ?_
  try simp only [Act.put, List.getElem_toArray, List.getElem_cons_zero, List.getElem_cons_succ, List.setIfInBounds_toArray, List.set_cons_zero, List.set_cons_succ]
  refine wpAnyH_take (i := 7) (v := .pointer (some ⟨S, 4, none⟩)) rfl (by kernel_rfl) (by kernel_rfl) (by kernel_rfl) (fun _ _ _ h => h) (.inl ⟨by rfl, by intro w hw; go_simp⟩) s0 ?_
  try simp only [Act.put, List.getElem_toArray, List.getElem_cons_zero, List.getElem_cons_succ, List.setIfInBounds_toArray, List.set_cons_zero, List.set_cons_succ]
  refine wpAnyH_take (i := 8) (v := .pointer (some ⟨S, 6, none⟩)) rfl (by kernel_rfl) (by kernel_rfl) (by kernel_rfl) (fun _ _ _ h => h) (.inl ⟨by rfl, by intro w hw; go_simp⟩) s0 ?_
  try simp only [Act.put, List.getElem_toArray, List.getElem_cons_zero, List.getElem_cons_succ, List.setIfInBounds_toArray, List.set_cons_zero, List.set_cons_succ]
  refine wpAnyH_take (i := 10) (v := .slice (some ⟨g1, 0, none⟩) m c1) rfl (by kernel_rfl) (by kernel_rfl) (by kernel_rfl) (fun _ _ _ h => h) (.inl ⟨by rfl, by intro w hw; go_simp⟩) s0 ?_
  try simp only [Act.put, List.getElem_toArray, List.getElem_cons_zero, List.getElem_cons_succ, List.setIfInBounds_toArray, List.set_cons_zero, List.set_cons_succ]
  refine wpAnyH_take (i := 11) (v := .agg #[.int .i64 (s.h.slot : Int), .int .i64 (s.h.long : Int), .int .i64 ((s.h.used + (b.length + 6) : Nat) : Int), .int .i64 (s.h.turn : Int)]) rfl (by kernel_rfl) (by kernel_rfl) (by kernel_rfl) (fun _ _ _ h => h) (.inl ⟨by rfl, by intro w hw; have h := hSS.out w hw; obtain ⟨q0, q1, q2, q3, q4⟩ := h; go_simp⟩) s0 ?_
  try simp only [Act.put, List.getElem_toArray, List.getElem_cons_zero, List.getElem_cons_succ, List.setIfInBounds_toArray, List.set_cons_zero, List.set_cons_succ]
  refine wpAnyH_one (i := 9) (by kernel_rfl) rfl (by rfl) (fun Kc hK => ?_)
  go_simp
  refine hK _ _ s0 ?_
  clear hK Kc
  try simp only [Act.put, List.getElem_toArray, List.getElem_cons_zero, List.getElem_cons_succ, List.setIfInBounds_toArray, List.set_cons_zero, List.set_cons_succ]
  refine wpAnyH_one (i := 12) (by kernel_rfl) rfl (by rfl) (fun Kc hK => ?_)
  go_simp
  refine (SF.out).mono ?_
  rintro en w3 ⟨rfl, h3'⟩
  go_simp
  refine hK _ _ (S3.out _ h3') ?_
  clear hK Kc
  try simp only [Act.put, List.getElem_toArray, List.getElem_cons_zero, List.getElem_cons_succ, List.setIfInBounds_toArray, List.set_cons_zero, List.set_cons_succ]
  refine wpAnyH_take (i := 13) (v := .int .i64 r) rfl (by kernel_rfl) (by kernel_rfl) (by kernel_rfl) (fun _ _ _ h => h) (.inl ⟨by rfl, by intro w hw; go_simp⟩) (S3.out _ h3') ?_
  try simp only [Act.put, List.getElem_toArray, List.getElem_cons_zero, List.getElem_cons_succ, List.setIfInBounds_toArray, List.set_cons_zero, List.set_cons_succ]
  refine wpAnyH_done (by kernel_rfl) ?_ _
  have EE := Lib.hid (EN.out W1 w3 HB1.out h3')
  have KB3 := Lib.hid (KB.out W1 w3 HB1.out h3')
  have X3 := Lib.hid h3'.blk
  clear h3' SF S3 s0 hSS KB SAFE q6 c10
  by_cases hr : r = 0
  rotate_left
  · have hb' : ((r : Int) != 0) = true := by rw [bne_iff_ne]; exact hr
    have E1 := Lib.hid (EE.out.1 hr)
    clear hr EE
    go_wp2_with fail
    go_ret
    exact E1.out
  · obtain ⟨vs, r1, e2⟩ := EE.out.2 hr
    have E2 := Lib.hid e2
    have R1 := Lib.hid r1
    have CL := Lib.hid (clone_any b a cap w3.drew HBL.out HLC.out HNA.out (KB3.out.below (Below.refl _ w3).drew))
    have C9 : Hid (∀ w', Below w3.heap.size w3 w' → w'.cell? ⟨S, 9, none⟩ = some vr) := fun w' hb => Joins.cell_of_block ((hb.block S (Array.getElem?_eq_some_iff.1 X3.out).1).trans X3.out) 9
    have K9 : Hid (∀ w4 X w6, Below w3.heap.size w3 w4 → (w4.alloc X).grownBy w6 vr.ownBlock → w6.cell? ⟨S, 9, none⟩ = some vr ∧ w6.frozen? ⟨S, 9, none⟩ = false) := fun w4 X w6 b4 g6 => by
      have b5 := b4.alloc b4.size X
      have hl := (Array.getElem?_eq_some_iff.1 X3.out).1
      have h5 := (b5.block S hl).trans X3.out
      have h6 := (g6.block S (by have := b5.size; omega) (fun e => row_apart h5 (owns_below R1.out b5) (by decide) S e.symm rfl)).trans h5
      exact ⟨Joins.cell_of_block h6 9, Joins.unfrozen_of_block h6 9⟩
    obtain ⟨i0, hi0, hz0, hz1, hz2⟩ := info22i
    subst hr
    clear r1 e2 EE
    go_wp2_with fail
    refine wp_region_any (by kernel_rfl) ?_
    change wpAny _ _ _ _ _ _ _ (World.drew _)
    refine wpAny_take (i := 0) (v := .pointer (some ⟨S, 0, none⟩)) rfl (by kernel_rfl) (by kernel_rfl) (by kernel_rfl) (fun _ _ _ h => h) (Or.inl ⟨by rfl, by intro w; go_simp⟩) ?_
    try simp only [Act.put, List.getElem_toArray, List.getElem_cons_zero, List.getElem_cons_succ, List.setIfInBounds_toArray, List.set_cons_zero, List.set_cons_succ]
    refine wpAny_take (i := 1) (v := .pointer (some ⟨S, 0, none⟩)) rfl (by kernel_rfl) (by kernel_rfl) (by kernel_rfl) (fun _ _ _ h => h) (Or.inl ⟨by rfl, by intro w; go_simp⟩) ?_
    try simp only [Act.put, List.getElem_toArray, List.getElem_cons_zero, List.getElem_cons_succ, List.setIfInBounds_toArray, List.set_cons_zero, List.set_cons_succ]
    refine wpAny_take (i := 2) (v := .pointer (some ⟨S, 0, none⟩)) rfl (by kernel_rfl) (by kernel_rfl) (by kernel_rfl) (fun _ _ _ h => h) (Or.inl ⟨by rfl, by intro w; go_simp⟩) ?_
    try simp only [Act.put, List.getElem_toArray, List.getElem_cons_zero, List.getElem_cons_succ, List.setIfInBounds_toArray, List.set_cons_zero, List.set_cons_succ]
    refine wpAny_take (i := 3) (v := .pointer (some ⟨S, 9, none⟩)) rfl (by kernel_rfl) (by kernel_rfl) (by kernel_rfl) (fun _ _ _ h => h) (Or.inl ⟨by rfl, by intro w; go_simp⟩) ?_
    try simp only [Act.put, List.getElem_toArray, List.getElem_cons_zero, List.getElem_cons_succ, List.setIfInBounds_toArray, List.set_cons_zero, List.set_cons_succ]
    refine wpAny_take (i := 5) (v := .slice a b.length cap) rfl (by kernel_rfl) (by kernel_rfl) (by kernel_rfl) (fun _ _ _ h => h) (Or.inl ⟨by rfl, by intro w; go_simp⟩) ?_
    try simp only [Act.put, List.getElem_toArray, List.getElem_cons_zero, List.getElem_cons_succ, List.setIfInBounds_toArray, List.set_cons_zero, List.set_cons_succ]
    refine wpAny_ready (rs := [4, 6]) (by kernel_rfl) (by simp) ?_
    refine AllReady.cons rfl (fun Kc hK => ?_) (AllReady.cons rfl (fun Kc hK => ?_) AllReady.nil)
    · rw [if_pos (by rfl)]
      have k9 := C9.out w3.drew (Below.refl _ w3).drew
      go_simp
      refine hK _ _ ?_
      clear hK Kc
      try simp only [Act.put, List.getElem_toArray, List.getElem_cons_zero, List.getElem_cons_succ, List.setIfInBounds_toArray, List.set_cons_zero, List.set_cons_succ]
      refine wpAny_ready (rs := [6]) (by kernel_rfl) (by simp) ?_
      refine AllReady.cons rfl (fun Kc hK => ?_) AllReady.nil
      rw [if_pos (by rfl)]
      go_simp
      refine (CL.out).mono ?_
      rintro en w4 ⟨v4, rfl, o4, b4⟩
      have b4 : Below w3.heap.size w3 w4 := (Below.refl _ w3).drew.trans b4
      have o4 : w4.ownsRow w3.heap.size 5 1 v4 b.length (b.map byteV) := o4
      obtain ⟨a4, c4, rfl⟩ := row_form o4
      go_simp
      refine hK _ _ ?_
      clear hK Kc
      try simp only [Act.put, List.getElem_toArray, List.getElem_cons_zero, List.getElem_cons_succ, List.setIfInBounds_toArray, List.set_cons_zero, List.set_cons_succ]
      refine wpAny_ready (rs := [7]) (by kernel_rfl) (by simp) ?_
      refine AllReady.cons rfl (fun Kc hK => ?_) AllReady.nil
      rw [if_pos (by rfl)]
      go_simp
      refine hK _ _ ?_
      clear hK Kc
      try simp only [Act.put, List.getElem_toArray, List.getElem_cons_zero, List.getElem_cons_succ, List.setIfInBounds_toArray, List.set_cons_zero, List.set_cons_succ]
      refine wpAny_ready (rs := [8]) (by kernel_rfl) (by simp) ?_
      refine AllReady.cons rfl (fun Kc hK => ?_) AllReady.nil
      rw [if_pos (by rfl)]
      refine wp_append_rec (.tmp 58) (.tmp 61) 56 rfl 0 22 i0 (.slice none 0 0) 1 24 Try.underlying56 hi0 hz0 hz1 hz2 rfl (by decide) _ s.recs.length vs rfl (owns_below R1.out (b4.alloc b4.size _)) ⟨w4.heap.size, 0, none⟩ 1 1 [.slice a4 b.length c4] rfl rfl (cell_one_at rfl) (by intro u hu; obtain rfl := List.mem_singleton.1 hu; rfl) (by have := HRL.out; unfold maxLen; omega) (by have := HRL.out; omega) (Nat.zero_le _) ?_
      intro v6 w6 o6 g6 at6
      refine hK _ _ ?_
      clear hK Kc
      try simp only [Act.put, List.getElem_toArray, List.getElem_cons_zero, List.getElem_cons_succ, List.setIfInBounds_toArray, List.set_cons_zero, List.set_cons_succ]
      refine wpAny_take (i := 9) (v := .pointer (some ⟨S, 0, none⟩)) rfl (by kernel_rfl) (by kernel_rfl) (by kernel_rfl) (fun _ _ _ h => h) (Or.inl ⟨by rfl, by intro w; go_simp⟩) ?_
      try simp only [Act.put, List.getElem_toArray, List.getElem_cons_zero, List.getElem_cons_succ, List.setIfInBounds_toArray, List.set_cons_zero, List.set_cons_succ]
      refine wpAny_take (i := 10) (v := .pointer (some ⟨S, 9, none⟩)) rfl (by kernel_rfl) (by kernel_rfl) (by kernel_rfl) (fun _ _ _ h => h) (Or.inl ⟨by rfl, by intro w; go_simp⟩) ?_
      try simp only [Act.put, List.getElem_toArray, List.getElem_cons_zero, List.getElem_cons_succ, List.setIfInBounds_toArray, List.set_cons_zero, List.set_cons_succ]
      refine wpAny_ready (rs := [11]) (by kernel_rfl) (by simp) ?_
      refine AllReady.cons rfl (fun Kc hK => ?_) AllReady.nil
      rw [if_pos (by rfl)]
      have FIN := Lib.hid (E2.out _ _ b4 o4 _ _ _ o6 g6 at6)
      obtain ⟨k9, kf9⟩ := (K9.out _ _ _ b4 g6)
      obtain ⟨a6, c6, rfl⟩ := row_form o6
      clear o6 g6 at6 o4 b4
      go_simp
      refine hK _ _ ?_
      clear hK Kc
      try simp only [Act.put, List.getElem_toArray, List.getElem_cons_zero, List.getElem_cons_succ, List.setIfInBounds_toArray, List.set_cons_zero, List.set_cons_succ]
      refine wpAny_done (by kernel_rfl) ?_ _
      go_wp2_with fail
      go_ret
      exact FIN.out
    · rw [if_pos (by rfl)]
      go_simp
      refine (CL.out).mono ?_
      rintro en w4 ⟨v4, rfl, o4, b4⟩
      have b4 : Below w3.heap.size w3 w4 := (Below.refl _ w3).drew.trans b4
      have o4 : w4.ownsRow w3.heap.size 5 1 v4 b.length (b.map byteV) := o4
      obtain ⟨a4, c4, rfl⟩ := row_form o4
      go_simp
      refine hK _ _ ?_
      clear hK Kc
      try simp only [Act.put, List.getElem_toArray, List.getElem_cons_zero, List.getElem_cons_succ, List.setIfInBounds_toArray, List.set_cons_zero, List.set_cons_succ]
      refine wpAny_ready (rs := [4, 7]) (by kernel_rfl) (by simp) ?_
      refine AllReady.cons rfl (fun Kc hK => ?_) (AllReady.cons rfl (fun Kc hK => ?_) AllReady.nil)
      · rw [if_pos (by rfl)]
        have k9 := C9.out _ b4
        go_simp
        refine hK _ _ ?_
        clear hK Kc
        try simp only [Act.put, List.getElem_toArray, List.getElem_cons_zero, List.getElem_cons_succ, List.setIfInBounds_toArray, List.set_cons_zero, List.set_cons_succ]
        refine wpAny_ready (rs := [7]) (by kernel_rfl) (by simp) ?_
        refine AllReady.cons rfl (fun Kc hK => ?_) AllReady.nil
        rw [if_pos (by rfl)]
        go_simp
        refine hK _ _ ?_
        clear hK Kc
        try simp only [Act.put, List.getElem_toArray, List.getElem_cons_zero, List.getElem_cons_succ, List.setIfInBounds_toArray, List.set_cons_zero, List.set_cons_succ]
        refine wpAny_ready (rs := [8]) (by kernel_rfl) (by simp) ?_
        refine AllReady.cons rfl (fun Kc hK => ?_) AllReady.nil
        rw [if_pos (by rfl)]
        refine wp_append_rec (.tmp 58) (.tmp 61) 56 rfl 0 22 i0 (.slice none 0 0) 1 24 Try.underlying56 hi0 hz0 hz1 hz2 rfl (by decide) _ s.recs.length vs rfl (owns_below R1.out (b4.alloc b4.size _)) ⟨w4.heap.size, 0, none⟩ 1 1 [.slice a4 b.length c4] rfl rfl (cell_one_at rfl) (by intro u hu; obtain rfl := List.mem_singleton.1 hu; rfl) (by have := HRL.out; unfold maxLen; omega) (by have := HRL.out; omega) (Nat.zero_le _) ?_
        intro v6 w6 o6 g6 at6
        refine hK _ _ ?_
        clear hK Kc
        try simp only [Act.put, List.getElem_toArray, List.getElem_cons_zero, List.getElem_cons_succ, List.setIfInBounds_toArray, List.set_cons_zero, List.set_cons_succ]
        refine wpAny_take (i := 9) (v := .pointer (some ⟨S, 0, none⟩)) rfl (by kernel_rfl) (by kernel_rfl) (by kernel_rfl) (fun _ _ _ h => h) (Or.inl ⟨by rfl, by intro w; go_simp⟩) ?_
        try simp only [Act.put, List.getElem_toArray, List.getElem_cons_zero, List.getElem_cons_succ, List.setIfInBounds_toArray, List.set_cons_zero, List.set_cons_succ]
        refine wpAny_take (i := 10) (v := .pointer (some ⟨S, 9, none⟩)) rfl (by kernel_rfl) (by kernel_rfl) (by kernel_rfl) (fun _ _ _ h => h) (Or.inl ⟨by rfl, by intro w; go_simp⟩) ?_
        try simp only [Act.put, List.getElem_toArray, List.getElem_cons_zero, List.getElem_cons_succ, List.setIfInBounds_toArray, List.set_cons_zero, List.set_cons_succ]
        refine wpAny_ready (rs := [11]) (by kernel_rfl) (by simp) ?_
        refine AllReady.cons rfl (fun Kc hK => ?_) AllReady.nil
        rw [if_pos (by rfl)]
        have FIN := Lib.hid (E2.out _ _ b4 o4 _ _ _ o6 g6 at6)
        obtain ⟨k9, kf9⟩ := (K9.out _ _ _ b4 g6)
        obtain ⟨a6, c6, rfl⟩ := row_form o6
        clear o6 g6 at6 o4 b4
        go_simp
        refine hK _ _ ?_
        clear hK Kc
        try simp only [Act.put, List.getElem_toArray, List.getElem_cons_zero, List.getElem_cons_succ, List.setIfInBounds_toArray, List.set_cons_zero, List.set_cons_succ]
        refine wpAny_done (by kernel_rfl) ?_ _
        go_wp2_with fail
        go_ret
        exact FIN.out
      · rw [if_pos (by rfl)]
        go_simp
        refine hK _ _ ?_
        clear hK Kc
        try simp only [Act.put, List.getElem_toArray, List.getElem_cons_zero, List.getElem_cons_succ, List.setIfInBounds_toArray, List.set_cons_zero, List.set_cons_succ]
        refine wpAny_ready (rs := [4]) (by kernel_rfl) (by simp) ?_
        refine AllReady.cons rfl (fun Kc hK => ?_) AllReady.nil
        rw [if_pos (by rfl)]
        have k9 := C9.out _ (b4.alloc b4.size (.cells #[.slice a4 b.length c4] 22))
        go_simp
        refine hK _ _ ?_
        clear hK Kc
        try simp only [Act.put, List.getElem_toArray, List.getElem_cons_zero, List.getElem_cons_succ, List.setIfInBounds_toArray, List.set_cons_zero, List.set_cons_succ]
        refine wpAny_ready (rs := [8]) (by kernel_rfl) (by simp) ?_
        refine AllReady.cons rfl (fun Kc hK => ?_) AllReady.nil
        rw [if_pos (by rfl)]
        refine wp_append_rec (.tmp 58) (.tmp 61) 56 rfl 0 22 i0 (.slice none 0 0) 1 24 Try.underlying56 hi0 hz0 hz1 hz2 rfl (by decide) _ s.recs.length vs rfl (owns_below R1.out (b4.alloc b4.size _)) ⟨w4.heap.size, 0, none⟩ 1 1 [.slice a4 b.length c4] rfl rfl (cell_one_at rfl) (by intro u hu; obtain rfl := List.mem_singleton.1 hu; rfl) (by have := HRL.out; unfold maxLen; omega) (by have := HRL.out; omega) (Nat.zero_le _) ?_
        intro v6 w6 o6 g6 at6
        refine hK _ _ ?_
        clear hK Kc
        try simp only [Act.put, List.getElem_toArray, List.getElem_cons_zero, List.getElem_cons_succ, List.setIfInBounds_toArray, List.set_cons_zero, List.set_cons_succ]
        refine wpAny_take (i := 9) (v := .pointer (some ⟨S, 0, none⟩)) rfl (by kernel_rfl) (by kernel_rfl) (by kernel_rfl) (fun _ _ _ h => h) (Or.inl ⟨by rfl, by intro w; go_simp⟩) ?_
        try simp only [Act.put, List.getElem_toArray, List.getElem_cons_zero, List.getElem_cons_succ, List.setIfInBounds_toArray, List.set_cons_zero, List.set_cons_succ]
        refine wpAny_take (i := 10) (v := .pointer (some ⟨S, 9, none⟩)) rfl (by kernel_rfl) (by kernel_rfl) (by kernel_rfl) (fun _ _ _ h => h) (Or.inl ⟨by rfl, by intro w; go_simp⟩) ?_
        try simp only [Act.put, List.getElem_toArray, List.getElem_cons_zero, List.getElem_cons_succ, List.setIfInBounds_toArray, List.set_cons_zero, List.set_cons_succ]
        refine wpAny_ready (rs := [11]) (by kernel_rfl) (by simp) ?_
        refine AllReady.cons rfl (fun Kc hK => ?_) AllReady.nil
        rw [if_pos (by rfl)]
        have FIN := Lib.hid (E2.out _ _ b4 o4 _ _ _ o6 g6 at6)
        obtain ⟨k9, kf9⟩ := (K9.out _ _ _ b4 g6)
        obtain ⟨a6, c6, rfl⟩ := row_form o6
        clear o6 g6 at6 o4 b4
        go_simp
        refine hK _ _ ?_
        clear hK Kc
        try simp only [Act.put, List.getElem_toArray, List.getElem_cons_zero, List.getElem_cons_succ, List.setIfInBounds_toArray, List.set_cons_zero, List.set_cons_succ]
        refine wpAny_done (by kernel_rfl) ?_ _
        go_wp2_with fail
        go_ret
        exact FIN.out
end Go.Proofs.Ytopemjbakpahfaa

/-
  Contracts and plain laws, part 44 (texts: T18). No condition but what each states.
-/
import Derived.Test.YtopemjbakpahfaaSn43
/-
  SlotsTurns: the walk, for all rows of two numbers. No condition.
-/
namespace Go.Proofs.Ytopemjbakpahfaa
open Go.RowKit Disk Jour Crc Slot
set_option linter.unusedSimpArgs false
set_option linter.unusedVariables false
/-- A law returns true; what was there is as it was. -/
structure TurnI (n0 : Nat) (w0 : World) (S B : Nat) (i : Nat) (d : Dev) (s : St) (rv : Value) (wr : World) : Prop where
  bl : Below n0 w0 wr
  run : Runs d s (70 * i)
  turn : s.h.turn ≤ i
  n4 : s.N = 4
  ex : ∃ H : Nat → Prop, Held n0 H wr S B d s ∧ RowsG H wr rv s.recs ∧ ∀ k, H k → n0 ≤ k
theorem TurnI.below {n0 : Nat} {w0 w w' : World} {S B i : Nat} {d : Dev} {s : St} {rv : Value} (h : TurnI n0 w0 S B i d s rv w) (hb : Below w.heap.size w w') (hn : n0 ≤ w.heap.size) : TurnI n0 w0 S B i d s rv w' := by
  obtain ⟨H, h1, h2, h3⟩ := h.ex
  exact ⟨h.bl.trans (hb.mono hn), h.run, h.turn, h.n4, H, h1.below hb, h2.same (fun k _ hl => hb.block k hl) (fun _ h => h), h3⟩
theorem TurnI.rv {n0 : Nat} {w0 w : World} {S B i : Nat} {d : Dev} {s : St} {rv : Value} (h : TurnI n0 w0 S B i d s rv w) : ∃ a c, rv = .slice a s.recs.length c := by
  obtain ⟨H, _, h2, _⟩ := h.ex
  obtain ⟨x1, x2, x3, _⟩ := h2.rr
  exact ⟨x1, x2, x3⟩
theorem Held.grow {n0 : Nat} {H H' : Nat → Prop} {w w' : World} {S B : Nat} {d : Dev} {s : St} (h : Held n0 H w S B d s) (hf : Frm H w w') (hH : ∀ k, H' k → H k ∨ (w.heap.size ≤ k ∧ k < w'.heap.size)) : Held n0 H' w' S B d s := by
  obtain ⟨⟨F, G, h1, h2, h3⟩, h4, h5⟩ := h
  have hs := hf.size
  refine ⟨⟨F, G, h1.frm hf (fun k hk => (h2 k hk).2) (fun k hk => (h3 k hk).2), fun k hk => ⟨(h2 k hk).1, fun hh => ?_⟩, fun k hk => ⟨(h3 k hk).1, fun hh => ?_⟩⟩, fun k hk => ?_, by omega⟩
  · rcases hH k hh with h | h
    · exact (h2 k hk).2 h
    · have := h1.dev.lt k hk; omega
  · rcases hH k hh with h | h
    · exact (h3 k hk).2 h
    · have := h1.st.lt k hk; omega
  · rcases hH k hk with h | h
    · have := h4 k h; omega
    · exact h.2
theorem runs_small {d : Dev} {s : St} {M : Nat} (h : Runs d s M) (hM : M ≤ 50000) : d.pend.length + 33000 ≤ 90000 ∧ d.writes + 33000 ≤ 90000 ∧ d.syncs ≤ 90000 := by
  have h1 := h.pend; have h2 := h.writes; have h3 := h.syncs
  exact ⟨by omega, by omega, by omega⟩
set_option maxRecDepth 100000 in
set_option maxHeartbeats 8000000 in
theorem turns_law (l : List Pair2) (a : Option Addr) (cap : Nat) (W : World) (hr : R2 W a l) : Calls Try.prog 18 #[.slice a l.length cap] W (Yes W) := by
  have HR := Lib.hid hr
  clear hr
  have R0 := Lib.hid (Runs.new (N := 4) (K := 60) (by omega) (by omega) (by omega))
  have OP := Lib.hid ((good_new (N := 4) (K := 60) (by omega) (by omega) (by omega)).opens (size := 4) rfl)
  go_enter Try.func18, Try.ntmps18
  go_wp2_with fail
  refine (ssmall_any _).mono ?_
  rintro en w1 ⟨rfl, B1⟩
  go_wp2_with fail
  refine (new_any w1 60).mono ?_
  rintro en w2 ⟨B, rfl, b2, hB, D2⟩
  rw [show sizeOfDev 60 = 60 by decide +kernel] at D2
  have B2 := Lib.hid (B1.trans (b2.mono B1.size))
  have s1 := B1.size
  by_cases h30 : 30 < (l.length : Int)
  · clear D2 b2
    go_wp2
    go_ret
    exact ⟨rfl, B2.out⟩
  have DD := Lib.hid D2
  clear D2 b2 B1
  go_wp2_with fail
  refine (open_any DD.out (by decide +kernel) (by decide +kernel) 4 (by decide)).mono ?_
  intro en w3 h3
  obtain ⟨b3, S, rfl, hst⟩ := open_is h3 OP.out
  have I0 : Hid (TurnI W.heap.size W S B 0 (Dev.new 60) (st0 4 60) (.slice none 0 0) w3) := ⟨B2.out.trans (b3.mono B2.out.size), R0.out, Nat.le_refl _, rfl, fun _ => False, Held.start DD.out (fun k hk => by have := hk.1; omega) B2.out.size b3 hst (fun _ h => h.elim), RowsG.nil _ _, fun _ h => h.elim⟩
  clear h3 b3 hst DD OP R0 B2
  have CK0 : Hid (strV (st0 4 60).check = .string ⟨#[]⟩) := rfl
  go_wp2_with fail
  go_loopw [7, 8, 9, 10] (fun cv rv tv iv wr => ∃ (i : Nat) (d : Dev) (s : St) (ar : Option Addr) (cr : Nat), cv = strV s.check ∧ rv = .slice ar s.recs.length cr ∧ tv = .int .i64 (s.h.turn : Int) ∧ iv = .int .i64 (i : Int) ∧ i ≤ l.length ∧ TurnI W.heap.size W S B i d s (.slice ar s.recs.length cr) wr) (fun _ _ _ iv _ => l.length - (intOf iv).toNat)
  case atStart => exact ⟨0, _, _, none, 0, CK0.out.symm, rfl, rfl, rfl, Nat.zero_le _, I0.out⟩
  case round =>
    obtain ⟨i, d, s, ar, cr, rfl, hrv, rfl, rfl, hi, hI⟩ := hrel
    rw [← hrv] at hI
    clear I0 CK0 hrv
    by_cases hlt : i < l.length
    rotate_left
    · have hii : ¬ (i : Int) < (l.length : Int) := by omega
      have BL := Lib.hid hI.bl
      clear hI
      go_wp2_with fail
      go_ret
      exact ⟨rfl, BL.out⟩
    have hi0 : (0 : Int) ≤ (i : Int) := by omega
    have hii : (i : Int) < (l.length : Int) := by omega
    obtain ⟨g, off, rfl, hg, c0, c1⟩ := (HR.out.below hI.bl (Nat.le_refl _)) i hlt
    obtain ⟨t, ht⟩ : ∃ t, l.getD i zero2 = t := ⟨_, rfl⟩
    rw [ht] at c0 c1
    obtain ⟨x, y⟩ := t
    dsimp only at c0 c1
    obtain ⟨m, hm, hm3⟩ := low2_eq x
    obtain ⟨bl, run, turn, n4, H, hh, rg, hn⟩ := hI
    have BL := Lib.hid bl
    have RUN := Lib.hid run
    have TU : Hid (s.h.turn ≤ i) := turn
    have ti : (s.h.turn : Int) ≤ 30 := by omega
    have N4 : Hid (s.N = 4) := n4
    have HH := Lib.hid hh
    have RG := Lib.hid rg
    have LB := Lib.hid (lawB_len y)
    have ML := Lib.hid (lbytes_any y wr)
    generalize lawB y = b at LB ML
    have hb63 : (b.length : Int) ≤ 63 := by have := LB.out; omega
    clear bl run turn n4 hh rg hg ht
    go_wp2_with fail
    refine ML.out.mono ?_
    rintro en w4 ⟨gb, rfl, b4, lgb, xb⟩
    have hs4 := b4.size
    have HN : Hid (∀ k, (H k ∨ k = gb) → W.heap.size ≤ k) := fun k hk => hk.elim (hn k) (fun h => by have := BL.out.size; omega)
    have hgb : gb < w4.heap.size := (Array.getElem?_eq_some_iff.1 xb).1
    have H4 : Hid (Held W.heap.size (fun k => H k ∨ k = gb) w4 S B d s) := HH.out.ext b4 (fun k hk => hk.imp_right (fun h => by subst h; exact ⟨lgb, hgb⟩))
    have RG4 : Hid (RowsG (fun k => H k ∨ k = gb) w4 u8 s.recs) := RG.out.same (fun k hk hl => b4.block k hl) (fun k hk => .inl hk)
    have BL4 : Hid (Below W.heap.size W w4) := BL.out.trans (b4.mono BL.out.size)
    have XB := Lib.hid xb
    have hc : ∀ o, w4.cell? ⟨g, o, none⟩ = wr.cell? ⟨g, o, none⟩ := fun o => World.cell?_of_block (b4.block g (by have := World.block_lt_of_cell? wr _ c0; exact this))
    rw [← hc] at c0 c1
    clear hc HH RG BL b4 xb ML hn
    obtain ⟨p1, p2, p3⟩ := runs_small RUN.out (by omega)
    by_cases hm33 : m = 3
    · subst hm33
      have hm : bits .and .i64 x 3 = 3 := hm
      obtain ⟨e, q, re⟩ := RUN.out.save b (by have := N4.out; have := LB.out; omega)
      have SV := H4.out.save (Nat.le_refl _) (rb_block XB.out) (.inr rfl) (by have := LB.out; omega) p1 p2 p3
      rw [q] at SV
      have SV' := Lib.hid SV
      have RE := Lib.hid re
      clear SV q re p1 p2 p3
      go_wp2_with fail
      refine SV'.out.mono ?_
      intro en w5 h5
      have rb5 := h5.rb (rb_block XB.out) (.inr rfl)
      obtain ⟨rfl, h5, b5, f5⟩ := h5
      have hcv := conv_blk rb5
      have TI : Hid (TurnI W.heap.size W S B (i + 1) e (svS s b) (.slice none 0 0) w5) := ⟨BL4.out.trans b5, RE.out.mono (by have := LB.out; omega), by show (s.h.turn + 1) % 4294967296 ≤ _; have := TU.out; omega, N4.out, _, h5, RowsG.nil _ _, HN.out⟩
      have HT : Hid (((svS s b).h.turn : Int) = (s.h.turn : Int) + 1) := by show (((s.h.turn + 1) % 4294967296 : Nat) : Int) = _; omega
      clear h5 b5 f5 rb5 SV' RE
      obtain ⟨G5, T5⟩ : ∃ G, IsSt G w5 S B (svS s b) := by obtain ⟨H, h, _, _⟩ := TI.out.ex; exact h.st
      have n5 : Hid (W.heap.size ≤ w5.heap.size) := TI.out.bl.size
      have TT5 := Lib.hid T5
      clear T5
      go_wp2_with fail
      refine (checkpoint_any TT5.out).mono ?_
      rintro en w6 ⟨v6, rfl, o6, b6⟩
      have hcv6 : (convert 22 9 v6).run Try.prog w6 = .ok (strV b) w6 := conv_bs o6
      have hne6 := run_neq_str w6 b
      have T6 := Lib.hid (TT5.out.below b6)
      have C6 := Lib.hid b6
      clear TT5 o6 b6
      go_wp2_with fail
      refine (records_any T6.out).mono ?_
      rintro en w7 ⟨b7, v7, rfl, r7⟩
      obtain ⟨c8, k8, rfl, _, _, rr8⟩ := RR.of_rows r7
      have C7 := Lib.hid (C6.out.trans (b7.mono C6.out.size))
      have T7 := Lib.hid (T6.out.below b7)
      have TI7 := Lib.hid (TI.out.below C7.out n5.out)
      obtain ⟨a9, c9, hv9, _, _, rr9⟩ : ∃ a c, Value.slice none 0 0 = .slice a (svS s b).recs.length c ∧ (svS s b).recs.length ≤ c ∧ (a = none → c = 0) ∧ RR w7 a (svS s b).recs := by obtain ⟨H, _, h, _⟩ := TI7.out.ex; exact h.rr
      have RR8 := Lib.hid rr8
      have RR9 := Lib.hid rr9
      have HRL9 : Hid (((svS s b).recs.length : Int) ≤ 9223372036854775807) := by show _ ≤ _; have k1 := T7.out.ok.rl; have k2 := T7.out.ok.used; have k3 := T7.out.ok.k; omega
      have RO := Lib.hid (rows_any (svS s b).recs (svS s b).recs c8 a9 k8 c9 w7 HRL9.out RR8.out RR9.out)
      rw [← hv9, decide_eq_true rfl] at RO
      clear T6 r7 rr8 rr9 b7 C6 hcv6 hne6 TI hv9 RR8 RR9
      go_wp2_with fail
      refine RO.out.mono ?_
      rintro en w8 ⟨rfl, b8⟩
      have C8 := Lib.hid (C7.out.trans (b8.mono C7.out.size))
      have T8 := Lib.hid (T7.out.below b8)
      have TI8 := Lib.hid (TI7.out.below b8 (Nat.le_trans n5.out C7.out.size))
      clear b8 T7 C7 TI7 RO
      go_wp2_with fail
      refine (turn_any T8.out).mono ?_
      rintro en w9 ⟨rfl, rfl⟩
      rw [HT.out]
      go_wp2_with fail
      refine (broken_any T8.out).mono ?_
      rintro en w9 ⟨rfl, rfl⟩
      rw [TI8.out.run.good.broken]
      go_wp2_with fail
      obtain ⟨a10, c10, hv10⟩ := TI8.out.rv
      go_roundw
      case rel => exact ⟨i + 1, e, svS s b, a10, c10, rfl, hv10, by rw [HT.out], rfl, by omega, by rw [← hv10]; exact TI8.out⟩
      case measure => simp only [intOf]; omega
    · have hm : bits .and .i64 x 3 = (m : Int) := hm
      have hm33' : ¬ (m : Int) = 3 := by omega
      by_cases hroom : s.h.used + (b.length + 6) ≤ 32 * s.L
      · obtain ⟨e, q, re⟩ := RUN.out.append b (by have := LB.out; omega) hroom
        have SV := H4.out.append (Nat.le_refl _) (fun e => by cases e) (rb_block XB.out) (fun g o e => .inr (by cases e; rfl)) (by have := LB.out; omega) p1 p2 p3
        rw [q] at SV
        have SV' := Lib.hid SV
        have RE := Lib.hid re
        clear SV q re p1 p2 p3 hroom hm3 hm33
        go_wp2_with fail
        refine SV'.out.mono ?_
        rintro en w5 ⟨rfl, h5, b5, f5⟩
        have XB5 := Lib.hid ((f5.block gb hgb (fun h => h (.inr rfl))).trans XB.out)
        obtain ⟨vs, r1, r2, r3⟩ := RG4.out.frm f5 (fun k hk hn => hn hk)
        have H5 := Lib.hid h5
        have R1 := Lib.hid r1
        have R2' := Lib.hid r2
        have R3' := Lib.hid r3
        have BL5 := Lib.hid (BL4.out.trans b5)
        have hs5 := f5.size
        have UB : Hid (BsG (fun k => H k ∨ k = gb) w5 (.slice (some ⟨gb, 0, none⟩) b.length b.length) b) := ⟨owns_block5 XB5.out (by have := LB.out; omega), fun k hk => .inr (by cases hk; rfl)⟩
        have HRL : Hid (s.recs.length ≤ 40000) := by
          obtain ⟨G5, T5⟩ := h5.st
          have k1 := T5.ok.rl; have k2 := T5.ok.used; have k3 := T5.ok.k
          show _ ≤ _
          rw [show (apS s b).recs = s.recs ++ [b] from rfl] at k1
          simp at k1
          omega
        clear h5 b5 f5 r1 r2 r3 SV' RG4 H4 XB5
        go_wp2_with (at_builtin; refine app_row rfl (.tmp 68) (.tmp 70) rfl u8 (.slice (some ⟨gb, 0, none⟩) b.length b.length) s.recs.length vs w5.heap.size rfl (owns_below R1.out (below_alloc w5 _)) rfl (cell_lit _ _ _ _ _ rfl) rfl (by have := HRL.out; omega) ?_; intro v6 w5' o6 g6 at6)
        obtain ⟨a6, c6, rfl⟩ := row_form o6
        obtain ⟨rg6, f6⟩ := rows_snoc R1.out R2'.out R3'.out UB.out H5.out.h _ o6 g6 at6
        have n05 := BL5.out.size
        have TI : Hid (TurnI W.heap.size W S B (i + 1) e (apS s b) (.slice a6 (s.recs.length + 1) c6) w5') := ⟨BL5.out.trans (f6.below HN.out n05), RE.out.mono (by have := LB.out; omega), by show (s.h.turn + 1) % 4294967296 ≤ _; have := TU.out; omega, N4.out, _, H5.out.grow f6 (fun k h => h), rg6, fun k hk => hk.elim (HN.out k) (fun h => by omega)⟩
        have HT : Hid (((apS s b).h.turn : Int) = (s.h.turn : Int) + 1) := by show (((s.h.turn + 1) % 4294967296 : Nat) : Int) = _; omega
        clear rg6 f6 o6 g6 at6 R1 R2' R3' UB H5 BL5 RE
        obtain ⟨G5, T5⟩ : ∃ G, IsSt G w5' S B (apS s b) := by obtain ⟨H, h, _, _⟩ := TI.out.ex; exact h.st
        have n5 : Hid (W.heap.size ≤ w5'.heap.size) := TI.out.bl.size
        have TT5 := Lib.hid T5
        clear T5
        refine (checkpoint_any TT5.out).mono ?_
        rintro en w6 ⟨v6, rfl, o6, b6⟩
        have hcv6 : (convert 22 9 v6).run Try.prog w6 = .ok (strV s.check) w6 := conv_bs o6
        have hne6 := run_neq_str w6 s.check
        have T6 := Lib.hid (TT5.out.below b6)
        have C6 := Lib.hid b6
        clear TT5 o6 b6
        go_wp2_with fail
        refine (records_any T6.out).mono ?_
        rintro en w7 ⟨b7, v7, rfl, r7⟩
        obtain ⟨c8, k8, rfl, _, _, rr8⟩ := RR.of_rows r7
        have C7 := Lib.hid (C6.out.trans (b7.mono C6.out.size))
        have T7 := Lib.hid (T6.out.below b7)
        have TI7 := Lib.hid (TI.out.below C7.out n5.out)
        obtain ⟨a9, c9, hv9, _, _, rr9⟩ : ∃ a c, Value.slice a6 (s.recs.length + 1) c6 = .slice a (apS s b).recs.length c ∧ (apS s b).recs.length ≤ c ∧ (a = none → c = 0) ∧ RR w7 a (apS s b).recs := by obtain ⟨H, _, h, _⟩ := TI7.out.ex; exact h.rr
        have RR8 := Lib.hid rr8
        have RR9 := Lib.hid rr9
        have HRL9 : Hid (((apS s b).recs.length : Int) ≤ 9223372036854775807) := by show _ ≤ _; have k1 := T7.out.ok.rl; have k2 := T7.out.ok.used; have k3 := T7.out.ok.k; omega
        have RO := Lib.hid (rows_any (apS s b).recs (apS s b).recs c8 a9 k8 c9 w7 HRL9.out RR8.out RR9.out)
        rw [← hv9, decide_eq_true rfl] at RO
        clear T6 r7 rr8 rr9 b7 C6 hcv6 hne6 TI hv9 RR8 RR9
        go_wp2_with fail
        refine RO.out.mono ?_
        rintro en w8 ⟨rfl, b8⟩
        have C8 := Lib.hid (C7.out.trans (b8.mono C7.out.size))
        have T8 := Lib.hid (T7.out.below b8)
        have TI8 := Lib.hid (TI7.out.below b8 (Nat.le_trans n5.out C7.out.size))
        clear b8 T7 C7 TI7 RO
        go_wp2_with fail
        refine (turn_any T8.out).mono ?_
        rintro en w9 ⟨rfl, rfl⟩
        rw [HT.out]
        go_wp2_with fail
        refine (broken_any T8.out).mono ?_
        rintro en w9 ⟨rfl, rfl⟩
        rw [TI8.out.run.good.broken]
        go_wp2_with fail
        obtain ⟨a10, c10, hv10⟩ := TI8.out.rv
        go_roundw
        case rel => exact ⟨i + 1, e, apS s b, a10, c10, rfl, hv10, by rw [HT.out], rfl, by omega, by rw [← hv10]; exact TI8.out⟩
        case measure => simp only [intOf]; omega
      · have q := RUN.out.full b (by have := LB.out; omega) hroom
        have SV := H4.out.append (Nat.le_refl _) (fun e => by cases e) (rb_block XB.out) (fun g o e => .inr (by cases e; rfl)) (by have := LB.out; omega) p1 p2 p3
        rw [q] at SV
        have SV' := Lib.hid SV
        clear SV q p1 p2 p3 hroom hm3 hm33
        go_wp2_with fail
        refine SV'.out.mono ?_
        rintro en w5 ⟨rfl, h5, b5, f5⟩
        have TI : Hid (TurnI W.heap.size W S B (i + 1) d s u8 w5) := ⟨BL4.out.trans b5, RUN.out.mono (by omega), by have := TU.out; omega, N4.out, _, h5, RG4.out.frm f5 (fun k hk hn => hn hk), HN.out⟩
        clear h5 b5 f5 SV' RG4 H4
        obtain ⟨G5, T5⟩ : ∃ G, IsSt G w5 S B (s) := by obtain ⟨H, h, _, _⟩ := TI.out.ex; exact h.st
        have n5 : Hid (W.heap.size ≤ w5.heap.size) := TI.out.bl.size
        have TT5 := Lib.hid T5
        clear T5
        go_wp2_with fail
        refine (checkpoint_any TT5.out).mono ?_
        rintro en w6 ⟨v6, rfl, o6, b6⟩
        have hcv6 : (convert 22 9 v6).run Try.prog w6 = .ok (strV s.check) w6 := conv_bs o6
        have hne6 := run_neq_str w6 s.check
        have T6 := Lib.hid (TT5.out.below b6)
        have C6 := Lib.hid b6
        clear TT5 o6 b6
        go_wp2_with fail
        refine (records_any T6.out).mono ?_
        rintro en w7 ⟨b7, v7, rfl, r7⟩
        obtain ⟨c8, k8, rfl, _, _, rr8⟩ := RR.of_rows r7
        have C7 := Lib.hid (C6.out.trans (b7.mono C6.out.size))
        have T7 := Lib.hid (T6.out.below b7)
        have TI7 := Lib.hid (TI.out.below C7.out n5.out)
        obtain ⟨a9, c9, hv9, _, _, rr9⟩ : ∃ a c, u8 = .slice a (s).recs.length c ∧ (s).recs.length ≤ c ∧ (a = none → c = 0) ∧ RR w7 a (s).recs := by obtain ⟨H, _, h, _⟩ := TI7.out.ex; exact h.rr
        have RR8 := Lib.hid rr8
        have RR9 := Lib.hid rr9
        have HRL9 : Hid (((s).recs.length : Int) ≤ 9223372036854775807) := by show _ ≤ _; have k1 := T7.out.ok.rl; have k2 := T7.out.ok.used; have k3 := T7.out.ok.k; omega
        have RO := Lib.hid (rows_any (s).recs (s).recs c8 a9 k8 c9 w7 HRL9.out RR8.out RR9.out)
        rw [← hv9, decide_eq_true rfl] at RO
        clear T6 r7 rr8 rr9 b7 C6 hcv6 hne6 TI hv9 RR8 RR9
        go_wp2_with fail
        refine RO.out.mono ?_
        rintro en w8 ⟨rfl, b8⟩
        have C8 := Lib.hid (C7.out.trans (b8.mono C7.out.size))
        have T8 := Lib.hid (T7.out.below b8)
        have TI8 := Lib.hid (TI7.out.below b8 (Nat.le_trans n5.out C7.out.size))
        clear b8 T7 C7 TI7 RO
        go_wp2_with fail
        refine (turn_any T8.out).mono ?_
        rintro en w9 ⟨rfl, rfl⟩
        skip
        go_wp2_with fail
        refine (broken_any T8.out).mono ?_
        rintro en w9 ⟨rfl, rfl⟩
        rw [TI8.out.run.good.broken]
        go_wp2_with fail
        obtain ⟨a10, c10, hv10⟩ := TI8.out.rv
        go_roundw
        case rel => exact ⟨i + 1, d, s, a10, c10, rfl, hv10, rfl, rfl, by omega, by rw [← hv10]; exact TI8.out⟩
        case measure => simp only [intOf]; omega
end Go.Proofs.Ytopemjbakpahfaa

/-
  Contracts and plain laws, part 45 (texts: T20). No condition but what each states.
-/
import Derived.Test.YtopemjbakpahfaaSlotsAgainA
/-
  SlotsAgain: the walk, for all sizes and rows of two numbers. No condition.
-/
namespace Go.Proofs.Ytopemjbakpahfaa
open Go.RowKit Disk Jour Crc Slot
set_option linter.unusedSimpArgs false
set_option linter.unusedVariables false
/-- A store, behind some calls. -/
structure AgainI (n0 : Nat) (w0 : World) (S B N : Nat) (i : Nat) (d : Dev) (s : St) (wr : World) : Prop where
  bl : Below n0 w0 wr
  run : Runs d s (70 * i)
  n : s.N = N
  held : Held n0 (fun _ => False) wr S B d s
theorem AgainI.next {n0 : Nat} {w0 : World} {S B N i : Nat} {d : Dev} {s : St} {wr w4 : World} {b : List UInt8} {g : Nat} (h : AgainI n0 w0 S B N i d s wr) (hi : i < 30) (hb : b.length ≤ 63) (b4 : Below wr.heap.size wr w4) (lg : wr.heap.size ≤ g) (xb : w4.heap[g]? = some (.cells (b.map byteV).toArray 5 (0, 0))) :
    (Calls Try.prog 70 #[.pointer (some ⟨S, 0, none⟩), .slice (some ⟨g, 0, none⟩) b.length b.length] w4 fun en w' => ∃ r d' s', en = .returned (.int .i64 r) ∧ AgainI n0 w0 S B N (i + 1) d' s' w') ∧
    (Calls Try.prog 71 #[.pointer (some ⟨S, 0, none⟩), .slice (some ⟨g, 0, none⟩) b.length b.length] w4 fun en w' => ∃ r d' s', en = .returned (.int .i64 r) ∧ AgainI n0 w0 S B N (i + 1) d' s' w') := by
  obtain ⟨p1, p2, p3⟩ := runs_small h.run (by omega)
  have H4 := h.held.made b4 lg xb
  have B4 := h.bl.trans (b4.mono h.held.sz)
  constructor
  · obtain ⟨e, s', r, q, hr, hn, _⟩ := h.run.save_any b
    refine (H4.save (Nat.le_refl _) (rb_block xb) rfl (by omega) p1 p2 p3).mono ?_
    rw [q]
    rintro en w' ⟨rfl, h5, b5, _⟩
    exact ⟨r, e, s', rfl, B4.trans b5, hr.mono (by omega), hn.trans h.n, h5.drop⟩
  · obtain ⟨e, s', r, q, hr, hn, _⟩ := h.run.append_any b (by omega)
    refine (H4.append (Nat.le_refl _) (fun e => by cases e) (rb_block xb) (fun g o e => by cases e; rfl) (by omega) p1 p2 p3).mono ?_
    rw [q]
    rintro en w' ⟨rfl, h5, b5, _⟩
    exact ⟨r, e, s', rfl, B4.trans b5, hr.mono (by omega), hn.trans h.n, h5.drop⟩
set_option maxRecDepth 100000 in
set_option maxHeartbeats 8000000 in
theorem again_law (sectors size : Int) (l : List Pair2) (a : Option Addr) (cap : Nat) (W : World) (hr : R2 W a l) : Calls Try.prog 20 #[.int .i64 sectors, .int .i64 size, .slice a l.length cap] W (Yes W) := by
  have HR := Lib.hid hr
  clear hr
  go_enter Try.func20, Try.ntmps20
  go_wp2_with fail
  refine (ssmall_any _).mono ?_
  rintro en w1 ⟨rfl, B1⟩
  have s1 := B1.size
  by_cases h64 : 64 < sectors
  · go_wp2
    go_ret
    exact ⟨rfl, B1⟩
  by_cases h30 : 30 < (l.length : Int)
  · go_wp2
    go_ret
    exact ⟨rfl, B1⟩
  go_wp2_with fail
  refine (new_any w1 sectors).mono ?_
  rintro en w2 ⟨B, rfl, b2, hB, D2⟩
  have hK := sizeOf_le sectors
  have B2 := Lib.hid (B1.trans (b2.mono B1.size))
  have DD := Lib.hid D2
  obtain ⟨K, hKK⟩ : ∃ K, sizeOfDev sectors = K := ⟨_, rfl⟩
  rw [hKK] at DD hK
  have hkl : (Dev.new K).kept.length ≤ 1024 := by simp [Dev.new]; exact hK
  have OA := Lib.hid (open_all DD.out hkl (by simp [Dev.new]) size)
  clear D2 b2 B1 hKK
  rcases open_new K hK size with ho | ⟨N, rfl, hN1, hN2, ho⟩
  · rw [ho] at OA
    go_wp2_with fail
    refine OA.out.mono ?_
    intro en w3 h3
    obtain ⟨b3, rfl⟩ := open_no h3 rfl
    have B3 := Lib.hid (B2.out.trans (b3.mono B2.out.size))
    clear h3 b3 ho OA
    go_wp2_with fail
    go_ret
    exact ⟨rfl, B3.out⟩
  rw [ho] at OA
  clear ho
  go_wp2_with fail
  refine OA.out.mono ?_
  intro en w3 h3
  obtain ⟨b3, S, rfl, hst⟩ := open_is h3 rfl
  have I0 : Hid (AgainI W.heap.size W S B N 0 (Dev.new K) (st0 N K) w3) := ⟨B2.out.trans (b3.mono B2.out.size), Runs.new hN1 hN2 hK, rfl, Held.start DD.out (fun k hk => by have := hk.1; omega) B2.out.size b3 hst (fun _ h => h.elim)⟩
  clear h3 b3 hst DD OA B2 hkl
  go_wp2_with fail
  go_loopw [11] (fun iv wr => ∃ (i : Nat) (d : Dev) (s : St), iv = .int .i64 (i : Int) ∧ i ≤ l.length ∧ AgainI W.heap.size W S B N i d s wr) (fun iv _ => l.length - (intOf iv).toNat)
  case atStart => exact ⟨0, _, _, rfl, Nat.zero_le _, I0.out⟩
  case round =>
    obtain ⟨i, d, s, rfl, hi, hI⟩ := hrel
    clear I0
    by_cases hlt : i < l.length
    · have hi0 : (0 : Int) ≤ (i : Int) := by omega
      have hii : (i : Int) < (l.length : Int) := by omega
      obtain ⟨g, off, rfl, hg, c0, c1⟩ := (HR.out.below hI.bl (Nat.le_refl _)) i hlt
      obtain ⟨t, ht⟩ : ∃ t, l.getD i zero2 = t := ⟨_, rfl⟩
      rw [ht] at c0 c1
      obtain ⟨x, y⟩ := t
      dsimp only at c0 c1
      obtain ⟨m, hm, hm3⟩ := low2_eq x
      have LB := lawB_len y
      have ML := Lib.hid (lbytes_any y wr)
      generalize lawB y = b at LB ML
      have NX : Hid (∀ (w4 : World) (g : Nat), Below wr.heap.size wr w4 → wr.heap.size ≤ g → w4.heap[g]? = some (.cells (b.map byteV).toArray 5 (0, 0)) → _) := fun w4 g b4 lg xb => hI.next (by omega) LB b4 lg xb
      clear hI hg ht LB
      by_cases hm33 : m = 3
      · subst hm33
        have hm : bits .and .i64 x 3 = 3 := hm
        go_wp2_with fail
        refine ML.out.mono ?_
        rintro en w4 ⟨gb, rfl, b4, lgb, xb⟩
        have CL := Lib.hid (NX.out w4 gb b4 lgb xb).1
        clear NX ML xb b4 c0 c1
        go_wp2_with fail
        refine CL.out.mono ?_
        rintro en w5 ⟨r, d', s', rfl, h5⟩
        have H5 := Lib.hid h5
        clear h5 CL
        go_wp2_with fail
        go_roundw
        case rel => exact ⟨i + 1, d', s', rfl, by omega, H5.out⟩
        case measure => simp only [intOf]; omega
      · have hm33' : ¬ (m : Int) = 3 := by omega
        go_wp2_with fail
        refine ML.out.mono ?_
        rintro en w4 ⟨gb, rfl, b4, lgb, xb⟩
        have CL := Lib.hid (NX.out w4 gb b4 lgb xb).2
        clear NX ML xb b4 c0 c1
        go_wp2_with fail
        refine CL.out.mono ?_
        rintro en w5 ⟨r, d', s', rfl, h5⟩
        have H5 := Lib.hid h5
        clear h5 CL
        go_wp2_with fail
        go_roundw
        case rel => exact ⟨i + 1, d', s', rfl, by omega, H5.out⟩
        case measure => simp only [intOf]; omega
    have hii : ¬ (i : Int) < (l.length : Int) := by omega
    obtain ⟨bl, run, hsN, held⟩ := hI
    obtain ⟨F, hD⟩ := held.dev
    obtain ⟨G, hT⟩ := held.st
    have HD := Lib.hid hD
    have HX := Lib.hid hT
    have BL := Lib.hid bl
    have OP := Lib.hid (run.good.opens (size := (N : Int)) (by rw [hsN]))
    have hkd := run.dev
    have hpd := run.pend
    clear bl run hsN held hD hT
    go_wp2_with fail
    refine (stats_any HD.out).mono ?_
    rintro en w4 ⟨rfl, b4⟩
    have D4 := Lib.hid (HD.out.below b4)
    have X4 := Lib.hid (HX.out.below b4)
    have B4 := Lib.hid (BL.out.trans (b4.mono BL.out.size))
    clear b4 HD HX BL
    go_wp2_with fail
    refine (open_all D4.out hkd (by omega) (N : Int)).mono ?_
    intro en w5 h5
    obtain ⟨b5, Y, rfl, hst⟩ := open_is h5 OP.out
    have D5 := Lib.hid (D4.out.below b5)
    have X5 := Lib.hid (X4.out.below b5)
    have Y5 := Lib.hid hst
    have B5 := Lib.hid (B4.out.trans (b5.mono B4.out.size))
    clear b5 h5 hst D4 X4 B4
    go_wp2_with fail
    refine (open_all D5.out hkd (by omega) (N : Int)).mono ?_
    intro en w6 h6
    obtain ⟨b6, Z, rfl, hst⟩ := open_is h6 OP.out
    have D6 := Lib.hid (D5.out.below b6)
    have X6 := Lib.hid (X5.out.below b6)
    have Y6 := Lib.hid (Y5.out.below b6)
    have Z6 := Lib.hid hst
    have B6 := Lib.hid (B5.out.trans (b6.mono B5.out.size))
    clear b6 h6 hst D5 X5 Y5 B5 OP
    go_wp2_with fail
    refine (stats_any D6.out).mono ?_
    rintro en w7 ⟨rfl, b7⟩
    have D7 := Lib.hid (D6.out.below b7)
    have X7 := Lib.hid (X6.out.below b7)
    have Y7 := Lib.hid (Y6.out.below b7)
    have Z7 := Lib.hid (Z6.out.below b7)
    have B7 := Lib.hid (B6.out.trans (b7.mono B6.out.size))
    clear b7 D6 X6 Y6 Z6 B6
    go_wp2_with fail
    refine (told_any Y7.out).mono ?_
    rintro en w8 ⟨rfl, b8⟩
    have D8 := Lib.hid (D7.out.below b8)
    have X8 := Lib.hid (X7.out.below b8)
    have Y8 := Lib.hid (Y7.out.below b8)
    have Z8 := Lib.hid (Z7.out.below b8)
    have B8 := Lib.hid (B7.out.trans (b8.mono B7.out.size))
    clear b8 D7 X7 Y7 Z7 B7
    go_wp2_with fail
    refine (told_any X8.out).mono ?_
    rintro en w9 ⟨rfl, b9⟩
    have D9 := Lib.hid (D8.out.below b9)
    have X9 := Lib.hid (X8.out.below b9)
    have Y9 := Lib.hid (Y8.out.below b9)
    have Z9 := Lib.hid (Z8.out.below b9)
    have B9 := Lib.hid (B8.out.trans (b9.mono B8.out.size))
    clear b9 D8 X8 Y8 Z8 B8
    have eq9 := run_eql_str w9 (toldB s) (toldB s)
    rw [decide_eq_true rfl] at eq9
    go_wp2_with fail
    refine (told_any Z9.out).mono ?_
    rintro en w10 ⟨rfl, b10⟩
    have D10 := Lib.hid (D9.out.below b10)
    have X10 := Lib.hid (X9.out.below b10)
    have Y10 := Lib.hid (Y9.out.below b10)
    have B10 := Lib.hid (B9.out.trans (b10.mono B9.out.size))
    clear b10 D9 X9 Y9 Z9 B9 eq9
    go_wp2_with fail
    refine (told_any X10.out).mono ?_
    rintro en w11 ⟨rfl, b11⟩
    have D11 := Lib.hid (D10.out.below b11)
    have X11 := Lib.hid (X10.out.below b11)
    have Y11 := Lib.hid (Y10.out.below b11)
    have B11 := Lib.hid (B10.out.trans (b11.mono B10.out.size))
    clear b11 D10 X10 Y10 B10
    have eq11 := run_eql_str w11 (toldB s) (toldB s)
    rw [decide_eq_true rfl] at eq11
    go_wp2_with fail
    refine (turn_any Y11.out).mono ?_
    rintro en w12 ⟨rfl, rfl⟩
    clear eq11
    go_wp2_with fail
    refine (turn_any X11.out).mono ?_
    rintro en w12 ⟨rfl, rfl⟩
    go_wp2_with fail
    refine (sroom_any Y11.out).mono ?_
    rintro en w12 ⟨rfl, b12⟩
    have D12 := Lib.hid (D11.out.below b12)
    have X12 := Lib.hid (X11.out.below b12)
    have B12 := Lib.hid (B11.out.trans (b12.mono B11.out.size))
    clear b12 D11 X11 Y11 B11
    go_wp2_with fail
    refine (sroom_any X12.out).mono ?_
    rintro en w13 ⟨rfl, b13⟩
    have D13 := Lib.hid (D12.out.below b13)
    have B13 := Lib.hid (B12.out.trans (b13.mono B12.out.size))
    clear b13 D12 X12 B12
    go_wp2_with fail
    refine (pending_any D13.out).mono ?_
    rintro en w14 ⟨rfl, rfl⟩
    rw [hpd]
    go_wp2
    go_ret
    exact ⟨rfl, B13.out⟩
end Go.Proofs.Ytopemjbakpahfaa

/-
  Contracts and plain laws, part 45 (texts: T22). No condition but what each states.
-/
import Derived.Test.YtopemjbakpahfaaSlotsSafeA
/-
  SlotsSafe: the walk, for all sizes, rows of two numbers, stops and sectors that are kept. No condition.
-/
namespace Go.Proofs.Ytopemjbakpahfaa
open Go.RowKit Disk Jour Crc Slot
set_option linter.unusedSimpArgs false
set_option linter.unusedVariables false
theorem Arms.mono {d : Dev} {s : St} {M M' : Nat} (h : Arms d s M) (hm : M ≤ M') : Arms d s M' := ⟨h.good, Nat.le_trans h.writes hm, Nat.le_trans h.syncs hm⟩
/-- Two stores, alike, behind some calls. -/
structure SafeI (n0 : Nat) (w0 : World) (X B1 Y B2 N : Nat) (i : Nat) (d1 d2 : Dev) (s : St) (wr : World) : Prop where
  bl : Below n0 w0 wr
  arms : Arms d1 s (70 * i)
  runs : Runs d2 s (70 * i)
  n : s.N = N
  duo : Duo n0 wr X B1 d1 s Y B2 d2 s
theorem SafeI.below {n0 : Nat} {w0 : World} {X B1 Y B2 N i : Nat} {d1 d2 : Dev} {s : St} {wr w' : World} (h : SafeI n0 w0 X B1 Y B2 N i d1 d2 s wr) (hb : Below wr.heap.size wr w') : SafeI n0 w0 X B1 Y B2 N i d1 d2 s w' :=
  ⟨h.bl.trans (hb.mono h.duo.1), h.arms, h.runs, h.n, h.duo.below hb⟩
theorem arms_small {d : Dev} {s : St} {M : Nat} (h : Arms d s M) (hM : M ≤ 50000) : d.pend.length + 33000 ≤ 90000 ∧ d.writes + 33000 ≤ 90000 ∧ d.syncs ≤ 90000 := by
  have h1 : d.pend.length = 0 := by rw [h.good.pend]; rfl
  have h2 := h.writes; have h3 := h.syncs
  exact ⟨by omega, by omega, by omega⟩
theorem duo_start {n0 : Nat} {w2 w3 w4 w5 w6 : World} {B1 B2 X Y : Nat} {d1 d1' d2 : Dev} {s : St} (F1 : Nat → Prop) (hs : n0 ≤ w2.heap.size) (h1 : IsDev F1 w2 B1 d1) (g1 : ∀ k, F1 k → n0 ≤ k) (b3 : Below w2.heap.size w2 w3) (hx : IsSt (fun k => w2.heap.size ≤ k ∧ k < w3.heap.size) w3 X B1 s)
    (b4 : Below w3.heap.size w3 w4) (h2 : IsDev (fun k => w3.heap.size ≤ k ∧ k < w4.heap.size) w4 B2 d2) (b5 : Below w4.heap.size w4 w5) (hy : IsSt (fun k => w4.heap.size ≤ k ∧ k < w5.heap.size) w5 Y B2 s)
    (hf : Frm F1 w5 w6) (h6 : IsDev F1 w6 B1 d1') : Duo n0 w6 X B1 d1' s Y B2 d2 s := by
  have := b3.size; have := b4.size; have := b5.size; have := hf.size
  have l1 : ∀ k, F1 k → k < w2.heap.size := h1.lt
  refine ⟨by omega, F1, fun k => w2.heap.size ≤ k ∧ k < w3.heap.size, fun k => w3.heap.size ≤ k ∧ k < w4.heap.size, fun k => w4.heap.size ≤ k ∧ k < w5.heap.size, ⟨h6, ((hx.below b4).below b5).frm hf (fun k hk hF => by have := l1 k hF; omega), fun k hk hF => by have := l1 k hF; omega⟩, ⟨(h2.below b5).frm hf (fun k hk hF => by have := l1 k hF; omega), hy.frm hf (fun k hk hF => by have := l1 k hF; omega), fun k hk hF => by omega⟩, fun k hk => hk.elim (g1 k) (fun h => by omega), fun k hk => hk.elim (fun h => by omega) (fun h => by omega), fun k hk hx => ?_⟩
  rcases hk with hk | hk
  · have := l1 k hk
    rcases hx with hx | hx <;> omega
  · rcases hx with hx | hx <;> omega
set_option maxRecDepth 100000 in
set_option maxHeartbeats 16000000 in
theorem safe_law (sectors size : Int) (l : List Pair2) (a : Option Addr) (cap : Nat) (stop : Int) (l4 : List Int) (a4 : Option Addr) (cap4 : Nat) (W : World) (hst : stop ≤ 9223372036854775807) (hr : R2 W a l) (hk4 : RI W a4 l4) :
    Calls Try.prog 22 #[.int .i64 sectors, .int .i64 size, .slice a l.length cap, .int .i64 stop, .slice a4 l4.length cap4] W (Yes W) := by
  have HR := Lib.hid hr
  have HRK := Lib.hid hk4
  clear hr hk4
  go_enter Try.func22, Try.ntmps22
  go_wp2_with fail
  refine (ssmall_any _).mono ?_
  rintro en w1 ⟨rfl, B1'⟩
  have s1 := B1'.size
  by_cases h64 : 64 < sectors
  · go_wp2
    go_ret
    exact ⟨rfl, B1'⟩
  by_cases h30 : 30 < (l.length : Int)
  · go_wp2
    go_ret
    exact ⟨rfl, B1'⟩
  by_cases h40 : 40 < (l4.length : Int)
  · go_wp2
    go_ret
    exact ⟨rfl, B1'⟩
  go_wp2_with fail
  refine (new_any w1 sectors).mono ?_
  rintro en w2 ⟨B1, rfl, b2, hB, D2⟩
  have hK := sizeOf_le sectors
  have B2' := Lib.hid (B1'.trans (b2.mono B1'.size))
  have DD := Lib.hid D2
  have SZ : Hid (sizeOfDev sectors = sizeOfDev sectors) := rfl
  obtain ⟨K, hKK⟩ : ∃ K, sizeOfDev sectors = K := ⟨_, rfl⟩
  have HKK := Lib.hid hKK
  rw [hKK] at DD hK
  have hkl : (Dev.new K).kept.length ≤ 1024 := by simp [Dev.new]; exact hK
  have OA := Lib.hid (open_all DD.out hkl (by simp [Dev.new]) size)
  clear D2 b2 B1' hKK SZ
  rcases open_new K hK size with ho | ⟨N, rfl, hN1, hN2, ho⟩
  · rw [ho] at OA
    go_wp2_with fail
    refine OA.out.mono ?_
    intro en w3 h3
    obtain ⟨b3, rfl⟩ := open_no h3 rfl
    have B3 := Lib.hid (B2'.out.trans (b3.mono B2'.out.size))
    clear h3 b3 ho OA
    go_wp2_with fail
    go_ret
    exact ⟨rfl, B3.out⟩
  rw [ho] at OA
  have OPN := Lib.hid ho
  clear ho
  go_wp2_with fail
  refine OA.out.mono ?_
  intro en w3 h3
  obtain ⟨b3, X, rfl, hstx⟩ := open_is h3 rfl
  have C3 := Lib.hid b3
  have TX := Lib.hid hstx
  have B3 := Lib.hid (B2'.out.trans (b3.mono B2'.out.size))
  clear h3 b3 hstx OA
  go_wp2_with fail
  refine (new_any w3 sectors).mono ?_
  rintro en w4 ⟨B2, rfl, b4, hB2, D4⟩
  rw [HKK.out] at D4
  have DD4 := Lib.hid D4
  have C4 := Lib.hid b4
  have B4 := Lib.hid (B3.out.trans (b4.mono B3.out.size))
  clear b4 D4
  go_wp2_with fail
  refine (open_all DD4.out hkl (by simp [Dev.new]) (N : Int)).mono ?_
  intro en w5 h5
  obtain ⟨b5, Y, rfl, hsty⟩ := open_is h5 OPN.out
  have C5 := Lib.hid b5
  have TY := Lib.hid hsty
  have B5 := Lib.hid (B4.out.trans (b5.mono B4.out.size))
  have D5 := Lib.hid (((DD.out.below C3.out).below C4.out).below b5)
  clear h5 b5 hsty OPN HKK
  go_wp2_with fail
  refine (arm_any D5.out stop hst).mono ?_
  rintro en w6 ⟨⟨u6, rfl⟩, f6, D6⟩
  have g1 : ∀ k, (w1.heap.size ≤ k ∧ k < w2.heap.size) → W.heap.size ≤ k := fun k hk => by omega
  have DU : Hid (Duo W.heap.size w6 X B1 ((Dev.new K).arm stop) (st0 N K) Y B2 (Dev.new K) (st0 N K)) := duo_start _ B2'.out.size DD.out g1 C3.out TX.out C4.out DD4.out C5.out TY.out f6 D6
  have B6 := Lib.hid (B5.out.trans (f6.below g1 B5.out.size))
  obtain ⟨_, F1, G1, F2, G2, sx, _⟩ := DU.out
  have TX6 := Lib.hid sx.st
  clear f6 D6 D5 DD DD4 C3 C4 C5 TX TY B2' B3 B4 B5 sx
  go_wp2_with fail
  refine (told_any TX6.out).mono ?_
  rintro en w7 ⟨rfl, b7⟩
  have I0 : Hid (SafeI W.heap.size W X B1 Y B2 N 0 ((Dev.new K).arm stop) (Dev.new K) (st0 N K) w7) := ⟨B6.out.trans (b7.mono B6.out.size), ⟨arm_good (good_new hN1 hN2 hK) stop, Nat.le_refl _, Nat.le_refl _⟩, Runs.new hN1 hN2 hK, rfl, DU.out.below b7⟩
  clear b7 TX6 DU B6
  go_wp2_with fail
  go_loopw [18, 19, 20] (fun tv mv iv wr => ∃ (i : Nat) (d1 d2 : Dev) (s : St), tv = strV (toldB s) ∧ mv = strV (toldB s) ∧ iv = .int .i64 (i : Int) ∧ i ≤ l.length ∧ SafeI W.heap.size W X B1 Y B2 N i d1 d2 s wr) (fun _ _ iv _ => l.length - (intOf iv).toNat)
  case atStart => exact ⟨0, _, _, _, rfl, rfl, rfl, Nat.zero_le _, I0.out⟩
  case round =>
    obtain ⟨i, d1, d2, s, rfl, rfl, rfl, hi, hI⟩ := hrel
    clear I0
    by_cases hlt : i < l.length
    · have hi0 : (0 : Int) ≤ (i : Int) := by omega
      have hii : (i : Int) < (l.length : Int) := by omega
      obtain ⟨g, off, rfl, hg, c0, c1⟩ := (HR.out.below hI.bl (Nat.le_refl _)) i hlt
      obtain ⟨t, ht⟩ : ∃ t, l.getD i zero2 = t := ⟨_, rfl⟩
      have HT := Lib.hid ht
      rw [ht] at c0 c1
      obtain ⟨x, y⟩ := t
      dsimp only at c0 c1
      obtain ⟨m, hm, hm3⟩ := low2_eq x
      obtain ⟨q1, q2, q3⟩ := arms_small hI.arms (by omega)
      obtain ⟨t1, t2, t3⟩ := runs_small hI.runs (by omega)
      have BW := Lib.hid hI.bl
      have ARMS := Lib.hid hI.arms
      have RUNS := Lib.hid hI.runs
      have SN : Hid (s.N = N) := hI.n
      have DUO := Lib.hid hI.duo
      clear hI hg ht
      by_cases hm33 : m = 3
      · subst hm33
        have hm : bits .and .i64 x 3 = 3 := hm
        skip
        go_wp2_with fail
        refine (lbytes_any y wr).mono ?_
        rintro en w4 ⟨ga, rfl, b4, lga, xa⟩
        have CL1 := Lib.hid (DUO.out.save (lawB_len y) b4 lga xa q1 q2 q3)
        clear b4 xa
        go_wp2_with fail
        refine CL1.out.mono ?_
        rintro en w5 ⟨rfl, duo5, b5⟩
        have D5 := Lib.hid duo5.swap
        have B5 := Lib.hid (BW.out.trans b5)
        obtain ⟨g5, off5, e5, _, c50, c51⟩ := (HR.out.below B5.out (Nat.le_refl _)) i hlt
        cases e5
        rw [HT.out] at c50 c51
        dsimp only at c50 c51
        clear duo5 b5 CL1 c0 c1
        go_wp2_with fail
        refine (lbytes_any y w5).mono ?_
        rintro en w6 ⟨gc, rfl, b6, lgc, xc⟩
        have CL2 := Lib.hid (D5.out.save (lawB_len y) b6 lgc xc t1 t2 t3)
        clear b6 xc
        go_wp2_with fail
        refine CL2.out.mono ?_
        rintro en w7 ⟨rfl, duo7, b7⟩
        have D7 := Lib.hid duo7.swap
        have B7 := Lib.hid (B5.out.trans b7)
        clear duo7 b7 CL2 D5 B5 c50 c51
        rcases both_save ARMS.out RUNS.out SN.out (lawB y) (lawB_len y) with ⟨e1, e2, s', r, k1, k2, kr, ka, kb, kn⟩ | ⟨e1, x', e2, s', k1, k2, kb, kn, kc, kd, ke⟩
        · rw [k1, k2] at D7
          rw [k1, k2]
          dsimp only at D7 ⊢
          have NI : Hid (SafeI W.heap.size W X B1 Y B2 N (i + 1) e1 e2 s' w7) := ⟨B7.out, ka.mono (by omega), kb.mono (by omega), kn, D7.out⟩
          obtain ⟨G7, hT⟩ := D7.out.st2
          have T7 := Lib.hid hT
          have hr14 : ((r : Int) == 14) = false := by rw [beq_eq_false_iff_ne]; exact kr
          clear k1 k2 ka kb kn D7 hT kr
          go_wp2_with fail
          refine (told_any T7.out).mono ?_
          rintro en w8 ⟨rfl, b8⟩
          have N8 := Lib.hid (NI.out.below b8)
          clear b8 NI T7
          go_wp2_with fail
          go_roundw
          case rel => exact ⟨i + 1, e1, e2, s', rfl, rfl, rfl, by omega, N8.out⟩
          case measure => simp only [intOf]; omega
        · rw [k1, k2] at D7
          rw [k1, k2]
          dsimp only at D7 ⊢
          obtain ⟨G7, hT⟩ := D7.out.st2
          have T7 := Lib.hid hT
          obtain ⟨FE, hE, hEF⟩ := D7.out.dev1
          have hkeep := Lib.hid hE
          have EF := Lib.hid hEF
          have BK := Lib.hid kc
          have HSN : Hid (s.N = N) := SN.out
          have HSN2 : Hid (s'.N = N) := kn
          obtain ⟨dE, hdE⟩ : ∃ dE, e1 = dE := ⟨_, rfl⟩
          subst hdE
          have hpE : e1.pend.length ≤ 100000 := by omega
          clear k1 k2 kb kn kc kd ke D7 hT hE hEF
          go_wp2_with fail
          refine (told_any T7.out).mono ?_
          rintro en w8 ⟨rfl, b8⟩
          have ED := Lib.hid (hkeep.out.below b8)
          have EB := Lib.hid (B7.out.trans (b8.mono B7.out.size))
          clear b8 T7 hkeep B7
          go_wp2_with fail
          refine (restart_any ED.out hpE l4 a4 cap4 (by omega) (fun w' hf => HRK.out.below (EB.out.trans (hf.below EF.out EB.out.size)))).mono ?_
          intro en r9 h9
          obtain ⟨rfl, _, b9, F9, D9, g9, n9⟩ := h9.out EF.out EB.out.size
          have B9 := Lib.hid (EB.out.trans b9)
          have D9' := Lib.hid D9
          have G9 := Lib.hid g9
          obtain ⟨z, hz, rz⟩ := BK.out l4
          generalize (e1.restart l4).2 = cnt
          generalize (e1.restart l4).1 = dz at D9' rz
          have OPZ := Lib.hid (rz.good.opens (size := (N : Int)) (by rcases hz with h | h <;> rw [h] <;> first | exact HSN.out.symm ▸ rfl | exact HSN2.out.symm ▸ rfl))
          have RZ := Lib.hid rz
          have hkz := rz.dev
          have hpz := rz.pend
          clear h9 D9 b9 g9 n9 rz ED EB EF BK HRK
          go_wp2_with fail
          refine (open_all D9'.out hkz (by omega) (N : Int)).mono ?_
          intro en r10 h10
          obtain ⟨b10, Z, rfl, hst⟩ := open_is h10 OPZ.out
          have HZ : Hid (Held W.heap.size (fun _ => False) r10 Z B1 dz z) := Held.start D9'.out G9.out B9.out.size b10 hst (fun _ h => h.elim)
          have ZT := Lib.hid hst
          have B10 := Lib.hid (B9.out.trans (b10.mono B9.out.size))
          clear h10 b10 hst D9' G9 B9 OPZ
          go_wp2_with fail
          refine (told_any ZT.out).mono ?_
          rintro en r11 ⟨rfl, b11⟩
          have H11 := Lib.hid (HZ.out.below b11)
          have B11 := Lib.hid (B10.out.trans (b11.mono B10.out.size))
          clear b11 ZT B10 HZ
          obtain ⟨p1, p2, p3⟩ := runs_small RZ.out (by omega)
          obtain ⟨ez, z', rr, hq, hr2, _, hrr⟩ := RZ.out.append_any [] (by decide)
          have AP := H11.out.append (b := []) (a := none) (cap := 0) (Nat.le_refl _) (fun _ => rfl) (RB.nil _ _) (fun g o e => by cases e) (by decide) p1 p2 p3
          rw [hq] at AP
          have AP' := Lib.hid AP
          have hr14 : ((rr : Int) != 14) = true := by rw [bne_iff_ne]; rcases hrr with h | h <;> rw [h] <;> decide
          have hrr2 : Hid (rr = 0 ∨ rr = 2) := hrr
          clear hr2 hq AP hrr p1 p2 p3
          have E1 := run_eql_str r11 (toldB z) (toldB s)
          by_cases ht : toldB z = toldB s
          · rw [decide_eq_true ht] at E1
            clear hz ht
            go_wp2_with fail
            refine AP'.out.mono ?_
            rintro en r12 ⟨rfl, _, b12, _⟩
            have B12 := Lib.hid (B11.out.trans b12)
            clear b12 AP'
            rcases hrr2.out with rfl | rfl
            · go_wp2
              go_ret
              exact ⟨rfl, B12.out⟩
            · go_wp2
              go_ret
              exact ⟨rfl, B12.out⟩
          · rw [decide_eq_false ht] at E1
            have hz2 : z = s' := by
              rcases hz with h | h
              · exact absurd (by rw [h]) ht
              · exact h
            have E2 := run_eql_str r11 (toldB z) (toldB s')
            rw [decide_eq_true (by rw [hz2])] at E2
            clear hz ht hz2
            go_wp2_with fail
            refine AP'.out.mono ?_
            rintro en r12 ⟨rfl, _, b12, _⟩
            have B12 := Lib.hid (B11.out.trans b12)
            clear b12 AP'
            rcases hrr2.out with rfl | rfl
            · go_wp2
              go_ret
              exact ⟨rfl, B12.out⟩
            · go_wp2
              go_ret
              exact ⟨rfl, B12.out⟩
      · have hm33' : ¬ (m : Int) = 3 := by omega
        skip
        go_wp2_with fail
        refine (lbytes_any y wr).mono ?_
        rintro en w4 ⟨ga, rfl, b4, lga, xa⟩
        have CL1 := Lib.hid (DUO.out.append (lawB_len y) b4 lga xa q1 q2 q3)
        clear b4 xa
        go_wp2_with fail
        refine CL1.out.mono ?_
        rintro en w5 ⟨rfl, duo5, b5⟩
        have D5 := Lib.hid duo5.swap
        have B5 := Lib.hid (BW.out.trans b5)
        obtain ⟨g5, off5, e5, _, c50, c51⟩ := (HR.out.below B5.out (Nat.le_refl _)) i hlt
        cases e5
        rw [HT.out] at c50 c51
        dsimp only at c50 c51
        clear duo5 b5 CL1 c0 c1
        go_wp2_with fail
        refine (lbytes_any y w5).mono ?_
        rintro en w6 ⟨gc, rfl, b6, lgc, xc⟩
        have CL2 := Lib.hid (D5.out.append (lawB_len y) b6 lgc xc t1 t2 t3)
        clear b6 xc
        go_wp2_with fail
        refine CL2.out.mono ?_
        rintro en w7 ⟨rfl, duo7, b7⟩
        have D7 := Lib.hid duo7.swap
        have B7 := Lib.hid (B5.out.trans b7)
        clear duo7 b7 CL2 D5 B5 c50 c51
        rcases both_append ARMS.out RUNS.out SN.out (lawB y) (lawB_len y) with ⟨e1, e2, s', r, k1, k2, kr, ka, kb, kn⟩ | ⟨e1, x', e2, s', k1, k2, kb, kn, kc, kd, ke⟩
        · rw [k1, k2] at D7
          rw [k1, k2]
          dsimp only at D7 ⊢
          have NI : Hid (SafeI W.heap.size W X B1 Y B2 N (i + 1) e1 e2 s' w7) := ⟨B7.out, ka.mono (by omega), kb.mono (by omega), kn, D7.out⟩
          obtain ⟨G7, hT⟩ := D7.out.st2
          have T7 := Lib.hid hT
          have hr14 : ((r : Int) == 14) = false := by rw [beq_eq_false_iff_ne]; exact kr
          clear k1 k2 ka kb kn D7 hT kr
          go_wp2_with fail
          refine (told_any T7.out).mono ?_
          rintro en w8 ⟨rfl, b8⟩
          have N8 := Lib.hid (NI.out.below b8)
          clear b8 NI T7
          go_wp2_with fail
          go_roundw
          case rel => exact ⟨i + 1, e1, e2, s', rfl, rfl, rfl, by omega, N8.out⟩
          case measure => simp only [intOf]; omega
        · rw [k1, k2] at D7
          rw [k1, k2]
          dsimp only at D7 ⊢
          obtain ⟨G7, hT⟩ := D7.out.st2
          have T7 := Lib.hid hT
          obtain ⟨FE, hE, hEF⟩ := D7.out.dev1
          have hkeep := Lib.hid hE
          have EF := Lib.hid hEF
          have BK := Lib.hid kc
          have HSN : Hid (s.N = N) := SN.out
          have HSN2 : Hid (s'.N = N) := kn
          obtain ⟨dE, hdE⟩ : ∃ dE, e1 = dE := ⟨_, rfl⟩
          subst hdE
          have hpE : e1.pend.length ≤ 100000 := by omega
          clear k1 k2 kb kn kc kd ke D7 hT hE hEF
          go_wp2_with fail
          refine (told_any T7.out).mono ?_
          rintro en w8 ⟨rfl, b8⟩
          have ED := Lib.hid (hkeep.out.below b8)
          have EB := Lib.hid (B7.out.trans (b8.mono B7.out.size))
          clear b8 T7 hkeep B7
          go_wp2_with fail
          refine (restart_any ED.out hpE l4 a4 cap4 (by omega) (fun w' hf => HRK.out.below (EB.out.trans (hf.below EF.out EB.out.size)))).mono ?_
          intro en r9 h9
          obtain ⟨rfl, _, b9, F9, D9, g9, n9⟩ := h9.out EF.out EB.out.size
          have B9 := Lib.hid (EB.out.trans b9)
          have D9' := Lib.hid D9
          have G9 := Lib.hid g9
          obtain ⟨z, hz, rz⟩ := BK.out l4
          generalize (e1.restart l4).2 = cnt
          generalize (e1.restart l4).1 = dz at D9' rz
          have OPZ := Lib.hid (rz.good.opens (size := (N : Int)) (by rcases hz with h | h <;> rw [h] <;> first | exact HSN.out.symm ▸ rfl | exact HSN2.out.symm ▸ rfl))
          have RZ := Lib.hid rz
          have hkz := rz.dev
          have hpz := rz.pend
          clear h9 D9 b9 g9 n9 rz ED EB EF BK HRK
          go_wp2_with fail
          refine (open_all D9'.out hkz (by omega) (N : Int)).mono ?_
          intro en r10 h10
          obtain ⟨b10, Z, rfl, hst⟩ := open_is h10 OPZ.out
          have HZ : Hid (Held W.heap.size (fun _ => False) r10 Z B1 dz z) := Held.start D9'.out G9.out B9.out.size b10 hst (fun _ h => h.elim)
          have ZT := Lib.hid hst
          have B10 := Lib.hid (B9.out.trans (b10.mono B9.out.size))
          clear h10 b10 hst D9' G9 B9 OPZ
          go_wp2_with fail
          refine (told_any ZT.out).mono ?_
          rintro en r11 ⟨rfl, b11⟩
          have H11 := Lib.hid (HZ.out.below b11)
          have B11 := Lib.hid (B10.out.trans (b11.mono B10.out.size))
          clear b11 ZT B10 HZ
          obtain ⟨p1, p2, p3⟩ := runs_small RZ.out (by omega)
          obtain ⟨ez, z', rr, hq, hr2, _, hrr⟩ := RZ.out.append_any [] (by decide)
          have AP := H11.out.append (b := []) (a := none) (cap := 0) (Nat.le_refl _) (fun _ => rfl) (RB.nil _ _) (fun g o e => by cases e) (by decide) p1 p2 p3
          rw [hq] at AP
          have AP' := Lib.hid AP
          have hr14 : ((rr : Int) != 14) = true := by rw [bne_iff_ne]; rcases hrr with h | h <;> rw [h] <;> decide
          have hrr2 : Hid (rr = 0 ∨ rr = 2) := hrr
          clear hr2 hq AP hrr p1 p2 p3
          have E1 := run_eql_str r11 (toldB z) (toldB s)
          by_cases ht : toldB z = toldB s
          · rw [decide_eq_true ht] at E1
            clear hz ht
            go_wp2_with fail
            refine AP'.out.mono ?_
            rintro en r12 ⟨rfl, _, b12, _⟩
            have B12 := Lib.hid (B11.out.trans b12)
            clear b12 AP'
            rcases hrr2.out with rfl | rfl
            · go_wp2
              go_ret
              exact ⟨rfl, B12.out⟩
            · go_wp2
              go_ret
              exact ⟨rfl, B12.out⟩
          · rw [decide_eq_false ht] at E1
            have hz2 : z = s' := by
              rcases hz with h | h
              · exact absurd (by rw [h]) ht
              · exact h
            have E2 := run_eql_str r11 (toldB z) (toldB s')
            rw [decide_eq_true (by rw [hz2])] at E2
            clear hz ht hz2
            go_wp2_with fail
            refine AP'.out.mono ?_
            rintro en r12 ⟨rfl, _, b12, _⟩
            have B12 := Lib.hid (B11.out.trans b12)
            clear b12 AP'
            rcases hrr2.out with rfl | rfl
            · go_wp2
              go_ret
              exact ⟨rfl, B12.out⟩
            · go_wp2
              go_ret
              exact ⟨rfl, B12.out⟩
    have hii : ¬ (i : Int) < (l.length : Int) := by omega
    obtain ⟨FE, hE, hEF⟩ := hI.duo.dev1
    have ED := Lib.hid hE
    have EF := Lib.hid hEF
    have EB := Lib.hid hI.bl
    have HSN : Hid (s.N = N) := hI.n
    have HSN2 : Hid (s.N = N) := hI.n
    have hb0 := hI.arms.back
    have BK : Hid (Backs d1 s s 5000) := fun keep => by obtain ⟨z, h1, h2⟩ := hb0 keep; exact ⟨z, h1, h2.mono (by omega)⟩
    have hpE : d1.pend.length ≤ 100000 := by rw [hI.arms.good.pend]; exact Nat.zero_le _
    clear hI hE hEF hb0
    go_wp2_with fail
    refine (restart_any ED.out hpE l4 a4 cap4 (by omega) (fun w' hf => HRK.out.below (EB.out.trans (hf.below EF.out EB.out.size)))).mono ?_
    intro en r9 h9
    obtain ⟨rfl, _, b9, F9, D9, g9, n9⟩ := h9.out EF.out EB.out.size
    have B9 := Lib.hid (EB.out.trans b9)
    have D9' := Lib.hid D9
    have G9 := Lib.hid g9
    obtain ⟨z, hz, rz⟩ := BK.out l4
    generalize (d1.restart l4).2 = cnt
    generalize (d1.restart l4).1 = dz at D9' rz
    have OPZ := Lib.hid (rz.good.opens (size := (N : Int)) (by rcases hz with h | h <;> rw [h] <;> first | exact HSN.out.symm ▸ rfl | exact HSN2.out.symm ▸ rfl))
    have RZ := Lib.hid rz
    have hkz := rz.dev
    have hpz := rz.pend
    clear h9 D9 b9 g9 n9 rz ED EB EF BK HRK
    go_wp2_with fail
    refine (open_all D9'.out hkz (by omega) (N : Int)).mono ?_
    intro en r10 h10
    obtain ⟨b10, Z, rfl, hst⟩ := open_is h10 OPZ.out
    have HZ : Hid (Held W.heap.size (fun _ => False) r10 Z B1 dz z) := Held.start D9'.out G9.out B9.out.size b10 hst (fun _ h => h.elim)
    have ZT := Lib.hid hst
    have B10 := Lib.hid (B9.out.trans (b10.mono B9.out.size))
    clear h10 b10 hst D9' G9 B9 OPZ
    go_wp2_with fail
    refine (told_any ZT.out).mono ?_
    rintro en r11 ⟨rfl, b11⟩
    have H11 := Lib.hid (HZ.out.below b11)
    have B11 := Lib.hid (B10.out.trans (b11.mono B10.out.size))
    clear b11 ZT B10 HZ
    obtain ⟨p1, p2, p3⟩ := runs_small RZ.out (by omega)
    obtain ⟨ez, z', rr, hq, hr2, _, hrr⟩ := RZ.out.append_any [] (by decide)
    have AP := H11.out.append (b := []) (a := none) (cap := 0) (Nat.le_refl _) (fun _ => rfl) (RB.nil _ _) (fun g o e => by cases e) (by decide) p1 p2 p3
    rw [hq] at AP
    have AP' := Lib.hid AP
    have hr14 : ((rr : Int) != 14) = true := by rw [bne_iff_ne]; rcases hrr with h | h <;> rw [h] <;> decide
    have hrr2 : Hid (rr = 0 ∨ rr = 2) := hrr
    clear hr2 hq AP hrr p1 p2 p3
    have E1 := run_eql_str r11 (toldB z) (toldB s)
    by_cases ht : toldB z = toldB s
    · rw [decide_eq_true ht] at E1
      clear hz ht
      go_wp2_with fail
      refine AP'.out.mono ?_
      rintro en r12 ⟨rfl, _, b12, _⟩
      have B12 := Lib.hid (B11.out.trans b12)
      clear b12 AP'
      rcases hrr2.out with rfl | rfl
      · go_wp2
        go_ret
        exact ⟨rfl, B12.out⟩
      · go_wp2
        go_ret
        exact ⟨rfl, B12.out⟩
    · exact absurd (by rcases hz with h | h <;> rw [h]) ht
end Go.Proofs.Ytopemjbakpahfaa

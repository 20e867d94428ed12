/-
  Contracts and plain laws, part 9 (texts: StopsL). No condition but what each states.
-/
import Derived.Test.YtopemjbakpahfaaSn08
/-
  DiskStops: the walk, for all numbers. No condition.
-/
namespace Go.Proofs.Ytopemjbakpahfaa
open Go.RowKit Disk
theorem write_ok_at {d : Dev} {k : Int} {b : List UInt8} (hd : d.down = false) (h0 : 0 ≤ k) (h1 : k < (d.kept.length : Int)) (hb : b.length ≤ 32) (ha : d.armed ≠ 1) :
    d.write k b = ({ d.step with pend := d.pend ++ [(k.toNat, pad b)], writes := d.writes + 1 }, 0) := by
  have hk : d.ask k = 0 := by unfold Dev.ask; rw [hd, if_neg (by simp), if_neg (by omega)]
  unfold Dev.write
  rw [if_neg (by simpa using hk), if_neg (by omega), if_neg ha]
theorem write_stop_at {d : Dev} {k : Int} {b : List UInt8} (hd : d.down = false) (h0 : 0 ≤ k) (h1 : k < (d.kept.length : Int)) (hb : b.length ≤ 32) (ha : d.armed = 1) : d.write k b = (d.step, 14) := by
  have hk : d.ask k = 0 := by unfold Dev.ask; rw [hd, if_neg (by simp), if_neg (by omega)]
  unfold Dev.write
  rw [if_neg (by simpa using hk), if_neg (by omega), if_pos ha]
theorem write_down {d : Dev} {k : Int} {b : List UInt8} (hd : d.down = true) : d.write k b = (d, 14) := by
  have hk : d.ask k = 14 := by unfold Dev.ask; rw [hd, if_pos rfl]
  unfold Dev.write
  rw [hk, if_pos (by decide)]
theorem sync_ok_at {d : Dev} (hd : d.down = false) (ha : d.armed ≠ 1) : d.sync = ({ d.step with kept := d.pend.foldl put d.kept, pend := [], syncs := d.syncs + 1 }, 0) := by
  unfold Dev.sync; rw [hd, if_neg (by simp), if_neg ha]
theorem sync_stop_at {d : Dev} (hd : d.down = false) (ha : d.armed = 1) : d.sync = (d.step, 14) := by
  unfold Dev.sync; rw [hd, if_neg (by simp), if_pos ha]
theorem sync_down {d : Dev} (hd : d.down = true) : d.sync = (d, 14) := by
  unfold Dev.sync; rw [if_pos hd]
theorem and3 : ∀ i : Fin 128, bits .and .i64 ((i.val : Nat) : Int) 3 = ((i.val % 4 : Nat) : Int) := by decide +kernel
theorem and3' (i : Nat) (h : i ≤ 100) : bits .and .i64 (i : Int) 3 = ((i % 4 : Nat) : Int) := and3 ⟨i, by omega⟩
/-- The device between two rounds. -/
structure Run (W : World) (B : Nat) (n i : Nat) (d : Dev) (wr : World) : Prop where
  dev : ∃ F, IsDev F wr B d ∧ ∀ k, F k → W.heap.size ≤ k
  bl : Below W.heap.size W wr
  down : d.down = false
  kept : d.kept.length = 4
  armed : d.armed = n - i + 1
  pend : d.pend.length ≤ i
  writes : d.writes ≤ i
  syncs : d.syncs ≤ i
set_option maxRecDepth 100000 in
set_option maxHeartbeats 4000000 in
theorem stops_law (n m : Int) (W : World) : Calls Try.prog 11 #[.int .i64 n, .int .i64 m] W (Yes W) := by
  go_enter Try.func11, Try.ntmps11
  go_wp2_with fail
  refine (dsmall_any _).mono ?_
  rintro en w1 ⟨rfl, B1⟩
  go_wp2_with fail
  refine (new_any w1 4).mono ?_
  rintro en w2 ⟨B, rfl, b2, hB, D2⟩
  rw [show sizeOfDev 4 = 4 by decide +kernel] at D2
  have B2 := B1.trans (b2.mono B1.size)
  by_cases h1 : n < 1
  · go_wp2
    go_ret
    exact ⟨rfl, B2⟩
  by_cases h2 : 100 < n
  · go_wp2
    go_ret
    exact ⟨rfl, B2⟩
  by_cases h3 : m < 0
  · go_wp2
    go_ret
    exact ⟨rfl, B2⟩
  by_cases h4 : 50 < m
  · go_wp2
    go_ret
    exact ⟨rfl, B2⟩
  obtain ⟨N, rfl⟩ : ∃ N : Nat, n = (N : Int) := ⟨n.toNat, by omega⟩
  obtain ⟨M, rfl⟩ : ∃ M : Nat, m = (M : Int) := ⟨m.toNat, by omega⟩
  have hN1 : 1 ≤ N := by omega
  have hN2 : N ≤ 100 := by omega
  have hW1 := B1.size
  go_wp2_with fail
  refine (arm_any D2 (N : Int) (by omega)).mono ?_
  rintro en w3 ⟨⟨v3, rfl⟩, f3, D3⟩
  have hF : ∀ k, (w1.heap.size ≤ k ∧ k < w2.heap.size) → W.heap.size ≤ k := fun k hk => by omega
  have R3 : Run W B N 1 ((Dev.new 4).arm N) w3 := ⟨⟨_, D3, hF⟩, B2.trans (f3.below hF B2.size), rfl, rfl, by simp [Dev.arm]; omega, by simp [Dev.arm, Dev.new], by simp [Dev.arm, Dev.new], by simp [Dev.arm, Dev.new]⟩
  have RR3 := Lib.hid R3
  clear R3 f3 D2 D3 b2 hF
  go_wp2_with fail
  go_loopw [7] (fun iv wr => ∃ (i : Nat) (d : Dev), iv = .int .i64 i ∧ 1 ≤ i ∧ i ≤ N ∧ Run W B N i d wr) (fun iv _ => N - (intOf iv).toNat)
  case atStart => exact ⟨1, _, rfl, by omega, hN1, RR3.out⟩
  case round =>
    obtain ⟨i, d, rfl, hi1, hiN, hrun⟩ := hrel
    have HR := Lib.hid hrun
    obtain ⟨F, hdv, hFW⟩ := hrun.dev
    have DV := Lib.hid hdv
    clear hdv hrun
    by_cases hlt : i < N
    · have hii : (i : Int) < (N : Int) := by omega
      have hi100 : (i : Int) ≤ 100 := by omega
      have hi0 : (0 : Int) ≤ (i : Int) := by omega
      have hand := and3' i (by omega)
      have hb8 : (IntKind.u8.wrap (i : Int)) = (i : Int) := IntWalk.u8_in _ (by omega)
      go_wp2_with fail
      have hkept := HR.out.kept
      have harm := HR.out.armed
      have hwr := write_ok_at (d := d) (k := (i : Int) % 4) (b := [UInt8.ofNat i]) HR.out.down (by omega) (by omega) (by simp) (by omega)
      refine (write_lit DV.out ((i : Int) % 4) [UInt8.ofNat i] _ _ _ _ _ rfl (by
        have : ((UInt8.ofNat i).toNat : Int) = (i : Int) := by rw [UInt8.toNat_ofNat']; omega
        simp only [List.map_cons, List.map_nil, byteV, this]) rfl (by simp) (by have := HR.out.pend; omega) (by have := HR.out.writes; omega)).mono ?_
      intro en w4 h4
      rw [hwr] at h4
      obtain ⟨rfl, _, b4, F4, D4, g4, _⟩ := h4.out hFW (Nat.le_trans HR.out.bl.size (by simp))
      replace b4 := (HR.out.bl.alloc HR.out.bl.size _).trans b4
      have d4 : ∃ e : Dev, e = { d.step with pend := d.pend ++ [(((i : Int) % 4).toNat, pad [UInt8.ofNat i])], writes := d.writes + 1 } := ⟨_, rfl⟩
      obtain ⟨e, he⟩ := d4
      have E1 : e.down = false := by rw [he]; exact decide_eq_false (by omega)
      have E2 : e.kept.length = 4 := by rw [he]; exact hkept
      have E3 : e.armed = N - i := by rw [he]; show d.armed - 1 = _; omega
      have E4 : e.pend.length ≤ i + 1 := by rw [he]; simp; exact HR.out.pend
      have E5 : e.writes ≤ i + 1 := by rw [he]; have := HR.out.writes; show d.writes + 1 ≤ _; omega
      have E6 : e.syncs ≤ i := by rw [he]; exact HR.out.syncs
      have D4' : IsDev F4 w4 B e := by rw [he]; exact D4
      have DD := Lib.hid D4'
      clear h4 hwr he D4 D4' hkept harm hand hb8
      by_cases h7 : (i : Int) % 7 = 0
      · have h7b : ((i : Int) % 7 == 0) = true := by rw [beq_iff_eq]; exact h7
        go_wp2_with fail
        refine (sync_any DD.out (by omega) (by omega)).mono ?_
        intro en w5 h5
        by_cases hl : N - i = 1
        · rw [sync_stop_at E1 (by omega)] at h5
          obtain ⟨rfl, _, b5, F5, D5, g5, _⟩ := h5.out g4 b4.size
          have E7 : e.step.down = true := decide_eq_true (by omega)
          have hge : (N : Int) ≤ (i : Int) + 1 := by omega
          go_wp2_with fail
          refine (down_any D5).mono ?_
          rintro en w6 ⟨rfl, rfl⟩
          rw [E7]
          go_wp2
          go_ret
          exact ⟨rfl, b4.trans b5⟩
        · rw [sync_ok_at E1 (by omega)] at h5
          obtain ⟨rfl, _, b5, F5, D5, g5, _⟩ := h5.out g4 b4.size
          have hge : ¬ (N : Int) ≤ (i : Int) + 1 := by omega
          obtain ⟨e', he'⟩ : ∃ e' : Dev, e' = { e.step with kept := e.pend.foldl put e.kept, pend := [], syncs := e.syncs + 1 } := ⟨_, rfl⟩
          have R5 : Run W B N (i + 1 + 1) e' w5 := by
            rw [he']
            exact ⟨⟨_, D5, g5⟩, b4.trans b5, decide_eq_false (by omega), by rw [puts_length]; exact E2, by show e.armed - 1 = _; omega, by simp, by show e.writes ≤ _; omega, by show e.syncs + 1 ≤ _; omega⟩
          have RR := Lib.hid R5
          have D5' : IsDev F5 w5 B e' := by rw [he']; exact D5
          have hdn : e'.down = false := R5.down
          clear h5 R5 D5 he'
          go_wp2_with fail
          refine (down_any D5').mono ?_
          rintro en w6 ⟨rfl, rfl⟩
          rw [hdn]
          go_wp2_with fail
          go_roundw
          case rel => exact ⟨i + 1 + 1, e', rfl, by omega, by omega, RR.out⟩
          case measure => simp only [intOf]; omega
      · have h7b : ((i : Int) % 7 == 0) = false := by rw [beq_eq_false_iff_ne]; exact h7
        have R5 : Run W B N (i + 1) e w4 := ⟨⟨_, DD.out, g4⟩, b4, E1, E2, by omega, E4, E5, by omega⟩
        have RR := Lib.hid R5
        clear R5
        go_wp2_with fail
        refine (down_any DD.out).mono ?_
        rintro en w6 ⟨rfl, rfl⟩
        rw [E1]
        go_wp2_with fail
        go_roundw
        case rel => exact ⟨i + 1, e, rfl, by omega, by omega, RR.out⟩
        case measure => simp only [intOf]; omega
    · have hii : ¬ (i : Int) < (N : Int) := by omega
      obtain rfl : i = N := by omega
      have harm : d.armed = 1 := by have := HR.out.armed; omega
      have hkept := HR.out.kept
      have hdn := HR.out.down
      have hpd := HR.out.pend
      have hwt := HR.out.writes
      have hsy := HR.out.syncs
      go_wp2_with fail
      refine (stats_any DV.out).mono ?_
      rintro en w4 ⟨rfl, b4⟩
      have D4 := DV.out.below b4
      have B4 := HR.out.bl.trans (b4.mono HR.out.bl.size)
      go_wp2_with fail
      refine (pending_any D4).mono ?_
      rintro en w5 ⟨rfl, rfl⟩
      go_wp2_with fail
      refine (write_any D4 0 [] none 0 (by decide) (fun _ => rfl) (fun w' _ => RB.nil _ _) (by omega) (by omega)).mono ?_
      intro en w6 h6
      rw [write_stop_at hdn (by omega) (by omega) (by simp) harm] at h6
      obtain ⟨rfl, _, b6, F6, D6, g6, _⟩ := h6.out hFW B4.size
      have B6 := B4.trans b6
      obtain ⟨e, he⟩ : ∃ e : Dev, e = d.step := ⟨_, rfl⟩
      have E1 : e.down = true := by rw [he]; exact decide_eq_true harm
      have E2 : e.kept.length = 4 := by rw [he]; exact hkept
      have E3 : e.writes = d.writes := by rw [he]; rfl
      have E4 : e.syncs = d.syncs := by rw [he]; rfl
      have E5 : e.pend.length = d.pend.length := by rw [he]; rfl
      have D6' : IsDev F6 w6 B e := by rw [he]; exact D6
      have DD := Lib.hid D6'
      clear h6 D6 D6' D4 he b4 B4 b6
      go_wp2_with fail
      go_loopw [13] (fun tv wr' => ∃ (t : Nat) (F' : Nat → Prop), tv = .int .i64 t ∧ t ≤ M ∧ IsDev F' wr' B e ∧ (∀ k, F' k → W.heap.size ≤ k) ∧ Below W.heap.size W wr') (fun tv _ => M - (intOf tv).toNat)
      case atStart => exact ⟨0, F6, rfl, Nat.zero_le _, DD.out, g6, B6⟩
      case round =>
        obtain ⟨t, F7, rfl, ht, D7, g7, B7⟩ := hrel
        by_cases htl : t < M
        · have hti : (t : Int) < (M : Int) := by omega
          have ht50 : (t : Int) ≤ 50 := by omega
          go_wp2_with fail
          refine (write_any D7 0 [] none 0 (by decide) (fun _ => rfl) (fun w' _ => RB.nil _ _) (by omega) (by omega)).mono ?_
          intro en w8 h8
          rw [write_down E1] at h8
          obtain ⟨rfl, _, b8, F8, D8, g8, _⟩ := h8.out g7 B7.size
          have B8 := B7.trans b8
          clear h8 D7
          go_wp2_with fail
          refine (sync_any D8 (by omega) (by omega)).mono ?_
          intro en w9 h9
          rw [sync_down E1] at h9
          obtain ⟨rfl, _, b9, F9, D9, g9, _⟩ := h9.out g8 B8.size
          have D99 := Lib.hid D9
          have B9 := B8.trans b9
          clear h9 D8 D9
          go_wp2_with fail
          go_roundw
          case rel => exact ⟨t + 1, F9, rfl, by omega, D99.out, g9, B9⟩
          case measure => simp only [intOf]; omega
        · have hti : ¬ (t : Int) < (M : Int) := by omega
          go_wp2_with fail
          refine (stats_any D7).mono ?_
          rintro en w8 ⟨rfl, b8⟩
          have D8 := D7.below b8
          have B8 := B7.trans (b8.mono B7.size)
          rw [E3, E4]
          clear D7
          go_wp2_with fail
          refine (down_any D8).mono ?_
          rintro en w9 ⟨rfl, rfl⟩
          rw [E1]
          go_wp2_with fail
          refine (pending_any D8).mono ?_
          rintro en w9 ⟨rfl, rfl⟩
          rw [E5]
          go_wp2_with fail
          refine (restart_any D8 (by omega) [] none 0 (by decide) (fun w' _ i hi => absurd hi (by simp))).mono ?_
          intro en w9 h9
          obtain ⟨rfl, _, b9, F9, D9, g9, _⟩ := h9.out g7 B8.size
          have B9 := B8.trans b9
          obtain ⟨u, hu⟩ : ∃ u : Dev, u = (e.restart []).1 := ⟨_, rfl⟩
          have U1 : u.down = false := by rw [hu]; rfl
          have U2 : u.pend.length = 0 := by rw [hu]; rfl
          have U3 : u.armed ≠ 1 := by rw [hu]; show (0 : Nat) ≠ 1; decide
          have U4 : u.kept.length = 4 := by rw [hu]; show (List.foldl put e.kept _).length = 4; rw [puts_length]; exact E2
          have U5 : u.writes ≤ 1000 := by rw [hu]; show e.writes ≤ 1000; omega
          have D9' : IsDev F9 w9 B u := by rw [hu]; exact D9
          clear h9 D8 D9 hu
          go_wp2_with fail
          refine (down_any D9').mono ?_
          rintro en w10 ⟨rfl, rfl⟩
          rw [U1]
          go_wp2_with fail
          refine (pending_any D9').mono ?_
          rintro en w10 ⟨rfl, rfl⟩
          rw [U2]
          go_wp2_with fail
          refine (write_any D9' 0 [] none 0 (by decide) (fun _ => rfl) (fun w' _ => RB.nil _ _) (by omega) (by omega)).mono ?_
          intro en w10 h10
          rw [write_ok_at U1 (by omega) (by omega) (by simp) U3] at h10
          obtain ⟨rfl, _, b10, _, _, _, _⟩ := h10.out g9 B9.size
          go_wp2
          go_ret
          exact ⟨rfl, B9.trans b10⟩
end Go.Proofs.Ytopemjbakpahfaa

/-
  Contracts and plain laws, part 29 (texts: LastL). No condition but what each states.
-/
import Derived.Test.YtopemjbakpahfaaJournalPlaysM
/-
  DiskLast: the walk, for all rows of steps. No condition.
-/
namespace Go.Proofs.Ytopemjbakpahfaa
open Go.RowKit Disk
/-- The device between two rounds. -/
structure LRun (W : World) (B : Nat) (k : Int) (i : Nat) (want : List UInt8) (d : Dev) (wr : World) : Prop where
  dev : ∃ F, IsDev F wr B d ∧ ∀ k, F k → W.heap.size ≤ k
  bl : Below W.heap.size W wr
  down : d.down = false
  kept : d.kept.length = 6
  armed : d.armed = 0
  pend : d.pend.length ≤ i
  writes : d.writes ≤ i
  syncs : d.syncs ≤ i
  want : 0 ≤ k → k < 6 → want = d.sector k.toNat
theorem LRun.at {W : World} {B : Nat} {k : Int} {i : Nat} {want : List UInt8} {d : Dev} {wr w : World} {F : Nat → Prop} (h : LRun W B k i want d wr) (hd : IsDev F w B d) (hF : ∀ k, F k → W.heap.size ≤ k) (hb : Below W.heap.size W w) : LRun W B k i want d w :=
  ⟨⟨F, hd, hF⟩, hb, h.down, h.kept, h.armed, h.pend, h.writes, h.syncs, h.want⟩
/-- A literal's row grows: the device stays. -/
theorem dev_lit {F F' : Nat → Prop} {w4 w5 : World} {B g n c s : Nat} {d : Dev} (h : IsDev F' w4 B d) (hg : w4.grownBy w5 (Value.slice (some ⟨g, 0, none⟩) n c).ownBlock) (hnF : ¬ F g) (hn : ∀ k, F' k → F k ∨ s + 1 ≤ k) (hs : g = s := by rfl) : IsDev F' w5 B d :=
  h.frm (G := fun j => j = g) (Frm.grown hg (fun k hk => by simpa [Value.ownBlock] using hk.symm)) (fun j hj e => by subst e; rcases hn j hj with h1 | h1; exact hnF h1; omega)
set_option maxRecDepth 100000 in
set_option maxHeartbeats 4000000 in
theorem last_law (l : List Three) (a : Option Addr) (cap : Nat) (k : Int) (W : World) (hr : R3 W a l) (hx : ∀ i, i < l.length → (l.getD i zero3).fits) : Calls Try.prog 9 #[.slice a l.length cap, .int .i64 k] W (Yes W) := by
  go_enter Try.func9, Try.ntmps9
  go_wp2_with fail
  refine (dsmall_any _).mono ?_
  rintro en w1 ⟨rfl, B1⟩
  go_wp2_with fail
  refine (new_any w1 6).mono ?_
  rintro en w2 ⟨B, rfl, b2, hB, D2⟩
  rw [show sizeOfDev 6 = 6 by decide +kernel] at D2
  have B2 := B1.trans (b2.mono B1.size)
  by_cases h60 : 60 < (l.length : Int)
  · go_wp2
    go_ret
    exact ⟨rfl, B2⟩
  have hW1 := B1.size
  have hF : ∀ k, (w1.heap.size ≤ k ∧ k < w2.heap.size) → W.heap.size ≤ k := fun k hk => by omega
  obtain ⟨z, hz⟩ : ∃ z : List UInt8, z = List.replicate 32 0 := ⟨_, rfl⟩
  have hzl : z.length = 32 := by rw [hz]; rfl
  have hmk : (Instr.makeSlice 22 (.int .i64 32) (.int .i64 32)).run Try.prog w2 = .ok (.slice (some ⟨w2.heap.size, 0, none⟩) 32 32) (w2.alloc (.cells (z.map byteV).toArray 5)) := by rw [hz]; exact run_make_bytes w2 32 (by decide)
  have R2 : LRun W B k 0 z (Dev.new 6) (w2.alloc (.cells (z.map byteV).toArray 5)) := ⟨⟨_, D2.below (below_alloc w2 _), hF⟩, B2.alloc B2.size _, rfl, rfl, rfl, Nat.le_refl _, Nat.le_refl _, Nat.le_refl _, fun h0 h1 => hz.trans (zero_sector _ _ (by omega)).symm⟩
  have RR2 := Lib.hid R2
  have hcv : (convert 22 9 (.slice (some ⟨w2.heap.size, 0, none⟩) 32 32)).run Try.prog (w2.alloc (.cells (z.map byteV).toArray 5)) = .ok (.string ⟨z.toArray⟩) (w2.alloc (.cells (z.map byteV).toArray 5)) := by
    have h := conv_bs (owns_bytes w2 z _ w2.heap.size _ rfl (Nat.le_refl _) rfl (by rw [hzl]; decide))
    rw [hzl] at h
    exact h
  clear R2 D2 hF hz
  go_wp2_with fail
  go_loopw [7, 8, 9] (fun sv nv iv wr => ∃ (i : Nat) (want : List UInt8) (d : Dev), sv = .string ⟨want.toArray⟩ ∧ nv = .int .i64 (d.writes : Int) ∧ iv = .int .i64 i ∧ i ≤ l.length ∧ LRun W B k i want d wr) (fun _ _ iv _ => l.length - (intOf iv).toNat)
  case atStart => exact ⟨0, z, Dev.new 6, rfl, rfl, rfl, Nat.zero_le _, RR2.out⟩
  case round =>
    obtain ⟨i, want, d, rfl, rfl, rfl, hil, hrun⟩ := hrel
    have HR := Lib.hid hrun
    obtain ⟨F, hdv, hFW⟩ := hrun.dev
    have DV := Lib.hid hdv
    clear hdv hrun RR2 hmk hcv
    by_cases hlt : i < l.length
    · have hii : (i : Int) < (l.length : Int) := by omega
      have hi0 : (0 : Int) ≤ (i : Int) := by omega
      obtain ⟨g, off, rfl, hg, c0, c1, c2⟩ := (hr.below HR.out.bl) i hlt
      obtain ⟨t, ht⟩ : ∃ t, l.getD i zero3 = t := ⟨_, rfl⟩
      rw [ht] at c0 c1 c2
      have hfit := hx i hlt
      rw [ht] at hfit
      have ht0 := Lib.hid ht
      clear ht
      go_wp2_with fail
      have hlit : (#[Value.int .u8 (t.z % 256), Value.int .u8 (i : Int), Value.int .u8 7] : Array Value) = (([by8 t.z, by8 i, 7] : List UInt8).map byteV).toArray := by
        have e1 := byteV_by8 t.z
        have e2 := byteV_by8 (i : Int)
        rw [IntKind.wrap_u8] at e1
        rw [IntWalk.u8_in _ (by omega)] at e2
        simp only [List.map_cons, List.map_nil, e1, e2]
        rfl
      obtain ⟨x, hx1⟩ : ∃ x, by8 t.z = x := ⟨_, rfl⟩
      obtain ⟨y, hy1⟩ : ∃ y, by8 (i : Int) = y := ⟨_, rfl⟩
      rw [hx1, hy1] at hlit
      have hRB := RB.lit wr [x, y, 7] _ (0, 0) _ rfl hlit
      have hOB := owns_bytes wr [x, y, 7] _ wr.heap.size _ rfl (Nat.le_refl _) hlit (show (3 : Nat) ≤ maxLen by decide)
      refine (write_lit DV.out t.y [x, y, 7] _ _ _ _ _ rfl hlit rfl (show (3 : Nat) ≤ 1000 by decide) (by have := HR.out.pend; omega) (by have := HR.out.writes; omega)).mono ?_
      intro en w4 h4
      have hnF : ¬ F wr.heap.size := fun h => by have := DV.out.lt _ h; omega
      by_cases hy : t.y < 0 ∨ 6 ≤ t.y
      · rw [write_bad_at HR.out.down (by rw [HR.out.kept]; exact hy)] at h4
        obtain ⟨rfl, _, b4, F4, D4, g4, _⟩ := h4.out hFW (Nat.le_trans HR.out.bl.size (by simp))
        replace b4 := (HR.out.bl.alloc HR.out.bl.size _).trans b4
        obtain ⟨e, he⟩ : ∃ e, e = d := ⟨_, rfl⟩
        rw [← he] at D4
        have hwe : (e.writes : Int) = d.writes := by rw [he]
        have HM : Hid (LRun W B k (i + 1) want e w4) := Lib.hid (by
          rw [he] at D4 ⊢
          exact ⟨⟨_, D4, g4⟩, b4, HR.out.down, HR.out.kept, HR.out.armed, Nat.le_succ_of_le HR.out.pend, Nat.le_succ_of_le HR.out.writes, Nat.le_succ_of_le HR.out.syncs, HR.out.want⟩)
        have DV4 := Lib.hid D4
        have hsy : e.syncs ≤ i := by rw [he]; exact HR.out.syncs
        obtain ⟨want', hw'⟩ : ∃ w', w' = want := ⟨_, rfl⟩
        rw [← hw'] at HM ⊢
        obtain ⟨g', off', e0, hg', c0', _, _⟩ := (hr.below HM.out.bl) i hlt
        cases e0
        clear h4 D4 he hw'
        rw [ht0.out] at c0'
        by_cases h3 : t.x.tmod 3 = 0
        · go_wp2_with fail
          refine (sync_any DV4.out (by have := HM.out.pend; omega) (by omega)).mono ?_
          intro en w5 h5
          rw [sync_ok_at HM.out.down (by rw [HM.out.armed]; decide)] at h5
          obtain ⟨rfl, _, b5, F5, D5, g5, _⟩ := h5.out g4 HM.out.bl.size
          obtain ⟨e', he'⟩ : ∃ e' : Dev, e' = { e.step with kept := e.pend.foldl put e.kept, pend := [], syncs := e.syncs + 1 } := ⟨_, rfl⟩
          rw [← he'] at D5
          have R5 : LRun W B k (i + 1) want' e' w5 := by
            refine ⟨⟨_, D5, g5⟩, HM.out.bl.trans b5, ?_, ?_, ?_, ?_, ?_, ?_, ?_⟩
            · rw [he']; exact decide_eq_false (by rw [HM.out.armed]; decide)
            · rw [he']; show (List.foldl put e.kept e.pend).length = 6; rw [puts_length]; exact HM.out.kept
            · rw [he']; show e.armed - 1 = 0; rw [HM.out.armed]
            · rw [he']; exact Nat.zero_le _
            · rw [he']; exact HM.out.writes
            · rw [he']; show e.syncs + 1 ≤ i + 1; omega
            · intro h0 h1
              rw [sector_sync (d := e) (by rw [he']) (by rw [he']) (by rw [HM.out.kept]; omega)]
              exact HM.out.want h0 h1
          have hwr5 : (e'.writes : Int) = e.writes := by rw [he']; rfl
          have RR := Lib.hid R5
          clear h5 R5 D5 he'
          go_wp2_with fail
          go_roundw
          case rel => exact ⟨i + 1, want', e', rfl, by rw [hwr5, hwe], rfl, by omega, RR.out⟩
          case measure => simp only [intOf]; omega
        · go_wp2_with fail
          go_roundw
          case rel => exact ⟨i + 1, want', e, rfl, by rw [hwe], rfl, by omega, HM.out⟩
          case measure => simp only [intOf]; omega
      · rw [write_ok_at HR.out.down (by omega) (by rw [HR.out.kept]; omega) (by simp) (by rw [HR.out.armed]; decide)] at h4
        have hOB4 : w4.ownsRow wr.heap.size 5 1 (.slice (some ⟨wr.heap.size, 0, none⟩) 3 3) [x, y, 7].length (([x, y, 7] : List UInt8).map byteV) := owns_block hOB (fun k hk => by
          obtain rfl : wr.heap.size = k := by simpa [Value.ownBlock] using hk
          exact h4.2.1.block _ (by simp) hnF)
        obtain ⟨rfl, _, b4, F4, D4, g4, n4⟩ := h4.out hFW (Nat.le_trans HR.out.bl.size (by simp))
        have b40 := b4
        replace b4 := (HR.out.bl.alloc HR.out.bl.size _).trans b4
        obtain ⟨e, he⟩ : ∃ e : Dev, e = { d.step with pend := d.pend ++ [(t.y.toNat, pad [x, y, 7])], writes := d.writes + 1 } := ⟨_, rfl⟩
        rw [← he] at D4
        have hwe : (e.writes : Int) = (d.writes : Int) + 1 := by rw [he]; rfl
        have hsec := fun j => sector_app (d := d) (e := e) (p := (t.y.toNat, pad [x, y, 7])) (by rw [he]) (by rw [he]; rfl) j
        have E0 : Hid (∀ want' : List UInt8, (0 ≤ k → k < 6 → want' = if t.y.toNat = k.toNat then pad [x, y, 7] else d.sector k.toNat) → LRun W B k (i + 1) want' e w4) := Lib.hid (by
          intro want' hw'
          refine ⟨⟨_, D4, g4⟩, b4, ?_, ?_, ?_, ?_, ?_, ?_, ?_⟩
          · rw [he]; exact decide_eq_false (by rw [HR.out.armed]; decide)
          · rw [he]; exact HR.out.kept
          · rw [he]; show d.armed - 1 = 0; rw [HR.out.armed]
          · rw [he]; simp; exact HR.out.pend
          · rw [he]; have := HR.out.writes; show d.writes + 1 ≤ _; omega
          · rw [he]; exact Nat.le_succ_of_le HR.out.syncs
          · intro h0 h1; rw [hsec]; exact hw' h0 h1)
        have DV4 := Lib.hid D4
        have hsy : e.syncs ≤ i := by rw [he]; exact HR.out.syncs
        obtain ⟨g', off', e0, hg', c0', c1', _⟩ := (hr.below b4) i hlt
        cases e0
        have HB4 := Lib.hid b4
        have HOB4 := Lib.hid hOB4
        have hHR := HR.out.want
        have hdw0 : (0 : Int) ≤ (d.writes : Int) := by omega
        have hdw1 : (d.writes : Int) ≤ 60 := by have := HR.out.writes; omega
        clear h4 D4 he hsec hOB4 b4
        rw [ht0.out] at c0' c1'
        by_cases hyk : t.y = k
        · have hyk2 : (t.y == k) = true := by rw [beq_iff_eq]; exact hyk
          by_cases h3 : t.x.tmod 3 = 0
          · go_wp2_with (at_builtin; refine wpList_append_zeros rfl (.tmp 64) (.const (.int .i64 29)) rfl wr.heap.size _ [x, y, 7] 29 rfl rfl HOB4.out (show (3 : Nat) + 29 ≤ 1000000000 by decide) (Nat.le_trans (by simp) b40.size) ?_; intro v5 w6 o5 g5; obtain ⟨m5, hm5⟩ : ∃ m : List UInt8, m = [x, y, 7] ++ List.replicate 29 0 := ⟨_, rfl⟩; rw [← hm5] at o5; have hcv5 : (convert 22 9 v5).run Try.prog w6 = .ok (.string ⟨m5.toArray⟩) w6 := conv_bs o5; have b6 : Below W.heap.size W w6 := HB4.out.grown g5 HB4.out.size (fun j hj => Nat.le_trans HR.out.bl.size (HOB4.out.lt j hj).1); have D6 := dev_lit (s := wr.heap.size) DV4.out g5 hnF (fun j hj => (n4 j hj).imp_right (fun h => by simpa using h)); have HM := Lib.hid ((E0.out m5 (fun h0 h1 => by rw [if_pos (by rw [hyk]), pad3]; exact hm5)).at D6 g4 b6); have DV4 := Lib.hid D6; obtain ⟨g', off', e0, hg', c0', _, _⟩ := (hr.below b6) i hlt; cases e0; rw [ht0.out] at c0'; clear E0 hHR hm5 o5 D6)
            refine (sync_any DV4.out (by have := HM.out.pend; omega) (by omega)).mono ?_
            intro en w5 h5
            rw [sync_ok_at HM.out.down (by rw [HM.out.armed]; decide)] at h5
            obtain ⟨rfl, _, b5, F5, D5, g5, _⟩ := h5.out g4 HM.out.bl.size
            obtain ⟨e', he'⟩ : ∃ e' : Dev, e' = { e.step with kept := e.pend.foldl put e.kept, pend := [], syncs := e.syncs + 1 } := ⟨_, rfl⟩
            rw [← he'] at D5
            have R5 : LRun W B k (i + 1) m5 e' w5 := by
              refine ⟨⟨_, D5, g5⟩, HM.out.bl.trans b5, ?_, ?_, ?_, ?_, ?_, ?_, ?_⟩
              · rw [he']; exact decide_eq_false (by rw [HM.out.armed]; decide)
              · rw [he']; show (List.foldl put e.kept e.pend).length = 6; rw [puts_length]; exact HM.out.kept
              · rw [he']; show e.armed - 1 = 0; rw [HM.out.armed]
              · rw [he']; exact Nat.zero_le _
              · rw [he']; exact HM.out.writes
              · rw [he']; show e.syncs + 1 ≤ i + 1; omega
              · intro h0 h1
                rw [sector_sync (d := e) (by rw [he']) (by rw [he']) (by rw [HM.out.kept]; omega)]
                exact HM.out.want h0 h1
            have hwr5 : (e'.writes : Int) = e.writes := by rw [he']; rfl
            have RR := Lib.hid R5
            clear h5 R5 D5 he'
            go_wp2_with fail
            go_roundw
            case rel => exact ⟨i + 1, m5, e', rfl, by rw [hwr5, hwe], rfl, by omega, RR.out⟩
            case measure => simp only [intOf]; omega
          · go_wp2_with (at_builtin; refine wpList_append_zeros rfl (.tmp 64) (.const (.int .i64 29)) rfl wr.heap.size _ [x, y, 7] 29 rfl rfl HOB4.out (show (3 : Nat) + 29 ≤ 1000000000 by decide) (Nat.le_trans (by simp) b40.size) ?_; intro v5 w6 o5 g5; obtain ⟨m5, hm5⟩ : ∃ m : List UInt8, m = [x, y, 7] ++ List.replicate 29 0 := ⟨_, rfl⟩; rw [← hm5] at o5; have hcv5 : (convert 22 9 v5).run Try.prog w6 = .ok (.string ⟨m5.toArray⟩) w6 := conv_bs o5; have b6 : Below W.heap.size W w6 := HB4.out.grown g5 HB4.out.size (fun j hj => Nat.le_trans HR.out.bl.size (HOB4.out.lt j hj).1); have D6 := dev_lit (s := wr.heap.size) DV4.out g5 hnF (fun j hj => (n4 j hj).imp_right (fun h => by simpa using h)); have HM := Lib.hid ((E0.out m5 (fun h0 h1 => by rw [if_pos (by rw [hyk]), pad3]; exact hm5)).at D6 g4 b6); have DV4 := Lib.hid D6; obtain ⟨g', off', e0, hg', c0', _, _⟩ := (hr.below b6) i hlt; cases e0; rw [ht0.out] at c0'; clear E0 hHR hm5 o5 D6)
            go_roundw
            case rel => exact ⟨i + 1, m5, e, rfl, by rw [hwe], rfl, by omega, HM.out⟩
            case measure => simp only [intOf]; omega
        · have hyk2 : (t.y == k) = false := by rw [beq_eq_false_iff_ne]; exact hyk
          obtain ⟨want', hw'⟩ : ∃ w', w' = want := ⟨_, rfl⟩
          have HM := Lib.hid (E0.out want' (fun h0 h1 => by rw [if_neg (by omega), hw']; exact hHR h0 h1))
          rw [← hw']
          clear E0 hHR hw'
          by_cases h3 : t.x.tmod 3 = 0
          · go_wp2_with fail
            refine (sync_any DV4.out (by have := HM.out.pend; omega) (by omega)).mono ?_
            intro en w5 h5
            rw [sync_ok_at HM.out.down (by rw [HM.out.armed]; decide)] at h5
            obtain ⟨rfl, _, b5, F5, D5, g5, _⟩ := h5.out g4 HM.out.bl.size
            obtain ⟨e', he'⟩ : ∃ e' : Dev, e' = { e.step with kept := e.pend.foldl put e.kept, pend := [], syncs := e.syncs + 1 } := ⟨_, rfl⟩
            rw [← he'] at D5
            have R5 : LRun W B k (i + 1) want' e' w5 := by
              refine ⟨⟨_, D5, g5⟩, HM.out.bl.trans b5, ?_, ?_, ?_, ?_, ?_, ?_, ?_⟩
              · rw [he']; exact decide_eq_false (by rw [HM.out.armed]; decide)
              · rw [he']; show (List.foldl put e.kept e.pend).length = 6; rw [puts_length]; exact HM.out.kept
              · rw [he']; show e.armed - 1 = 0; rw [HM.out.armed]
              · rw [he']; exact Nat.zero_le _
              · rw [he']; exact HM.out.writes
              · rw [he']; show e.syncs + 1 ≤ i + 1; omega
              · intro h0 h1
                rw [sector_sync (d := e) (by rw [he']) (by rw [he']) (by rw [HM.out.kept]; omega)]
                exact HM.out.want h0 h1
            have hwr5 : (e'.writes : Int) = e.writes := by rw [he']; rfl
            have RR := Lib.hid R5
            clear h5 R5 D5 he'
            go_wp2_with fail
            go_roundw
            case rel => exact ⟨i + 1, want', e', rfl, by rw [hwr5, hwe], rfl, by omega, RR.out⟩
            case measure => simp only [intOf]; omega
          · go_wp2_with fail
            go_roundw
            case rel => exact ⟨i + 1, want', e, rfl, by rw [hwe], rfl, by omega, HM.out⟩
            case measure => simp only [intOf]; omega
    · have hii : ¬ (i : Int) < (l.length : Int) := by omega
      have hdw : (d.writes : Int) ≤ 60 := by have := HR.out.writes; omega
      go_wp2_with fail
      refine (read_any DV.out k (by have := HR.out.pend; omega)).mono ?_
      rintro en w4 ⟨b4, v, rfl, hsec⟩
      have D4 := DV.out.below b4
      have B4 := HR.out.bl.trans (b4.mono HR.out.bl.size)
      by_cases hk : k < 0 ∨ 6 ≤ k
      · rw [read_bad_at HR.out.down (by rw [HR.out.kept]; exact hk)] at hsec ⊢
        by_cases hk0 : k < 0
        · go_wp2_with fail
          refine (stats_any D4).mono ?_
          rintro en w5 ⟨rfl, b5⟩
          go_wp2
          go_ret
          exact ⟨rfl, B4.trans (b5.mono B4.size)⟩
        · have hk6 : 6 ≤ k := by omega
          go_wp2_with fail
          refine (stats_any D4).mono ?_
          rintro en w5 ⟨rfl, b5⟩
          go_wp2
          go_ret
          exact ⟨rfl, B4.trans (b5.mono B4.size)⟩
      · have hk0 : 0 ≤ k := by omega
        have hk6 : k < 6 := by omega
        rw [read_ok_at HR.out.down hk0 (by rw [HR.out.kept]; exact hk6), ← HR.out.want hk0 hk6] at hsec
        rw [read_ok_at HR.out.down hk0 (by rw [HR.out.kept]; exact hk6)]
        obtain ⟨a4, c4, rfl, n4, r4⟩ := sec_text hsec
        go_wp2_with fail
        refine (stats_any D4).mono ?_
        rintro en w5 ⟨rfl, b5⟩
        have hcv : (convert 22 9 (.slice a4 want.length c4)).run Try.prog w5 = .ok (.string ⟨want.toArray⟩) w5 := conv_str w5 a4 c4 want n4 (r4.below b5)
        go_wp2
        go_ret
        exact ⟨rfl, B4.trans (b5.mono B4.size)⟩
end Go.Proofs.Ytopemjbakpahfaa

/-
  DiskAll: the walk, for all rows of steps. No condition.
-/
import Derived.Test.YtopemjbakpahfaaIntRow
import Derived.Deep.RegionWith
namespace Go.Proofs.Ytopemjbakpahfaa
open Go.RowKit Disk
/-- The device between two rounds, and the numbers that are to be kept. -/
structure ARun (W : World) (B : Nat) (i : Nat) (vk : Value) (d : Dev) (F : Nat → Prop) (wr : World) : Prop where
  dev : IsDev F wr B d
  f : ∀ k, F k → W.heap.size ≤ k
  bl : Below W.heap.size W wr
  down : d.down = false
  kept : d.kept.length = 6
  armed : d.armed = 0
  pend : d.pend.length ≤ i
  writes : d.writes ≤ i
  syncs : d.syncs ≤ i
  row : wr.ownsRow W.heap.size 3 1 vk (iota i).length ((iota i).map intV)
  out : ∀ k, vk.ownBlock = some k → ¬ F k
theorem write_run {d : Dev} {k : Int} {b : List UInt8} (hd : d.down = false) (ha : d.armed = 0) (hb : b.length ≤ 32) : (d.write k b).1.down = false ∧ (d.write k b).1.kept = d.kept ∧ (d.write k b).1.armed = 0 ∧
    (d.write k b).1.pend.length ≤ d.pend.length + 1 ∧ (d.write k b).1.writes ≤ d.writes + 1 ∧ (d.write k b).1.syncs = d.syncs := by
  by_cases h : k < 0 ∨ (d.kept.length : Int) ≤ k
  · rw [write_bad_at hd h]
    exact ⟨hd, rfl, ha, Nat.le_succ _, Nat.le_succ _, rfl⟩
  · rw [write_ok_at hd (by omega) (by omega) hb (by rw [ha]; decide)]
    exact ⟨decide_eq_false (by rw [ha]; decide), rfl, by show d.armed - 1 = 0; rw [ha], by simp, Nat.le_refl _, rfl⟩
/-- The sectors, as texts. -/
def secs (d : Dev) (k : Nat) : List (List UInt8) := (List.range k).map d.sector
theorem secs_length (d : Dev) (k : Nat) : (secs d k).length = k := by simp [secs]
theorem secs_succ (d : Dev) (k : Nat) : secs d (k + 1) = secs d k ++ [d.sector k] := by simp [secs, List.range_succ]
theorem secs_get (d : Dev) (k n : Nat) (h : k < n) : (secs d n).getD k [] = d.sector k := by simp [secs, List.getD, h]
theorem restart_all {d : Dev} {n : Nat} (h : d.pend.length ≤ n) : d.restart (iota n) = ({ d with kept := d.pend.foldl put d.kept, pend := [], down := false, armed := 0 }, d.pend.length) := by
  unfold Dev.restart
  rw [sel_all n d.pend 0 (by omega)]
set_option maxRecDepth 100000 in
set_option maxHeartbeats 4000000 in
theorem dall_law (l : List Three) (a : Option Addr) (cap : Nat) (W : World) (hr : R3 W a l) : Calls Try.prog 8 #[.slice a l.length cap] W (Yes W) := by
  go_enter Try.func8, Try.ntmps8
  go_wp2_with fail
  refine (dsmall_any _).mono ?_
  rintro en w1 ⟨rfl, B1⟩
  go_wp2_with fail
  refine (new_any w1 6).mono ?_
  rintro en w2 ⟨B, rfl, b2, hB, D2⟩
  rw [show sizeOfDev 6 = 6 by decide +kernel] at D2
  have B2 := B1.trans (b2.mono B1.size)
  by_cases h60 : 60 < (l.length : Int)
  · go_wp2
    go_ret
    exact ⟨rfl, B2⟩
  have hW1 := B1.size
  have hF : ∀ k, (w1.heap.size ≤ k ∧ k < w2.heap.size) → W.heap.size ≤ k := fun k hk => by omega
  have R2 : ARun W B 0 (.slice none 0 0) (Dev.new 6) _ w2 := ⟨D2, hF, B2, rfl, rfl, rfl, Nat.le_refl _, Nat.le_refl _, Nat.le_refl _, World.ownsRow_nil _ _ _ _, fun k hk => by simp [Value.ownBlock] at hk⟩
  have RR2 := Lib.hid R2
  clear R2 D2 hF
  go_wp2_with fail
  go_loopw [5, 6] (fun vk iv wr => ∃ (i : Nat) (d : Dev) (F : Nat → Prop), iv = .int .i64 i ∧ i ≤ l.length ∧ ARun W B i vk d F wr) (fun _ iv _ => l.length - (intOf iv).toNat)
  case atStart => exact ⟨0, Dev.new 6, _, rfl, Nat.zero_le _, RR2.out⟩
  case round =>
    obtain ⟨i, d, F, rfl, hil, hrun⟩ := hrel
    have HR := Lib.hid hrun
    have DV := Lib.hid hrun.dev
    clear hrun RR2
    by_cases hlt : i < l.length
    · have hii : (i : Int) < (l.length : Int) := by omega
      have hi0 : (0 : Int) ≤ (i : Int) := by omega
      obtain ⟨g, off, rfl, hg, c0, c1, c2⟩ := (hr.below HR.out.bl) i hlt
      obtain ⟨t, ht⟩ : ∃ t, l.getD i zero3 = t := ⟨_, rfl⟩
      rw [ht] at c0 c1 c2
      have ht0 := Lib.hid ht
      clear ht
      go_wp2_with fail
      have hlit : (#[Value.int .u8 (IntKind.u8.wrap t.z), Value.int .u8 (IntKind.u8.wrap (i : Int))] : Array Value) = (([by8 t.z, by8 i] : List UInt8).map byteV).toArray := by
        have e1 := byteV_by8 t.z
        have e2 := byteV_by8 (i : Int)
        simp only [List.map_cons, List.map_nil, e1, e2]
      obtain ⟨bs, hbs⟩ : ∃ bs : List UInt8, bs = [by8 t.z, by8 (i : Int)] := ⟨_, rfl⟩
      have hbl : bs.length = 2 := by rw [hbs]; rfl
      rw [← hbs] at hlit
      have HL := Lib.hid hlit
      clear hlit hbs
      have DV2 := Lib.hid (DV.out.below (Below.refl _ wr).drew)
      have hwr := write_run (d := d) (k := t.y) (b := bs) HR.out.down HR.out.armed (by omega)
      obtain ⟨e, he⟩ : ∃ e, (d.write t.y bs).1 = e := ⟨_, rfl⟩
      rw [he] at hwr
      obtain ⟨E1, E2, E3, E4, E5, E6⟩ := hwr
      go_region_with (go_at_call 34; change Calls _ _ _ (World.alloc wr.drew _) _; refine (write_lit DV2.out t.y bs _ (0, 0) 2 2 wr.heap.size hbl HL.out rfl (by omega) (by have := HR.out.pend; omega) (by have := HR.out.writes; omega)).mono ?_; intro en w4 h4; have f4 := h4.2.1; obtain ⟨rfl, _, b4, F4, D4, g4, n4⟩ := h4.out HR.out.f (Nat.le_trans HR.out.bl.size (by simp)); replace b4 := (HR.out.bl.drew.alloc (by simpa using HR.out.bl.size) _).trans b4; rw [he] at D4)
      all_goals
        have hal : ∀ k, u5.ownBlock = some k → ¬ F4 k := fun k hk hF => by
          have h1 := (HR.out.row.lt k hk).2
          rcases n4 k hF with h2 | h2
          · exact HR.out.out k hk h2
          · simp at h2; omega
        have o4 : w4.ownsRow W.heap.size 3 1 u5 (iota i).length ((iota i).map intV) := owns_block HR.out.row (fun k hk => by
          have h1 := (HR.out.row.lt k hk).2
          exact (f4.block k (by simp; omega) (HR.out.out k hk)).trans (Below.heap_alloc wr.drew _ k h1))
        have DD := Lib.hid D4
        clear h4 D4 f4
        go_wp2_with (at_builtin; refine app_int rfl (.tmp 51) (.tmp 53) rfl W.heap.size _ (iota i) (i : Int) w4.heap.size rfl (o4.alloc _) rfl (cell_lit w4 _ _ _ _ rfl) (by rw [iota_length]; omega) (Nat.le_trans b4.size (by simp)) ?_; intro v5 w5 o5 g5 r5)
        go_roundw
        case rel =>
          have b5 : Below W.heap.size W w5 := (b4.alloc b4.size _).grown g5 (Nat.le_trans b4.size (by simp)) (fun k hk => (o4.lt k hk).1)
          refine ⟨i + 1, e, F4, rfl, by omega, ?_, g4, b5, E1, by rw [E2]; exact HR.out.kept, E3, by have := HR.out.pend; omega, by have := HR.out.writes; omega, by have := HR.out.syncs; omega, by rw [iota_succ]; exact o5, ?_⟩
          · exact (DD.out.below (below_alloc w4 _)).frm (G := fun j => u5.ownBlock = some j) (Frm.grown g5 (fun k hk => hk)) (fun k hk hG => hal k hG hk)
          · intro k hk hF
            rcases r5 with h | h
            · exact hal k (h.symm.trans hk) hF
            · rw [h] at hk
              cases hk
              have := DD.out.lt _ hF
              simp at this; omega
        case measure => simp only [intOf]; omega
    · have hii : ¬ (i : Int) < (l.length : Int) := by omega
      obtain ⟨w3, rfl⟩ : ∃ w3, w3 = wr := ⟨_, rfl⟩
      go_wp2_with fail
      go_loopw [7, 8] (fun sv kv wr2 => ∃ k : Nat, kv = .int .i64 k ∧ k ≤ 6 ∧ Below w3.heap.size w3 wr2 ∧ wr2.ownsRow w3.heap.size 9 1 sv (secs d k).length ((secs d k).map strV)) (fun _ kv _ => 6 - (intOf kv).toNat)
      case atStart => exact ⟨0, rfl, by decide, Below.refl _ _, World.ownsRow_nil _ _ _ _⟩
      case round =>
        obtain ⟨k, rfl, hk6, b3, o3⟩ := hrel
        have D3 := DV.out.below b3
        have B3 := HR.out.bl.trans (b3.mono HR.out.bl.size)
        by_cases hk : k < 6
        · have hki : (k : Int) < 6 := by omega
          have hk0 : (0 : Int) ≤ (k : Int) := by omega
          go_wp2_with fail
          refine (read_any D3 (k : Int) (by have := HR.out.pend; omega)).mono ?_
          rintro en w4 ⟨b4, v, rfl, hsec⟩
          rw [read_ok_at HR.out.down hk0 (by rw [HR.out.kept]; exact hki)] at hsec ⊢
          rw [Int.toNat_natCast] at hsec
          obtain ⟨sk, hsk⟩ : ∃ sk, d.sector k = sk := ⟨_, rfl⟩
          rw [hsk] at hsec
          obtain ⟨a4, c4, rfl, n4, r4⟩ := sec_text hsec
          have hcv : (convert 22 9 (.slice a4 sk.length c4)).run Try.prog w4 = .ok (.string ⟨sk.toArray⟩) w4 := conv_str w4 a4 c4 sk n4 r4
          have b4' := b3.trans (b4.mono b3.size)
          have o4 : w4.ownsRow w3.heap.size 9 1 u7 (secs d k).length ((secs d k).map strV) := owns_block o3 (fun j hj => b4.block j (o3.lt j hj).2)
          have hs1 := secs_succ d k
          rw [hsk] at hs1
          have HS := Lib.hid hs1
          clear hsec hsk hs1
          go_wp2_with (at_builtin; refine app_text rfl (.tmp 67) (.tmp 70) rfl w3.heap.size _ (secs d k) sk w4.heap.size rfl (o4.alloc _) rfl (cell_lit w4 _ _ _ _ rfl) (by rw [secs_length]; omega) (Nat.le_trans b4'.size (by simp)) ?_; intro v5 w5 o5 g5 r5)
          go_roundw
          case rel => exact ⟨k + 1, rfl, by omega, (b4'.alloc b4'.size _).grown g5 (Nat.le_trans b4'.size (by simp)) (fun j hj => (o4.lt j hj).1), by rw [HS.out]; exact o5⟩
          case measure => simp only [intOf]; omega
        · have hki : ¬ (k : Int) < 6 := by omega
          obtain rfl : k = 6 := by omega
          have hpl := HR.out.pend
          go_wp2_with fail
          refine (pending_any D3).mono ?_
          rintro en w4 ⟨rfl, rfl⟩
          have oi : wr.ownsRow W.heap.size 3 1 u5 (iota i).length ((iota i).map intV) := owns_block HR.out.row (fun j hj => b3.block j (HR.out.row.lt j hj).2)
          obtain ⟨ai, ci, rfl, hil2, hri⟩ := ri_owns oi
          go_wp2_with fail
          refine (restart_any D3 (by omega) (iota i) ai ci (by rw [iota_length]; omega) (fun w' hf => hri w' hf.size (fun j hj => hf.block j (oi.lt j hj).2 (HR.out.out j hj)))).mono ?_
          intro en w6 h6
          have f6 := h6.2.1
          rw [restart_all (by omega)] at h6
          obtain ⟨rfl, _, b6, F6, D6, g6, n6⟩ := h6.out HR.out.f B3.size
          have B6 := B3.trans b6
          obtain ⟨e, he⟩ : ∃ e : Dev, e = { d with kept := d.pend.foldl put d.kept, pend := [], down := false, armed := 0 } := ⟨_, rfl⟩
          rw [← he] at D6
          have E1 : e.down = false := by rw [he]
          have E2 : e.kept.length = 6 := by rw [he]; show (List.foldl put d.kept _).length = 6; rw [puts_length]; exact HR.out.kept
          have E3 : e.armed = 0 := by rw [he]
          have E4 : e.pend = [] := by rw [he]
          have E5 : e.syncs ≤ 60 := by rw [he]; have := HR.out.syncs; show d.syncs ≤ 60; omega
          have E6 : Hid (∀ k, k < 6 → e.sector k = d.sector k) := Lib.hid (fun k hk => sector_sync E4 (by rw [he]) (by rw [HR.out.kept]; exact hk))
          have o6 : w6.ownsRow w3.heap.size 9 1 u7 (secs d 6).length ((secs d 6).map strV) := owns_block o3 (fun j hj => f6.block j (o3.lt j hj).2 (fun hF => by
            have h1 := DV.out.lt j hF
            have h2 := (o3.lt j hj).1
            omega))
          have DD := Lib.hid D6
          rw [secs_length] at o6
          have O6 := Lib.hid o6
          clear h6 f6 he D6 o6 b6 n6 oi hri o3
          go_wp2_with fail
          go_loopw [12] (fun kv wr => ∃ k : Nat, kv = .int .i64 k ∧ k ≤ 6 ∧ Below w6.heap.size w6 wr) (fun kv _ => 6 - (intOf kv).toNat)
          case atStart => exact ⟨0, rfl, by decide, Below.refl _ _⟩
          case round =>
            obtain ⟨k, rfl, hk6, b7⟩ := hrel
            have D7 := DD.out.below b7
            have B7 := B6.trans (b7.mono B6.size)
            by_cases hk : k < 6
            · have hki : (k : Int) < 6 := by omega
              have hk0 : (0 : Int) ≤ (k : Int) := by omega
              go_wp2_with fail
              refine (read_any D7 (k : Int) (by rw [E4]; exact Nat.zero_le _)).mono ?_
              rintro en w8 ⟨b8, v, rfl, hsec⟩
              rw [read_ok_at E1 hk0 (by rw [E2]; exact hki)] at hsec ⊢
              rw [Int.toNat_natCast, E6.out k hk] at hsec
              have B8 := b7.trans (b8.mono b7.size)
              obtain ⟨gk, ck, rfl, hck⟩ := text_owns (owns_block O6.out (B := w8) (fun j hj => B8.block j (O6.out.lt j hj).2)) (i := k) (by rw [secs_length]; exact hk)
              rw [secs_get d k 6 hk] at hck
              obtain ⟨sk, hsk⟩ : ∃ sk, d.sector k = sk := ⟨_, rfl⟩
              rw [hsk] at hsec hck
              obtain ⟨a4, c4, rfl, n4, r4⟩ := sec_text hsec
              have hcv : ∀ n, (convert 22 9 (.slice a4 sk.length c4)).run Try.prog (w8.drewN n) = .ok (.string ⟨sk.toArray⟩) (w8.drewN n) := fun n => conv_str (w8.drewN n) a4 c4 sk n4 (r4.below (below_drewN (Below.refl _ _) n))
              have hck2 : w8.cell? ⟨gk, k, none⟩ = some (.string ⟨sk.toArray⟩) := hck
              clear hsec hsk hck
              go_wp2_with fail
              go_quiet (fail)
              go_wp2_with fail
              go_roundw
              case rel => exact ⟨k + 1, rfl, by omega, by first | exact B8 | exact below_drewN B8 _⟩
              case measure => simp only [intOf]; omega
            · have hki : ¬ (k : Int) < 6 := by omega
              go_wp2_with fail
              refine (sync_any D7 (by rw [E4]; exact Nat.zero_le _) (by omega)).mono ?_
              intro en w8 h8
              rw [sync_ok_at E1 (by rw [E3]; decide)] at h8
              obtain ⟨rfl, _, b8, _, _, _, _⟩ := h8.out g6 B7.size
              go_wp2
              go_ret
              exact ⟨rfl, B7.trans b8⟩
end Go.Proofs.Ytopemjbakpahfaa

/-
  Contracts and plain laws, part 31 (texts: JPlaysL). No condition but what each states.
-/
import Derived.Test.YtopemjbakpahfaaJournalPlaysO
import Derived.Deep.DeepCutAuto
import Derived.Deep.CutBlock
/-
  JournalPlays: the walk, for any device, any area, any steps. No condition but that the numbers are Go's.
-/
namespace Go.Proofs.Ytopemjbakpahfaa
open Go.RowKit Disk Jour Crc
set_option linter.unusedSimpArgs false
set_option linter.unusedVariables false
theorem Half.below_all {F1 F2 : Nat → Prop} {W w w1 : World} {X Y : Nat} {L : List (Nat × Obj)} {d1 d2 : Dev} (h : Half F1 F2 w X Y L d1 d2 w1) (hb : Below W.heap.size W w) (f1 : ∀ k, F1 k → W.heap.size ≤ k) (f2 : ∀ k, F2 k → W.heap.size ≤ k) : Below W.heap.size W w1 :=
  hb.trans (h.frm.below (fun k hk => hk.elim (f1 k) (f2 k)) hb.size)
theorem jframes_len (d : Dev) (first N : Nat) (n : Int) (hN : N ≤ 1024) : (jframes d first N n).1.length ≤ 32768 := by
  have h1 := jget_len d first N 0 n hN
  have h2 := all_len (jget d first N 0 n).1
  unfold jframes
  split
  · exact Nat.zero_le _
  · split
    · exact Nat.le_trans h2 h1
    · exact Nat.zero_le _
def jL (X Y AX AY N : Nat) (fi : Int) : List (Nat × Obj) := [(AX, .cells (acells X fi.toNat N) 122 (0, 0)), (AY, .cells (racells Y fi N) 129 (0, 0))]
set_option maxRecDepth 100000 in
set_option maxHeartbeats 16000000 in
theorem jplays_law (s fi se : Int) (l : List Three) (a : Option Addr) (cap : Nat) (W : World) (hfi : fi ≤ 9223372036854775807) (hr : R3 W a l) (hx : ∀ i, i < l.length → (l.getD i zero3).fits) : Calls Try.prog 16 #[.int .i64 s, .int .i64 fi, .int .i64 se, .slice a l.length cap] W (Yes W) := by
  go_enter Try.func16, Try.ntmps16
  go_wp2_with fail
  refine (jsmall_any _).mono ?_
  rintro en w1 ⟨rfl, B1⟩
  by_cases h64 : 64 < s
  · go_wp2
    go_ret
    exact ⟨rfl, B1⟩
  by_cases h60 : 60 < (l.length : Int)
  · go_wp2
    go_ret
    exact ⟨rfl, B1⟩
  go_wp2_with fail
  refine (new_any w1 s).mono ?_
  rintro en w2 ⟨X, rfl, b2, hX, D2⟩
  have B2 := B1.trans (b2.mono B1.size)
  go_wp2_with fail
  refine (rnew_any w2 s).mono ?_
  rintro en w3 ⟨Y, rfl, b3, hY, E3⟩
  have B3 := B2.trans (b3.mono B2.size)
  have hk3 : (Dev.new (sizeOfDev s)).kept.length ≤ 1024 := by simp [Dev.new, sizeOfDev]; omega
  have S0 : Hid (SmallJ (Dev.new (sizeOfDev s)) 0) := ⟨Nat.le_refl _, Nat.le_refl _, Nat.le_refl _⟩
  have D3 := D2.below b3
  have hK := asize_1024 fi se _ hk3
  generalize Dev.new (sizeOfDev s) = d0 at D3 E3 hk3 S0 hK
  go_wp2_with fail
  refine (of_any D3 hk3 fi se hfi).mono ?_
  rintro en w4 ⟨AX, rfl, b4, hAX, A4⟩
  go_wp2_with fail
  refine (rof_any (E3.below b4) hk3 fi se hfi).mono ?_
  rintro en w5 ⟨AY, rfl, b5, hAY, A5⟩
  obtain ⟨nn, hnn⟩ : ∃ nn, asize fi se d0.kept.length = nn := ⟨_, rfl⟩
  have hneg : nn = 0 ∨ 0 ≤ fi := by
    rw [← hnn]
    by_cases h : fi < 0
    · exact .inl (by unfold asize; rw [if_pos h])
    · exact .inr (by omega)
  rw [hnn] at A4 A5 hK
  clear hnn
  have A4' := A4.below b5
  have NX' : Hid (nn = 0 ∨ fi.toNat ≤ 1024) := hK
  have NY' : Hid (nn = 0 ∨ (0 ≤ fi ∧ fi ≤ 1024)) := by show _ ∨ _; omega
  have NN : Hid (nn ≤ 1024) := A4'.n
  have FT : Hid (fi.toNat ≤ 9223372036854775807) := by show _ ≤ _; omega
  have hszx : w1.heap.size ≤ w2.heap.size ∧ w2.heap.size ≤ w3.heap.size ∧ w3.heap.size ≤ w4.heap.size ∧ w4.heap.size ≤ w5.heap.size := ⟨b2.size, b3.size, b4.size, b5.size⟩
  obtain ⟨F1, hF1⟩ : ∃ F : Nat → Prop, (fun k => w1.heap.size ≤ k ∧ k < w2.heap.size) = F := ⟨_, rfl⟩
  obtain ⟨F2, hF2⟩ : ∃ F : Nat → Prop, (fun k => w2.heap.size ≤ k ∧ k < w3.heap.size) = F := ⟨_, rfl⟩
  have HF1 : Hid (∀ k, F1 k → W.heap.size ≤ k) := fun k hk => by rw [← hF1] at hk; have := B1.size; omega
  have HF2 : Hid (∀ k, F2 k → W.heap.size ≤ k) := fun k hk => by rw [← hF2] at hk; have := B1.size; omega
  have H0 : Hid (Half F1 F2 w5 X Y (jL X Y AX AY nn fi) d0 d0 w5) := by
    refine ⟨Frm.refl _ _, F1, F2, by rw [← hF1]; exact (D3.below b4).below b5, by rw [← hF2]; exact (E3.below b4).below b5, fun k h1 h2 => by rw [← hF1] at h1; rw [← hF2] at h2; omega, fun _ h => .inl h, fun _ h => .inl h, ?_⟩
    intro p hp
    rcases List.mem_cons.1 hp with rfl | hp
    · exact ⟨A4'.blk, fun h => by rw [← hF1] at h; simp at h; omega, fun h => by rw [← hF2] at h; simp at h; omega⟩
    · obtain rfl := List.mem_singleton.1 hp
      exact ⟨A5.blk, fun h => by rw [← hF1] at h; simp at h; omega, fun h => by rw [← hF2] at h; simp at h; omega⟩
  have B5 : Hid (Below W.heap.size W w5) := (B3.trans (b4.mono B3.size)).trans (b5.mono (B3.trans (b4.mono B3.size)).size)
  have A4x := Lib.hid A4'
  have A5x := Lib.hid A5
  have HR := Lib.hid hr
  have HX := Lib.hid hx
  have hne0 : ((32 * (nn : Int)) != 32 * (nn : Int)) = false := by simp
  clear D2 E3 D3 A4 A4' A5 b2 b3 b4 b5 B1 B2 B3 hX hY hAX hAY hszx hF1 hF2 hr hx hK hneg hk3
  go_wp2_with fail
  refine (size_any A4x.out).mono ?_
  rintro en w6 ⟨rfl, rfl⟩
  go_wp2_with fail
  refine (rsize_any A5x.out).mono ?_
  rintro en w6 ⟨rfl, rfl⟩
  have L60 : Hid (l.length ≤ 60) := by show _ ≤ _; omega
  clear A4x A5x
  go_wp2_with fail
  clear hne0
  go_loopw [14] (fun iv wr => ∃ (i : Nat) (d : Dev), iv = .int .i64 i ∧ i ≤ l.length ∧ SmallJ d i ∧ Half F1 F2 w5 X Y (jL X Y AX AY nn fi) d d wr) (fun iv _ => l.length - (intOf iv).toNat)
  case atStart => exact ⟨0, d0, rfl, Nat.zero_le _, S0.out, H0.out⟩
  case round =>
    obtain ⟨wo, rfl⟩ : ∃ wo : World, wo = wr := ⟨_, rfl⟩
    obtain ⟨i, d, rfl, hil, hsm, hrun⟩ := hrel
    have HS := Lib.hid hsm
    have PR := Lib.hid hrun
    have BW := Lib.hid (hrun.below_all B5.out HF1.out HF2.out)
    clear hsm hrun H0 S0
    by_cases hlt : i < l.length
    · have hii : (i : Int) < (l.length : Int) := by omega
      have hi0 : (0 : Int) ≤ (i : Int) := by omega
      have hi60 : (i : Int) ≤ 60 := by have := L60.out; omega
      obtain ⟨g, off, rfl, hg, c0, c1, c2⟩ := (HR.out.below BW.out) i hlt
      have hfit := HX.out i hlt
      obtain ⟨t, ht⟩ : ∃ t, l.getD i zero3 = t := ⟨_, rfl⟩
      rw [ht] at c0 c1 c2 hfit
      obtain ⟨x, y, z⟩ := t
      dsimp only at c0 c1 c2
      have HZ : Hid (z ≤ 9223372036854775807) := hfit.2.2.2
      clear hfit ht
      obtain ⟨m3, hm3⟩ : ∃ m, low3 x = m := ⟨_, rfl⟩
      obtain ⟨l3, b3⟩ := low3_eq x
      obtain ⟨l7, b7⟩ := low7_eq z
      rw [hm3] at l3 b3
      have HM3 := Lib.hid hm3
      obtain ⟨n, hn⟩ : ∃ n, low7 z = n := ⟨_, rfl⟩
      rw [hn] at l7 b7
      clear hn hm3
      have HB := Lib.hid (PR.out.alloc (.cells #[.int .i64 x, .int .i64 y, .int .i64 z] 47 (0, 0)))
      have hmk : (Instr.makeSlice 22 (.int .i64 n) (.int .i64 n)).run Try.prog (wo.alloc (.cells #[.int .i64 x, .int .i64 y, .int .i64 z] 47)) = .ok (.slice (some ⟨(wo.alloc (.cells #[.int .i64 x, .int .i64 y, .int .i64 z] 47)).heap.size, 0, none⟩) n n) ((wo.alloc (.cells #[.int .i64 x, .int .i64 y, .int .i64 z] 47)).alloc (.cells ((List.replicate n (0 : UInt8)).map byteV).toArray 5)) := run_make_bytes _ n (by omega)
      go_wp2_with fail
      have H1 : Hid (Half F1 F2 w5 X Y ((wo.heap.size + 1, .cells ((dataRow (i : Int) n 0).map byteV).toArray 5 (0, 0)) :: (wo.heap.size, .cells #[.int .i64 x, .int .i64 y, .int .i64 z] 47 (0, 0)) :: jL X Y AX AY nn fi) d d ((wo.alloc (.cells #[.int .i64 x, .int .i64 y, .int .i64 z] 47)).alloc (.cells ((List.replicate n (0 : UInt8)).map byteV).toArray 5))) := by
        have h1 := HB.out.alloc (.cells ((List.replicate n (0 : UInt8)).map byteV).toArray 5 (0, 0))
        rw [show (wo.alloc (.cells #[.int .i64 x, .int .i64 y, .int .i64 z] 47 (0, 0))).heap.size = wo.heap.size + 1 by simp] at h1
        exact h1
      have hlo := PR.out.frm.size
      have hla : ∀ p ∈ jL X Y AX AY nn fi, p.1 < wo.heap.size := fun p hp => (Array.getElem?_eq_some_iff.1 (PR.out.blk hp)).1
      have HLA := Lib.hid hla
      obtain ⟨bx, hbx⟩ : ∃ bx, wo.heap.size = bx := ⟨_, rfl⟩
      have HBX := Lib.hid hbx
      rw [hbx] at H1
      clear hmk HB hla c0 c1 c2 hg
      rw [hbx] at hlo ⊢
      clear hbx
      go_loopw [17] (fun jv wr => ∃ j : Nat, jv = .int .i64 j ∧ j ≤ n ∧ Half F1 F2 w5 X Y ((bx + 1, .cells ((dataRow (i : Int) n j).map byteV).toArray 5 (0, 0)) :: (bx, .cells #[.int .i64 x, .int .i64 y, .int .i64 z] 47 (0, 0)) :: jL X Y AX AY nn fi) d d wr) (fun jv _ => n - (intOf jv).toNat)
      case atStart => exact ⟨0, rfl, Nat.zero_le _, by have h := H1.out; simp only [List.map_replicate, List.toArray_replicate] at h; exact h⟩
      case round =>
        obtain ⟨wi, rfl⟩ : ∃ wi : World, wi = wr := ⟨_, rfl⟩
        obtain ⟨j, rfl, hj, hh⟩ := hrel
        have e1 := hh.blk (List.mem_cons_of_mem _ (List.mem_cons_self ..))
        have e2 := hh.blk (List.mem_cons_self ..)
        have c0 : wi.cell? ⟨bx, 0, none⟩ = some (.int .i64 x) := Joins.cell_of_block e1 0
        have c1 : wi.cell? ⟨bx, 1, none⟩ = some (.int .i64 y) := Joins.cell_of_block e1 1
        have c2 : wi.cell? ⟨bx, 2, none⟩ = some (.int .i64 z) := Joins.cell_of_block e1 2
        by_cases hjn : j < n
        · have hj0 : (0 : Int) ≤ (j : Int) := by omega
          have hji : (j : Int) < (n : Int) := by omega
          have hj127 : (j : Int) ≤ 127 := by omega
          have fg : wi.frozen? ⟨bx + 1, j, none⟩ = false := Joins.unfrozen_of_block e2 j
          have cg : ∃ v, wi.cell? ⟨bx + 1, j, none⟩ = some v := by
            rw [cell_of_row _ _ j _ 5 (0, 0) e2]
            exact ⟨_, Array.getElem?_eq_getElem (by simp [dataRow, dataTo_len]; omega)⟩
          obtain ⟨v0, cg⟩ := cg
          have NX : Hid (Half F1 F2 w5 X Y ((bx + 1, .cells ((dataRow (i : Int) n (j + 1)).map byteV).toArray 5 (0, 0)) :: (bx, .cells #[.int .i64 x, .int .i64 y, .int .i64 z] 47 (0, 0)) :: jL X Y AX AY nn fi) d d (wi.setCell ⟨bx + 1, j, none⟩ (byteV (by8 (wrap64 ((i : Int) + (j : Int))))))) := by
            have h1 := hh.set (by omega) (fun p hp => by
              rcases List.mem_cons.1 hp with rfl | hp
              · simp
              · have h1 := HLA.out p hp; rw [HBX.out] at h1; omega) j (byteV (by8 (wrap64 ((i : Int) + (j : Int)))))
            rw [dataRow_set (i : Int) n j hjn] at h1
            exact h1
          rw [byteV_by8, IntKind.wrap_u8, show wrap64 ((i : Int) + (j : Int)) = (i : Int) + (j : Int) by unfold wrap64; omega, show ((i : Int) + (j : Int)) % 256 = (i : Int) + (j : Int) by omega] at NX
          clear hh e1 e2
          go_wp2_with fail
          go_roundw
          case rel => exact ⟨j + 1, rfl, by omega, NX.out⟩
          case measure => simp only [intOf]; omega
        · obtain rfl : j = n := by omega
          have HH := Lib.hid hh
          obtain ⟨data, hdat⟩ : ∃ data, dataRow (i : Int) j j = data := ⟨_, rfl⟩
          have HLEN : Hid (data.length = j) := by show _ = _; rw [← hdat]; simp [dataRow, dataTo_len]
          rw [hdat] at HH
          clear hh e1 e2 hdat H1
          have hj127 : (j : Int) ≤ 127 := by omega
          have hjn0 : (0 : Int) ≤ (j : Int) := by omega
          have LB : Hid (data.length ≤ 150) := by show _ ≤ _; rw [HLEN.out]; omega
          have hp : d.pend.length + 150 ≤ 100000 := by have := HS.out.pend; have := L60.out; omega
          have hw : d.writes + 150 ≤ 100000 := by have := HS.out.writes; have := L60.out; omega
          have hy : d.syncs ≤ 100000 := by have := HS.out.syncs; have := L60.out; omega
          have HM0 : Hid ((bx + 1, Obj.cells (data.map byteV).toArray 5 (0, 0)) ∈ ((bx + 1, .cells (data.map byteV).toArray 5 (0, 0)) :: (bx, .cells #[.int .i64 x, .int .i64 y, .int .i64 z] 47 (0, 0)) :: jL X Y AX AY nn fi)) := List.mem_cons_self ..
          have HM1 : Hid ((bx, Obj.cells #[.int .i64 x, .int .i64 y, .int .i64 z] 47 (0, 0)) ∈ ((bx + 1, .cells (data.map byteV).toArray 5 (0, 0)) :: (bx, .cells #[.int .i64 x, .int .i64 y, .int .i64 z] 47 (0, 0)) :: jL X Y AX AY nn fi)) := List.mem_cons_of_mem _ (List.mem_cons_self ..)
          have HMX : Hid ((AX, Obj.cells (acells X fi.toNat nn) 122 (0, 0)) ∈ ((bx + 1, .cells (data.map byteV).toArray 5 (0, 0)) :: (bx, .cells #[.int .i64 x, .int .i64 y, .int .i64 z] 47 (0, 0)) :: jL X Y AX AY nn fi)) := List.mem_cons_of_mem _ (List.mem_cons_of_mem _ (List.mem_cons_self ..))
          have HMY : Hid ((AY, Obj.cells (racells Y fi nn) 129 (0, 0)) ∈ ((bx + 1, .cells (data.map byteV).toArray 5 (0, 0)) :: (bx, .cells #[.int .i64 x, .int .i64 y, .int .i64 z] 47 (0, 0)) :: jL X Y AX AY nn fi)) := List.mem_cons_of_mem _ (List.mem_cons_of_mem _ (List.mem_cons_of_mem _ (List.mem_cons_self ..)))
          have SUB : Hid (∀ p ∈ jL X Y AX AY nn fi, p ∈ ((bx + 1, .cells (data.map byteV).toArray 5 (0, 0)) :: (bx, .cells #[.int .i64 x, .int .i64 y, .int .i64 z] 47 (0, 0)) :: jL X Y AX AY nn fi)) := fun p hp => List.mem_cons_of_mem _ (List.mem_cons_of_mem _ hp)
          obtain ⟨L, hL⟩ : ∃ L, ((bx + 1, .cells (data.map byteV).toArray 5 (0, 0)) :: (bx, .cells #[.int .i64 x, .int .i64 y, .int .i64 z] 47 (0, 0)) :: jL X Y AX AY nn fi) = L := ⟨_, rfl⟩
          rw [hL] at HH HM0 HM1 HMX HMY SUB
          clear hL
          have SRC : Hid (SrcB L (some ⟨bx + 1, 0, none⟩) data) := SrcB.of L HM0.out
          have CB : Hid (∀ (L' : List (Nat × Obj)) (e1 e2 : Dev) (w' : World), (∀ p ∈ L, p ∈ L') → Half F1 F2 w5 X Y L' e1 e2 w' → w'.cell? ⟨bx, 1, none⟩ = some (.int .i64 y) ∧ w'.cell? ⟨bx, 2, none⟩ = some (.int .i64 z)) := fun L' e1 e2 w' hs h => by
            have e1 := h.blk (hs _ HM1.out)
            exact ⟨Joins.cell_of_block e1 1, Joins.cell_of_block e1 2⟩
          go_upto_block 4 with (fail)
          go_cut [18, 19] (fun u v wx => ∃ e, SmallJ e (i + 1) ∧ Half F1 F2 w5 X Y L e e wx)
          case first =>
            obtain ⟨S, hS⟩ : ∃ S : World → Prop, S = fun w' => w'.cell? ⟨bx, 1, none⟩ = some (.int .i64 y) ∧ w'.cell? ⟨bx, 2, none⟩ = some (.int .i64 z) := ⟨_, rfl⟩
            have hSS : Hid (∀ w', S w' → w'.cell? ⟨bx, 1, none⟩ = some (.int .i64 y) ∧ w'.cell? ⟨bx, 2, none⟩ = some (.int .i64 z)) := fun w' h => by rw [hS] at h; exact h
            have SS : ∀ {e1 e2 : Dev} {w' : World}, Half F1 F2 w5 X Y L e1 e2 w' → S w' := fun {e1 e2 w'} hh => by rw [hS]; exact CB.out L e1 e2 w' (fun _ h => h) hh
            clear hS
            have hp' : d.pend.length + data.length ≤ 100000 := by have := LB.out; omega
            have hw' : d.writes + data.length ≤ 100000 := by have := LB.out; omega
            have hp1 : d.pend.length ≤ 100000 := by omega
            rcases (by omega : (m3 = 0 ∨ m3 = 1 ∨ m3 = 2 ∨ m3 = 3) ∨ m3 = 4 ∨ m3 = 5 ∨ m3 = 6 ∨ m3 = 7) with hm | rfl | rfl | rfl | rfl
            · have HW := Lib.hid (HH.out.below (Below.refl _ wi).drew)
              have s0 : S wi.drew := SS HW.out
              rcases hm with rfl | rfl | rfl | rfl
              all_goals as_aux_lemma =>
                go_wp2_with fail
                refine wp_region_held (S := S) (by kernel_rfl) ?_
                change wpAnyH _ _ _ _ _ _ _ _ (World.drew _)
                refine wpAnyH_take (i := 0) (v := .pointer (some ⟨AX, 0, none⟩)) rfl (by kernel_rfl) (by kernel_rfl) (by kernel_rfl) (fun _ _ _ h => h) (.inl ⟨by rfl, by intro w hw; go_simp⟩) s0 ?_
                try simp only [Act.put, List.getElem_toArray, List.getElem_cons_zero, List.getElem_cons_succ, List.setIfInBounds_toArray, List.set_cons_zero, List.set_cons_succ]
                refine wpAnyH_take (i := 1) (v := .pointer (some ⟨bx, 1, none⟩)) rfl (by kernel_rfl) (by kernel_rfl) (by kernel_rfl) (fun _ _ _ h => h) (.inl ⟨by rfl, by intro w hw; go_simp⟩) s0 ?_
                try simp only [Act.put, List.getElem_toArray, List.getElem_cons_zero, List.getElem_cons_succ, List.setIfInBounds_toArray, List.set_cons_zero, List.set_cons_succ]
                refine wpAnyH_take (i := 2) (v := .int .i64 y) rfl (by kernel_rfl) (by kernel_rfl) (by kernel_rfl) (fun _ _ _ h => h) (.inl ⟨by rfl, by intro w hw; have h := hSS.out w hw; obtain ⟨q0, q1⟩ := h; go_simp⟩) s0 ?_
                try simp only [Act.put, List.getElem_toArray, List.getElem_cons_zero, List.getElem_cons_succ, List.setIfInBounds_toArray, List.set_cons_zero, List.set_cons_succ]
                refine wpAnyH_take (i := 3) (v := .slice (some ⟨bx + 1, 0, none⟩) j j) rfl (by kernel_rfl) (by kernel_rfl) (by kernel_rfl) (fun _ _ _ h => h) (.inl ⟨by rfl, by intro w hw; go_simp⟩) s0 ?_
                try simp only [Act.put, List.getElem_toArray, List.getElem_cons_zero, List.getElem_cons_succ, List.setIfInBounds_toArray, List.set_cons_zero, List.set_cons_succ]
                refine wpAnyH_take (i := 5) (v := .pointer (some ⟨AY, 0, none⟩)) rfl (by kernel_rfl) (by kernel_rfl) (by kernel_rfl) (fun _ _ _ h => h) (.inl ⟨by rfl, by intro w hw; go_simp⟩) s0 ?_
                try simp only [Act.put, List.getElem_toArray, List.getElem_cons_zero, List.getElem_cons_succ, List.setIfInBounds_toArray, List.set_cons_zero, List.set_cons_succ]
                refine wpAnyH_take (i := 6) (v := .pointer (some ⟨bx, 1, none⟩)) rfl (by kernel_rfl) (by kernel_rfl) (by kernel_rfl) (fun _ _ _ h => h) (.inl ⟨by rfl, by intro w hw; go_simp⟩) s0 ?_
                try simp only [Act.put, List.getElem_toArray, List.getElem_cons_zero, List.getElem_cons_succ, List.setIfInBounds_toArray, List.set_cons_zero, List.set_cons_succ]
                refine wpAnyH_take (i := 7) (v := .int .i64 y) rfl (by kernel_rfl) (by kernel_rfl) (by kernel_rfl) (fun _ _ _ h => h) (.inl ⟨by rfl, by intro w hw; have h := hSS.out w hw; obtain ⟨q0, q1⟩ := h; go_simp⟩) s0 ?_
                try simp only [Act.put, List.getElem_toArray, List.getElem_cons_zero, List.getElem_cons_succ, List.setIfInBounds_toArray, List.set_cons_zero, List.set_cons_succ]
                refine wpAnyH_take (i := 8) (v := .slice (some ⟨bx + 1, 0, none⟩) j j) rfl (by kernel_rfl) (by kernel_rfl) (by kernel_rfl) (fun _ _ _ h => h) (.inl ⟨by rfl, by intro w hw; go_simp⟩) s0 ?_
                try simp only [Act.put, List.getElem_toArray, List.getElem_cons_zero, List.getElem_cons_succ, List.setIfInBounds_toArray, List.set_cons_zero, List.set_cons_succ]
                refine wpAnyH_one (i := 4) (by kernel_rfl) rfl (by rfl) (fun Kc hK => ?_)
                go_simp
                refine (HW.out.putX HMX.out NN.out FT.out NX'.out y data (bx + 1) 0 j j SRC.out HLEN.out (Nat.le_refl _) hp' hw').mono ?_
                rintro en w2 ⟨rfl, h2⟩
                go_simp
                refine hK _ _ (SS h2) ?_
                clear hK Kc
                try simp only [Act.put, List.getElem_toArray, List.getElem_cons_zero, List.getElem_cons_succ, List.setIfInBounds_toArray, List.set_cons_zero, List.set_cons_succ]
                refine wpAnyH_one (i := 9) (by kernel_rfl) rfl (by rfl) (fun Kc hK => ?_)
                go_simp
                refine (h2.putY HMY.out NN.out hfi NY'.out y data (bx + 1) 0 j j SRC.out HLEN.out (Nat.le_refl _) hp' hw').mono ?_
                rintro en w3 ⟨rfl, h3⟩
                go_simp
                refine hK _ _ (SS h3) ?_
                clear hK Kc
                try simp only [Act.put, List.getElem_toArray, List.getElem_cons_zero, List.getElem_cons_succ, List.setIfInBounds_toArray, List.set_cons_zero, List.set_cons_succ]
                refine wpAnyH_take (i := 10) (v := .bool false) rfl (by kernel_rfl) (by kernel_rfl) (by kernel_rfl) (fun _ _ _ h => h) (.inl ⟨by rfl, by intro w hw; go_simp⟩) (SS h3) ?_
                try simp only [Act.put, List.getElem_toArray, List.getElem_cons_zero, List.getElem_cons_succ, List.setIfInBounds_toArray, List.set_cons_zero, List.set_cons_succ]
                refine wpAnyH_done (by kernel_rfl) ?_ _
                clear s0 SS hSS
                go_wp2_with fail
                go_meet
                exact ⟨_, HS.out.put fi.toNat nn y data LB.out, h3⟩
            · as_aux_lemma =>
              go_wp2_with fail
              refine (HH.out.syncX hp1 hy).mono ?_
              rintro en w2 ⟨rfl, h2⟩
              go_wp2_with fail
              refine (h2.syncY hp1 hy).mono ?_
              rintro en w3 ⟨rfl, h3⟩
              have hne : ((d.sync.2 : Int) != d.sync.2) = false := by simp
              clear SS hSS
              go_wp2_with fail
              go_meet
              exact ⟨_, HS.out.sync, h3⟩
            · as_aux_lemma =>
              go_wp2_with fail
              refine (HH.out.armX z HZ.out).mono ?_
              rintro en w2 ⟨⟨v2, rfl, _⟩, h2⟩
              have k1 : w2.cell? ⟨bx, 2, none⟩ = some (.int .i64 z) := (hSS.out w2 (SS h2)).2
              go_wp2_with fail
              refine (h2.armY z HZ.out).mono ?_
              rintro en w3 ⟨⟨v3, rfl, _⟩, h3⟩
              clear SS hSS k1
              go_wp2_with fail
              go_meet
              exact ⟨_, HS.out.arm z, h3⟩
            · as_aux_lemma =>
              go_wp2_with fail
              have h1 := HH.out.alloc (.cells #[.int .i64 0, .int .i64 y] 3 (0, 0))
              refine (h1.restX [0, y] wi.heap.size 2 2 ⟨_, List.mem_cons_self .., fun w' h => ri_two h⟩ rfl (by decide) hp1).mono ?_
              rintro en w2 ⟨rfl, h2⟩
              have h2 := h2.sub (fun p hp => List.mem_cons_of_mem _ hp)
              have k1 : w2.cell? ⟨bx, 1, none⟩ = some (.int .i64 y) := (hSS.out w2 (SS h2)).1
              clear h1
              go_wp2_with fail
              have h3 := h2.alloc (.cells #[.int .i64 0, .int .i64 y] 3 (0, 0))
              refine (h3.restY [0, y] w2.heap.size 2 2 ⟨_, List.mem_cons_self .., fun w' h => ri_two h⟩ rfl (by decide) hp1).mono ?_
              rintro en w4 ⟨rfl, h4⟩
              have h4 := h4.sub (fun p hp => List.mem_cons_of_mem _ hp)
              clear SS hSS k1 h3
              go_wp2_with fail
              go_meet
              exact ⟨_, HS.out.restart [0, y], h4⟩
            · as_aux_lemma =>
              go_wp2_with fail
              have hrb : RB wi (some ⟨bx + 1, 0, none⟩) data := rb_block (HH.out.blk HM0.out)
              have hfr := rframe_any data (some ⟨bx + 1, 0, none⟩) j wi (by have := LB.out; omega) (by rw [HLEN.out]; exact Nat.le_refl _) (fun e => by cases e) hrb
              rw [HLEN.out] at hfr
              refine hfr.mono ?_
              rintro en w2 ⟨v2, rfl, o2, b2⟩
              clear hfr hrb
              have hfl := frame_length data
              obtain ⟨gf, cf, rfl⟩ := own_rec o2 (by omega)
              have hrb2 := rb_mk o2
              have hgf := (o2.lt gf rfl).1
              have hgl := (o2.lt gf rfl).2
              have hcf : (frame data).length ≤ cf := by
                obtain ⟨_, _, e, h1, _, _⟩ := RB.of_owns o2
                injection e with _ _ e3
                omega
              obtain ⟨ob, hob⟩ : ∃ ob, w2.heap[gf]? = some ob := ⟨_, Array.getElem?_eq_getElem hgl⟩
              have h2 := HH.out.add b2 hgf hob
              have SRF : Hid (SrcB ((gf, ob) :: L) (some ⟨gf, 0, none⟩) (frame data)) := ⟨_, List.mem_cons_self .., fun w' h => rb_same hrb2 (h.trans hob.symm)⟩
              have LF : Hid ((frame data).length ≤ 150) := by show _ ≤ _; rw [hfl, HLEN.out]; omega
              have H2 := Lib.hid h2
              have HCF := Lib.hid hcf
              clear hob hrb2 o2 hgf hgl b2 h2 hcf hfl
              go_wp2_with fail
              refine (H2.out.putX (List.mem_cons_of_mem _ HMX.out) NN.out FT.out NX'.out 0 (frame data) gf 0 _ cf SRF.out rfl HCF.out (by have := LF.out; omega) (by have := LF.out; omega)).mono ?_
              rintro en w3 ⟨rfl, h3⟩
              go_wp2_with fail
              refine (h3.putY (List.mem_cons_of_mem _ HMY.out) NN.out hfi NY'.out 0 (frame data) gf 0 _ cf SRF.out rfl HCF.out (by have := LF.out; omega) (by have := LF.out; omega)).mono ?_
              rintro en w4 ⟨rfl, h4⟩
              have h4 := h4.sub (fun p hp => List.mem_cons_of_mem _ hp)
              have hne : (((jput d fi.toNat nn 0 (frame data)).2 : Int) != (jput d fi.toNat nn 0 (frame data)).2) = false := by simp
              clear SS hSS h3
              go_wp2_with fail
              go_meet
              exact ⟨_, HS.out.put fi.toNat nn 0 (frame data) LF.out, h4⟩
          case rest => as_aux_lemma =>
            obtain ⟨e, hse, hhe⟩ := hcut
            have HSE := Lib.hid hse
            have HE := Lib.hid hhe
            have hpe : e.pend.length ≤ 100000 := by have := hse.pend; have := L60.out; omega
            obtain ⟨k1, k2⟩ := CB.out L e e _ (fun _ h => h) hhe
            have hjl := jframes_len e fi.toNat nn z NN.out
            clear hse hhe HH c0 c1 c2
            go_wp2_with fail
            refine (HE.out.getX HMX.out NN.out FT.out NX'.out y z hpe).mono ?_
            rintro en w6 ⟨b6, v6, rfl, o6⟩
            have HE6 := Lib.hid (HE.out.below b6)
            obtain ⟨k3, k4⟩ := CB.out L e e _ (fun _ h => h) HE6.out
            clear k1 k2
            go_wp2_with fail
            refine (HE6.out.getY HMY.out NN.out hfi NY'.out y z hpe).mono ?_
            rintro en w7 ⟨b7, v7, rfl, o7⟩
            generalize jget e fi.toNat nn y z = rg at o6 o7 ⊢
            have HE7 := Lib.hid (HE6.out.below b7)
            obtain ⟨k1, k2⟩ := CB.out L e e _ (fun _ h => h) HE7.out
            clear k3 k4
            go_wp2_with fail
            refine (HE7.out.framesX HMX.out NN.out FT.out NX'.out z hpe).mono ?_
            rintro en w8 ⟨b8, v8, rfl, r8⟩
            have HE8 := Lib.hid (HE7.out.below b8)
            obtain ⟨k3, k4⟩ := CB.out L e e _ (fun _ h => h) HE8.out
            clear k1 k2
            go_wp2_with fail
            refine (HE8.out.framesY HMY.out NN.out hfi NY'.out z hpe).mono ?_
            rintro en w9 ⟨b9, v9, rfl, r9⟩
            generalize jframes e fi.toNat nn z = rf at r8 r9 hjl ⊢
            have HE9 := Lib.hid (HE8.out.below b9)
            obtain ⟨k1, k2⟩ := CB.out L e e _ (fun _ h => h) HE9.out
            obtain ⟨a8, c8, rfl, _, _, rr8⟩ := RR.of_rows r8
            obtain ⟨a9, c9, rfl, _, _, rr9⟩ := RR.of_rows r9
            have RW : Hid (∀ w', Below w9.heap.size w9 w' → Calls Try.prog 50 #[.slice a8 rf.1.length c8, .slice a9 rf.1.length c9] w' (fun en w2 => en = .returned (.bool true) ∧ Below w'.heap.size w' w2)) := fun w' hb => by
              have := rows_any rf.1 rf.1 a8 a9 c8 c9 w' (by omega) ((rr8.below b9).below hb) (rr9.below hb)
              rw [decide_eq_true rfl] at this
              exact this
            obtain ⟨_, G1, G2, D9, E9, _⟩ := HE9.out
            obtain ⟨vk, vw, V9⟩ := E9
            obtain ⟨aw, cw, rfl⟩ := rwait_form V9.wait
            have cY : w9.cell? ⟨Y, 1, none⟩ = some (.slice aw e.pend.length cw) := Joins.cell_of_block V9.blk 1
            have hYl := V9.lt Y V9.f
            have hbl : bx < w9.heap.size := (Array.getElem?_eq_some_iff.1 (HE9.out.blk HM1.out)).1
            have hAx : IsArea w9 AX X fi.toNat nn := ⟨HE9.out.blk HMX.out, NN.out, FT.out⟩
            have hAy : IsRArea w9 AY Y fi nn := ⟨HE9.out.blk HMY.out, NN.out, hfi⟩
            have PD : Hid (∀ w', Below w9.drew.heap.size w9.drew w' → Calls Try.prog 36 #[.pointer (some ⟨X, 0, none⟩)] w' (fun en w2 => en = .returned (.int .i64 (e.pend.length : Int)) ∧ w' = w2)) := fun w' hb => pending_any ((D9.below (Below.refl _ w9).drew).below hb)
            have FX : Hid (∀ w', Below w9.drew.heap.size w9.drew w' → Calls Try.prog 53 #[.pointer (some ⟨AX, 0, none⟩), .int .i64 y, .slice (some ⟨bx + 1, 0, none⟩) j j] w' (fun en w2 => en = .returned (.bool (roomB nn y j)) ∧ w' = w2)) := fun w' hb => by
              have := fits_any ((hAx.below (Below.refl _ w9).drew).below hb) y data (some ⟨bx + 1, 0, none⟩) j
              rw [HLEN.out] at this
              exact this
            have FY : Hid (∀ w', Below w9.drew.heap.size w9.drew w' → Calls Try.prog 66 #[.pointer (some ⟨AY, 0, none⟩), .int .i64 y, .slice (some ⟨bx + 1, 0, none⟩) j j] w' (fun en w2 => en = .returned (.bool (roomB nn y j)) ∧ w' = w2)) := fun w' hb => by
              have := rfits_any ((hAy.below (Below.refl _ w9).drew).below hb) y data (some ⟨bx + 1, 0, none⟩) j
              rw [HLEN.out] at this
              exact this
            generalize roomB nn y j = rb at FX FY
            obtain ⟨S, hS⟩ : ∃ S : World → Prop, S = fun w' => w'.cell? ⟨bx, 1, none⟩ = some (.int .i64 y) ∧ w'.cell? ⟨Y, 1, none⟩ = some (.slice aw e.pend.length cw) ∧ (convert 22 9 v6).run Try.prog w' = .ok (.string ⟨rg.1.toArray⟩) w' ∧ (convert 22 9 v7).run Try.prog w' = .ok (.string ⟨rg.1.toArray⟩) w' := ⟨_, rfl⟩
            have hSS : Hid (∀ w', S w' → w'.cell? ⟨bx, 1, none⟩ = some (.int .i64 y) ∧ w'.cell? ⟨Y, 1, none⟩ = some (.slice aw e.pend.length cw) ∧ (convert 22 9 v6).run Try.prog w' = .ok (.string ⟨rg.1.toArray⟩) w' ∧ (convert 22 9 v7).run Try.prog w' = .ok (.string ⟨rg.1.toArray⟩) w') := fun w' h => by rw [hS] at h; exact h
            have SB : ∀ w', Below w9.drew.heap.size w9.drew w' → S w' := fun w' hb' => by
              have hb : Below w9.heap.size w9 w' := ((Below.refl _ w9).drew).trans hb'
              rw [hS]
              exact ⟨(hb.cell (p := ⟨bx, 1, none⟩) hbl).trans k1, (hb.cell (p := ⟨Y, 1, none⟩) hYl).trans cY, conv_bs (owns_below (owns_below (owns_below (owns_below o6 b7) b8) b9) hb), conv_bs (owns_below (owns_below (owns_below o7 b8) b9) hb)⟩
            have s0 : S w9.drew := SB _ (Below.refl _ _)
            have HJL := Lib.hid hjl
            clear hS k1 k2 k3 k4 cY V9 D9 hAx hAy r8 r9 rr8 rr9 o6 o7 hYl hbl b6 b7 b8 b9 hjl
            go_wp2_with fail
            refine wp_region_held (S := S) (by kernel_rfl) ?_
            change wpAnyH _ _ _ _ _ _ _ _ (World.drew _)
            refine wpAnyH_take (i := 0) (v := v6) rfl (by kernel_rfl) (by kernel_rfl) (by kernel_rfl) (fun _ _ _ h => h) (.inl ⟨by rfl, by intro w hw; go_simp⟩) s0 ?_
            try simp only [Act.put, List.getElem_toArray, List.getElem_cons_zero, List.getElem_cons_succ, List.setIfInBounds_toArray, List.set_cons_zero, List.set_cons_succ]
            refine wpAnyH_take (i := 1) (v := .string ⟨rg.1.toArray⟩) rfl (by kernel_rfl) (by kernel_rfl) (by kernel_rfl) (fun _ _ _ h => h) (.inl ⟨by rfl, by intro w hw; have h := hSS.out w hw; obtain ⟨q0, q1, q2, q3⟩ := h; go_simp⟩) s0 ?_
            try simp only [Act.put, List.getElem_toArray, List.getElem_cons_zero, List.getElem_cons_succ, List.setIfInBounds_toArray, List.set_cons_zero, List.set_cons_succ]
            refine wpAnyH_take (i := 2) (v := v7) rfl (by kernel_rfl) (by kernel_rfl) (by kernel_rfl) (fun _ _ _ h => h) (.inl ⟨by rfl, by intro w hw; go_simp⟩) s0 ?_
            try simp only [Act.put, List.getElem_toArray, List.getElem_cons_zero, List.getElem_cons_succ, List.setIfInBounds_toArray, List.set_cons_zero, List.set_cons_succ]
            refine wpAnyH_take (i := 3) (v := .string ⟨rg.1.toArray⟩) rfl (by kernel_rfl) (by kernel_rfl) (by kernel_rfl) (fun _ _ _ h => h) (.inl ⟨by rfl, by intro w hw; have h := hSS.out w hw; obtain ⟨q0, q1, q2, q3⟩ := h; go_simp⟩) s0 ?_
            try simp only [Act.put, List.getElem_toArray, List.getElem_cons_zero, List.getElem_cons_succ, List.setIfInBounds_toArray, List.set_cons_zero, List.set_cons_succ]
            refine wpAnyH_take (i := 4) (v := .bool false) rfl (by kernel_rfl) (by kernel_rfl) (by kernel_rfl) (fun _ _ _ h => h) (.inl ⟨by rfl, by intro w hw; go_simp⟩) s0 ?_
            try simp only [Act.put, List.getElem_toArray, List.getElem_cons_zero, List.getElem_cons_succ, List.setIfInBounds_toArray, List.set_cons_zero, List.set_cons_succ]
            refine wpAnyH_take (i := 5) (v := .bool false) rfl (by kernel_rfl) (by kernel_rfl) (by kernel_rfl) (fun _ _ _ h => h) (.inl ⟨by rfl, by intro w hw; go_simp⟩) s0 ?_
            try simp only [Act.put, List.getElem_toArray, List.getElem_cons_zero, List.getElem_cons_succ, List.setIfInBounds_toArray, List.set_cons_zero, List.set_cons_succ]
            refine wpAnyH_take (i := 6) (v := .int .i64 rg.2) rfl (by kernel_rfl) (by kernel_rfl) (by kernel_rfl) (fun _ _ _ h => h) (.inl ⟨by rfl, by intro w hw; go_simp⟩) s0 ?_
            try simp only [Act.put, List.getElem_toArray, List.getElem_cons_zero, List.getElem_cons_succ, List.setIfInBounds_toArray, List.set_cons_zero, List.set_cons_succ]
            refine wpAnyH_take (i := 7) (v := .int .i64 rg.2) rfl (by kernel_rfl) (by kernel_rfl) (by kernel_rfl) (fun _ _ _ h => h) (.inl ⟨by rfl, by intro w hw; go_simp⟩) s0 ?_
            try simp only [Act.put, List.getElem_toArray, List.getElem_cons_zero, List.getElem_cons_succ, List.setIfInBounds_toArray, List.set_cons_zero, List.set_cons_succ]
            refine wpAnyH_take (i := 8) (v := .bool false) rfl (by kernel_rfl) (by kernel_rfl) (by kernel_rfl) (fun _ _ _ h => h) (.inl ⟨by rfl, by intro w hw; go_simp⟩) s0 ?_
            try simp only [Act.put, List.getElem_toArray, List.getElem_cons_zero, List.getElem_cons_succ, List.setIfInBounds_toArray, List.set_cons_zero, List.set_cons_succ]
            refine wpAnyH_take (i := 9) (v := .bool false) rfl (by kernel_rfl) (by kernel_rfl) (by kernel_rfl) (fun _ _ _ h => h) (.inl ⟨by rfl, by intro w hw; go_simp⟩) s0 ?_
            try simp only [Act.put, List.getElem_toArray, List.getElem_cons_zero, List.getElem_cons_succ, List.setIfInBounds_toArray, List.set_cons_zero, List.set_cons_succ]
            refine wpAnyH_take (i := 10) (v := .bool false) rfl (by kernel_rfl) (by kernel_rfl) (by kernel_rfl) (fun _ _ _ h => h) (.inl ⟨by rfl, by intro w hw; go_simp⟩) s0 ?_
            try simp only [Act.put, List.getElem_toArray, List.getElem_cons_zero, List.getElem_cons_succ, List.setIfInBounds_toArray, List.set_cons_zero, List.set_cons_succ]
            refine wpAnyH_take (i := 11) (v := .slice a8 rf.1.length c8) rfl (by kernel_rfl) (by kernel_rfl) (by kernel_rfl) (fun _ _ _ h => h) (.inl ⟨by rfl, by intro w hw; go_simp⟩) s0 ?_
            try simp only [Act.put, List.getElem_toArray, List.getElem_cons_zero, List.getElem_cons_succ, List.setIfInBounds_toArray, List.set_cons_zero, List.set_cons_succ]
            refine wpAnyH_take (i := 12) (v := .slice a9 rf.1.length c9) rfl (by kernel_rfl) (by kernel_rfl) (by kernel_rfl) (fun _ _ _ h => h) (.inl ⟨by rfl, by intro w hw; go_simp⟩) s0 ?_
            try simp only [Act.put, List.getElem_toArray, List.getElem_cons_zero, List.getElem_cons_succ, List.setIfInBounds_toArray, List.set_cons_zero, List.set_cons_succ]
            refine wpAnyH_one (i := 13) (by kernel_rfl) rfl (by rfl) (fun Kc hK => ?_)
            go_simp
            refine (RW.out _ (Below.refl _ _).drew).mono ?_
            rintro en w10 ⟨rfl, b10⟩
            go_simp
            refine hK _ _ (SB w10 b10) ?_
            clear hK Kc
            try simp only [Act.put, List.getElem_toArray, List.getElem_cons_zero, List.getElem_cons_succ, List.setIfInBounds_toArray, List.set_cons_zero, List.set_cons_succ]
            have s1 : S w10 := SB w10 b10
            refine wpAnyH_take (i := 14) (v := .bool false) rfl (by kernel_rfl) (by kernel_rfl) (by kernel_rfl) (fun _ _ _ h => h) (.inl ⟨by rfl, by intro w hw; go_simp⟩) s1 ?_
            try simp only [Act.put, List.getElem_toArray, List.getElem_cons_zero, List.getElem_cons_succ, List.setIfInBounds_toArray, List.set_cons_zero, List.set_cons_succ]
            refine wpAnyH_take (i := 15) (v := .bool false) rfl (by kernel_rfl) (by kernel_rfl) (by kernel_rfl) (fun _ _ _ h => h) (.inl ⟨by rfl, by intro w hw; go_simp⟩) s1 ?_
            try simp only [Act.put, List.getElem_toArray, List.getElem_cons_zero, List.getElem_cons_succ, List.setIfInBounds_toArray, List.set_cons_zero, List.set_cons_succ]
            refine wpAnyH_take (i := 16) (v := .bool false) rfl (by kernel_rfl) (by kernel_rfl) (by kernel_rfl) (fun _ _ _ h => h) (.inl ⟨by rfl, by intro w hw; go_simp⟩) s1 ?_
            try simp only [Act.put, List.getElem_toArray, List.getElem_cons_zero, List.getElem_cons_succ, List.setIfInBounds_toArray, List.set_cons_zero, List.set_cons_succ]
            refine wpAnyH_take (i := 17) (v := .int .i64 rf.2) rfl (by kernel_rfl) (by kernel_rfl) (by kernel_rfl) (fun _ _ _ h => h) (.inl ⟨by rfl, by intro w hw; go_simp⟩) s1 ?_
            try simp only [Act.put, List.getElem_toArray, List.getElem_cons_zero, List.getElem_cons_succ, List.setIfInBounds_toArray, List.set_cons_zero, List.set_cons_succ]
            refine wpAnyH_take (i := 18) (v := .int .i64 rf.2) rfl (by kernel_rfl) (by kernel_rfl) (by kernel_rfl) (fun _ _ _ h => h) (.inl ⟨by rfl, by intro w hw; go_simp⟩) s1 ?_
            try simp only [Act.put, List.getElem_toArray, List.getElem_cons_zero, List.getElem_cons_succ, List.setIfInBounds_toArray, List.set_cons_zero, List.set_cons_succ]
            refine wpAnyH_take (i := 19) (v := .bool false) rfl (by kernel_rfl) (by kernel_rfl) (by kernel_rfl) (fun _ _ _ h => h) (.inl ⟨by rfl, by intro w hw; go_simp⟩) s1 ?_
            try simp only [Act.put, List.getElem_toArray, List.getElem_cons_zero, List.getElem_cons_succ, List.setIfInBounds_toArray, List.set_cons_zero, List.set_cons_succ]
            refine wpAnyH_take (i := 20) (v := .bool false) rfl (by kernel_rfl) (by kernel_rfl) (by kernel_rfl) (fun _ _ _ h => h) (.inl ⟨by rfl, by intro w hw; go_simp⟩) s1 ?_
            try simp only [Act.put, List.getElem_toArray, List.getElem_cons_zero, List.getElem_cons_succ, List.setIfInBounds_toArray, List.set_cons_zero, List.set_cons_succ]
            refine wpAnyH_take (i := 21) (v := .bool false) rfl (by kernel_rfl) (by kernel_rfl) (by kernel_rfl) (fun _ _ _ h => h) (.inl ⟨by rfl, by intro w hw; go_simp⟩) s1 ?_
            try simp only [Act.put, List.getElem_toArray, List.getElem_cons_zero, List.getElem_cons_succ, List.setIfInBounds_toArray, List.set_cons_zero, List.set_cons_succ]
            refine wpAnyH_take (i := 22) (v := .pointer (some ⟨X, 0, none⟩)) rfl (by kernel_rfl) (by kernel_rfl) (by kernel_rfl) (fun _ _ _ h => h) (.inl ⟨by rfl, by intro w hw; go_simp⟩) s1 ?_
            try simp only [Act.put, List.getElem_toArray, List.getElem_cons_zero, List.getElem_cons_succ, List.setIfInBounds_toArray, List.set_cons_zero, List.set_cons_succ]
            refine wpAnyH_take (i := 24) (v := .pointer (some ⟨Y, 0, none⟩)) rfl (by kernel_rfl) (by kernel_rfl) (by kernel_rfl) (fun _ _ _ h => h) (.inl ⟨by rfl, by intro w hw; go_simp⟩) s1 ?_
            try simp only [Act.put, List.getElem_toArray, List.getElem_cons_zero, List.getElem_cons_succ, List.setIfInBounds_toArray, List.set_cons_zero, List.set_cons_succ]
            refine wpAnyH_take (i := 25) (v := .pointer (some ⟨Y, 0, none⟩)) rfl (by kernel_rfl) (by kernel_rfl) (by kernel_rfl) (fun _ _ _ h => h) (.inl ⟨by rfl, by intro w hw; go_simp⟩) s1 ?_
            try simp only [Act.put, List.getElem_toArray, List.getElem_cons_zero, List.getElem_cons_succ, List.setIfInBounds_toArray, List.set_cons_zero, List.set_cons_succ]
            refine wpAnyH_take (i := 26) (v := .pointer (some ⟨Y, 1, none⟩)) rfl (by kernel_rfl) (by kernel_rfl) (by kernel_rfl) (fun _ _ _ h => h) (.inl ⟨by rfl, by intro w hw; go_simp⟩) s1 ?_
            try simp only [Act.put, List.getElem_toArray, List.getElem_cons_zero, List.getElem_cons_succ, List.setIfInBounds_toArray, List.set_cons_zero, List.set_cons_succ]
            refine wpAnyH_take (i := 27) (v := .slice aw e.pend.length cw) rfl (by kernel_rfl) (by kernel_rfl) (by kernel_rfl) (fun _ _ _ h => h) (.inl ⟨by rfl, by intro w hw; have h := hSS.out w hw; obtain ⟨q0, q1, q2, q3⟩ := h; go_simp⟩) s1 ?_
            try simp only [Act.put, List.getElem_toArray, List.getElem_cons_zero, List.getElem_cons_succ, List.setIfInBounds_toArray, List.set_cons_zero, List.set_cons_succ]
            refine wpAnyH_take (i := 28) (v := .int .i64 (e.pend.length : Int)) rfl (by kernel_rfl) (by kernel_rfl) (by kernel_rfl) (fun _ _ _ h => h) (.inl ⟨by rfl, by intro w hw; go_simp⟩) s1 ?_
            try simp only [Act.put, List.getElem_toArray, List.getElem_cons_zero, List.getElem_cons_succ, List.setIfInBounds_toArray, List.set_cons_zero, List.set_cons_succ]
            refine wpAnyH_one (i := 23) (by kernel_rfl) rfl (by rfl) (fun Kc hK => ?_)
            go_simp
            refine (PD.out _ b10).mono ?_
            rintro en wz ⟨rfl, rfl⟩
            go_simp
            refine hK _ _ s1 ?_
            clear hK Kc
            try simp only [Act.put, List.getElem_toArray, List.getElem_cons_zero, List.getElem_cons_succ, List.setIfInBounds_toArray, List.set_cons_zero, List.set_cons_succ]
            refine wpAnyH_take (i := 29) (v := .bool false) rfl (by kernel_rfl) (by kernel_rfl) (by kernel_rfl) (fun _ _ _ h => h) (.inl ⟨by rfl, by intro w hw; go_simp⟩) s1 ?_
            try simp only [Act.put, List.getElem_toArray, List.getElem_cons_zero, List.getElem_cons_succ, List.setIfInBounds_toArray, List.set_cons_zero, List.set_cons_succ]
            refine wpAnyH_take (i := 30) (v := .bool false) rfl (by kernel_rfl) (by kernel_rfl) (by kernel_rfl) (fun _ _ _ h => h) (.inl ⟨by rfl, by intro w hw; go_simp⟩) s1 ?_
            try simp only [Act.put, List.getElem_toArray, List.getElem_cons_zero, List.getElem_cons_succ, List.setIfInBounds_toArray, List.set_cons_zero, List.set_cons_succ]
            refine wpAnyH_take (i := 31) (v := .bool false) rfl (by kernel_rfl) (by kernel_rfl) (by kernel_rfl) (fun _ _ _ h => h) (.inl ⟨by rfl, by intro w hw; go_simp⟩) s1 ?_
            try simp only [Act.put, List.getElem_toArray, List.getElem_cons_zero, List.getElem_cons_succ, List.setIfInBounds_toArray, List.set_cons_zero, List.set_cons_succ]
            refine wpAnyH_take (i := 32) (v := .pointer (some ⟨AX, 0, none⟩)) rfl (by kernel_rfl) (by kernel_rfl) (by kernel_rfl) (fun _ _ _ h => h) (.inl ⟨by rfl, by intro w hw; go_simp⟩) s1 ?_
            try simp only [Act.put, List.getElem_toArray, List.getElem_cons_zero, List.getElem_cons_succ, List.setIfInBounds_toArray, List.set_cons_zero, List.set_cons_succ]
            refine wpAnyH_take (i := 33) (v := .pointer (some ⟨bx, 1, none⟩)) rfl (by kernel_rfl) (by kernel_rfl) (by kernel_rfl) (fun _ _ _ h => h) (.inl ⟨by rfl, by intro w hw; go_simp⟩) s1 ?_
            try simp only [Act.put, List.getElem_toArray, List.getElem_cons_zero, List.getElem_cons_succ, List.setIfInBounds_toArray, List.set_cons_zero, List.set_cons_succ]
            refine wpAnyH_take (i := 34) (v := .int .i64 y) rfl (by kernel_rfl) (by kernel_rfl) (by kernel_rfl) (fun _ _ _ h => h) (.inl ⟨by rfl, by intro w hw; have h := hSS.out w hw; obtain ⟨q0, q1, q2, q3⟩ := h; go_simp⟩) s1 ?_
            try simp only [Act.put, List.getElem_toArray, List.getElem_cons_zero, List.getElem_cons_succ, List.setIfInBounds_toArray, List.set_cons_zero, List.set_cons_succ]
            refine wpAnyH_take (i := 35) (v := .slice (some ⟨bx + 1, 0, none⟩) j j) rfl (by kernel_rfl) (by kernel_rfl) (by kernel_rfl) (fun _ _ _ h => h) (.inl ⟨by rfl, by intro w hw; go_simp⟩) s1 ?_
            try simp only [Act.put, List.getElem_toArray, List.getElem_cons_zero, List.getElem_cons_succ, List.setIfInBounds_toArray, List.set_cons_zero, List.set_cons_succ]
            refine wpAnyH_take (i := 37) (v := .pointer (some ⟨AY, 0, none⟩)) rfl (by kernel_rfl) (by kernel_rfl) (by kernel_rfl) (fun _ _ _ h => h) (.inl ⟨by rfl, by intro w hw; go_simp⟩) s1 ?_
            try simp only [Act.put, List.getElem_toArray, List.getElem_cons_zero, List.getElem_cons_succ, List.setIfInBounds_toArray, List.set_cons_zero, List.set_cons_succ]
            refine wpAnyH_take (i := 38) (v := .pointer (some ⟨bx, 1, none⟩)) rfl (by kernel_rfl) (by kernel_rfl) (by kernel_rfl) (fun _ _ _ h => h) (.inl ⟨by rfl, by intro w hw; go_simp⟩) s1 ?_
            try simp only [Act.put, List.getElem_toArray, List.getElem_cons_zero, List.getElem_cons_succ, List.setIfInBounds_toArray, List.set_cons_zero, List.set_cons_succ]
            refine wpAnyH_take (i := 39) (v := .int .i64 y) rfl (by kernel_rfl) (by kernel_rfl) (by kernel_rfl) (fun _ _ _ h => h) (.inl ⟨by rfl, by intro w hw; have h := hSS.out w hw; obtain ⟨q0, q1, q2, q3⟩ := h; go_simp⟩) s1 ?_
            try simp only [Act.put, List.getElem_toArray, List.getElem_cons_zero, List.getElem_cons_succ, List.setIfInBounds_toArray, List.set_cons_zero, List.set_cons_succ]
            refine wpAnyH_take (i := 40) (v := .slice (some ⟨bx + 1, 0, none⟩) j j) rfl (by kernel_rfl) (by kernel_rfl) (by kernel_rfl) (fun _ _ _ h => h) (.inl ⟨by rfl, by intro w hw; go_simp⟩) s1 ?_
            try simp only [Act.put, List.getElem_toArray, List.getElem_cons_zero, List.getElem_cons_succ, List.setIfInBounds_toArray, List.set_cons_zero, List.set_cons_succ]
            refine wpAnyH_one (i := 36) (by kernel_rfl) rfl (by rfl) (fun Kc hK => ?_)
            go_simp
            refine (FX.out _ b10).mono ?_
            rintro en wz ⟨rfl, rfl⟩
            go_simp
            refine hK _ _ s1 ?_
            clear hK Kc
            try simp only [Act.put, List.getElem_toArray, List.getElem_cons_zero, List.getElem_cons_succ, List.setIfInBounds_toArray, List.set_cons_zero, List.set_cons_succ]
            refine wpAnyH_one (i := 41) (by kernel_rfl) rfl (by rfl) (fun Kc hK => ?_)
            go_simp
            refine (FY.out _ b10).mono ?_
            rintro en wz ⟨rfl, rfl⟩
            go_simp
            refine hK _ _ s1 ?_
            clear hK Kc
            try simp only [Act.put, List.getElem_toArray, List.getElem_cons_zero, List.getElem_cons_succ, List.setIfInBounds_toArray, List.set_cons_zero, List.set_cons_succ]
            refine wpAnyH_take (i := 42) (v := .bool false) rfl (by kernel_rfl) (by kernel_rfl) (by kernel_rfl) (fun _ _ _ h => h) (.inl ⟨by rfl, by intro w hw; go_simp⟩) s1 ?_
            try simp only [Act.put, List.getElem_toArray, List.getElem_cons_zero, List.getElem_cons_succ, List.setIfInBounds_toArray, List.set_cons_zero, List.set_cons_succ]
            refine wpAnyH_take (i := 43) (v := .bool false) rfl (by kernel_rfl) (by kernel_rfl) (by kernel_rfl) (fun _ _ _ h => h) (.inl ⟨by rfl, by intro w hw; go_simp⟩) s1 ?_
            try simp only [Act.put, List.getElem_toArray, List.getElem_cons_zero, List.getElem_cons_succ, List.setIfInBounds_toArray, List.set_cons_zero, List.set_cons_succ]
            refine wpAnyH_done (by kernel_rfl) ?_ _
            clear s0 s1 SB hSS
            have H10 := Lib.hid (((HE9.out.below (Below.refl _ w9).drew).below b10).sub SUB.out)
            clear b10
            go_wp2_with fail
            go_roundw
            case rel => exact ⟨i + 1, e, rfl, by omega, HSE.out, H10.out⟩
            case measure => simp only [intOf]; omega
    · have hii : ¬ (i : Int) < (l.length : Int) := by omega
      go_wp2
      go_ret
      exact ⟨rfl, BW.out⟩
end Go.Proofs.Ytopemjbakpahfaa

/-
  Contracts and plain laws, part 30 (texts: DPlaysL). No condition but what each states.
-/
import Derived.Test.YtopemjbakpahfaaJournalPlaysN
/-
  DiskPlays: the walk, for any number of sectors and any steps. No condition.
-/
namespace Go.Proofs.Ytopemjbakpahfaa
open Go.RowKit Disk
set_option linter.unusedSimpArgs false
set_option linter.unusedVariables false
structure PRun (W : World) (X Y : Nat) (d : Dev) (wr : World) : Prop where
  bl : Below W.heap.size W wr
  ex : ∃ F1 F2 : Nat → Prop, IsDev F1 wr X d ∧ IsRef F2 wr Y d ∧ (∀ k, F1 k → F2 k → False) ∧ (∀ k, F1 k → W.heap.size ≤ k) ∧ ∀ k, F2 k → W.heap.size ≤ k
theorem PRun.below {W : World} {X Y : Nat} {d : Dev} {wr w2 : World} (h : PRun W X Y d wr) (hb : Below wr.heap.size wr w2) : PRun W X Y d w2 := by
  obtain ⟨h1, F1, F2, h2, h3, h4, h5, h6⟩ := h
  exact ⟨h1.trans (hb.mono h1.size), F1, F2, h2.below hb, h3.below hb, h4, h5, h6⟩
theorem PRun.frm {W : World} {X Y : Nat} {d : Dev} {wr w1 w2 : World} {g : Nat} (h : PRun W X Y d wr) (hg : wr.heap.size ≤ g) (hb : Below wr.heap.size wr w1) (hf : Frm (fun k => k = g) w1 w2) : PRun W X Y d w2 :=
  h.below (hb.trans (hf.below (fun k hk => by omega) hb.size))
theorem PRun.step {W : World} {X Y : Nat} {d : Dev} {wr : World} (h : PRun W X Y d wr) {i : Nat} (hs : SmallD d i) (hi : i ≤ 1000) (x y z : Int) (hz : z ≤ 9223372036854775807) :
    Calls Try.prog 41 #[.pointer (some ⟨X, 0, none⟩), .pointer (some ⟨Y, 0, none⟩), .agg #[.int .i64 x, .int .i64 y, .int .i64 z]] wr (fun en w2 => en = .returned (.bool true) ∧ PRun W X Y (doD d x y z) w2) := by
  obtain ⟨h1, F1, F2, h2, h3, h4, h5, h6⟩ := h
  have a1 := hs.pend
  have a2 := hs.writes
  have a3 := hs.syncs
  have hsz := h1.size
  refine (do_any (Half.start h2 h3 h4) x y z hz (by omega) (by omega) (by omega)).mono ?_
  rintro en w2 ⟨rfl, hf, G1, G2, i2, i3, i4, i5, i6, _⟩
  exact ⟨rfl, h1.trans (hf.below (fun k hk => hk.elim (h5 k) (h6 k)) h1.size), G1, G2, i2, i3, i4, fun k hk => (i5 k hk).elim (h5 k) (fun h => by omega), fun k hk => (i6 k hk).elim (h6 k) (fun h => by omega)⟩
set_option maxRecDepth 100000 in
set_option maxHeartbeats 8000000 in
theorem plays_law (s : Int) (l : List Three) (a : Option Addr) (cap : Nat) (W : World) (hr : R3 W a l) (hx : ∀ i, i < l.length → (l.getD i zero3).fits) : Calls Try.prog 10 #[.int .i64 s, .slice a l.length cap] W (Yes W) := by
  go_enter Try.func10, Try.ntmps10
  go_wp2_with fail
  refine (dsmall_any _).mono ?_
  rintro en w1 ⟨rfl, B1⟩
  go_wp2_with fail
  refine (new_any w1 s).mono ?_
  rintro en w2 ⟨X, rfl, b2, hX, D2⟩
  have B2 := B1.trans (b2.mono B1.size)
  go_wp2_with fail
  refine (rnew_any w2 s).mono ?_
  rintro en w3 ⟨Y, rfl, b3, hY, E3⟩
  have B3 := B2.trans (b3.mono B2.size)
  by_cases h150 : 150 < (l.length : Int)
  · go_wp2
    go_ret
    exact ⟨rfl, B3⟩
  have hs1 := B1.size
  have hs2 := B2.size
  have P0 : Hid (PRun W X Y (Dev.new (sizeOfDev s)) w3) := ⟨B3, _, _, D2.below b3, E3, fun k h1 h2 => by omega, fun k hk => by omega, fun k hk => by omega⟩
  have S0 : Hid (SmallD (Dev.new (sizeOfDev s)) 0) := ⟨Nat.le_refl _, Nat.le_refl _, Nat.le_refl _⟩
  generalize Dev.new (sizeOfDev s) = d0 at P0 S0
  have HR := Lib.hid hr
  have HX := Lib.hid hx
  clear D2 E3 b2 b3 B1 B2 B3 hX hY hs1 hs2 hr hx
  have L150 : Hid (l.length ≤ 150) := by show _ ≤ _; omega
  go_wp2_with fail
  go_loopw [8] (fun iv wr => ∃ (i : Nat) (d : Dev), iv = .int .i64 i ∧ i ≤ l.length ∧ SmallD d i ∧ PRun W X Y d wr) (fun iv _ => l.length - (intOf iv).toNat)
  case atStart => exact ⟨0, d0, rfl, Nat.zero_le _, S0.out, P0.out⟩
  case round =>
    obtain ⟨i, d, rfl, hil, hsm, hrun⟩ := hrel
    have HS := Lib.hid hsm
    have PR := Lib.hid hrun
    clear hsm hrun P0 S0
    by_cases hlt : i < l.length
    · have hii : (i : Int) < (l.length : Int) := by omega
      have hi0 : (0 : Int) ≤ (i : Int) := by omega
      obtain ⟨g, off, rfl, hg, c0, c1, c2⟩ := (HR.out.below PR.out.bl) i hlt
      have hfit := HX.out i hlt
      obtain ⟨t, ht⟩ : ∃ t, l.getD i zero3 = t := ⟨_, rfl⟩
      rw [ht] at c0 c1 c2 hfit
      have HGW : Hid (g < W.heap.size) := by obtain ⟨g', off', e, hg', _⟩ := HR.out i hlt; cases e; exact hg'
      have HFIT := Lib.hid hfit
      have C1 := Lib.hid c1
      clear hfit
      go_wp2_with fail
      refine (PR.out.step HS.out (by have := L150.out; omega) t.x t.y t.z HFIT.out.2.2.2).mono ?_
      rintro en w4 ⟨rfl, PR4⟩
      have HS4 := Lib.hid (HS.out.doD t.x t.y t.z)
      generalize doD d t.x t.y t.z = e at PR4 HS4
      have hp : e.pend.length ≤ 100000 := by have := HS4.out.pend; have := L150.out; omega
      have P4 := Lib.hid PR4
      obtain ⟨F1, F2, D4, E4, ha4, f4, g4⟩ := PR4.ex
      have DD4 := Lib.hid D4
      have EE4 := Lib.hid E4
      clear PR4 D4 E4 PR HS c0 c1 c2
      go_wp2_with fail
      refine (stats_any DD4.out).mono ?_
      rintro en w5 ⟨rfl, b5⟩
      have P5 := Lib.hid (P4.out.below b5)
      have DX := Lib.hid (DD4.out.below b5)
      have EX := Lib.hid (EE4.out.below b5)
      obtain ⟨vk, vw, V5⟩ := EX.out
      obtain ⟨ak, ck, rfl⟩ := rkept_form V5.kept
      obtain ⟨aw, cw, rfl⟩ := rwait_form V5.wait
      have DXd := Lib.hid (DX.out.below (Below.refl _ w5).drew)
      have VB := Lib.hid V5.drew.blk
      clear V5
      obtain ⟨S, hS⟩ : ∃ S : World → Prop, S = fun w' => w'.cell? ⟨Y, 0, none⟩ = some (.slice ak e.kept.length ck) ∧ w'.cell? ⟨Y, 1, none⟩ = some (.slice aw e.pend.length cw) ∧ w'.cell? ⟨Y, 2, none⟩ = some (.bool e.down) ∧ w'.cell? ⟨Y, 4, none⟩ = some (.int .i64 (e.writes : Int)) ∧ w'.cell? ⟨Y, 5, none⟩ = some (.int .i64 (e.syncs : Int)) := ⟨_, rfl⟩
      have hSS : Hid (∀ w', S w' → w'.cell? ⟨Y, 0, none⟩ = some (.slice ak e.kept.length ck) ∧ w'.cell? ⟨Y, 1, none⟩ = some (.slice aw e.pend.length cw) ∧ w'.cell? ⟨Y, 2, none⟩ = some (.bool e.down) ∧ w'.cell? ⟨Y, 4, none⟩ = some (.int .i64 (e.writes : Int)) ∧ w'.cell? ⟨Y, 5, none⟩ = some (.int .i64 (e.syncs : Int))) := fun w' h => by rw [hS] at h; exact h
      have s0 : S w5.drew := by rw [hS]; exact ⟨Joins.cell_of_block VB.out 0, Joins.cell_of_block VB.out 1, Joins.cell_of_block VB.out 2, Joins.cell_of_block VB.out 4, Joins.cell_of_block VB.out 5⟩
      clear hS
      go_wp2_with fail
      refine wp_region_held (S := S) (by kernel_rfl) ?_
      change wpAnyH _ _ _ _ _ _ _ _ (World.drew _)
      refine wpAnyH_take (i := 0) (v := .bool true) rfl (by kernel_rfl) (by kernel_rfl) (by kernel_rfl) (fun _ _ _ h => h) (.inl ⟨by rfl, by intro w hw; go_simp⟩) s0 ?_
      try simp only [Act.put, List.getElem_toArray, List.getElem_cons_zero, List.getElem_cons_succ, List.setIfInBounds_toArray, List.set_cons_zero, List.set_cons_succ]
      refine wpAnyH_take (i := 1) (v := .bool false) rfl (by kernel_rfl) (by kernel_rfl) (by kernel_rfl) (fun _ _ _ h => h) (.inl ⟨by rfl, by intro w hw; go_simp⟩) s0 ?_
      try simp only [Act.put, List.getElem_toArray, List.getElem_cons_zero, List.getElem_cons_succ, List.setIfInBounds_toArray, List.set_cons_zero, List.set_cons_succ]
      refine wpAnyH_take (i := 2) (v := .bool false) rfl (by kernel_rfl) (by kernel_rfl) (by kernel_rfl) (fun _ _ _ h => h) (.inl ⟨by rfl, by intro w hw; go_simp⟩) s0 ?_
      try simp only [Act.put, List.getElem_toArray, List.getElem_cons_zero, List.getElem_cons_succ, List.setIfInBounds_toArray, List.set_cons_zero, List.set_cons_succ]
      refine wpAnyH_take (i := 3) (v := .pointer (some ⟨X, 0, none⟩)) rfl (by kernel_rfl) (by kernel_rfl) (by kernel_rfl) (fun _ _ _ h => h) (.inl ⟨by rfl, by intro w hw; go_simp⟩) s0 ?_
      try simp only [Act.put, List.getElem_toArray, List.getElem_cons_zero, List.getElem_cons_succ, List.setIfInBounds_toArray, List.set_cons_zero, List.set_cons_succ]
      refine wpAnyH_take (i := 5) (v := .pointer (some ⟨Y, 0, none⟩)) rfl (by kernel_rfl) (by kernel_rfl) (by kernel_rfl) (fun _ _ _ h => h) (.inl ⟨by rfl, by intro w hw; go_simp⟩) s0 ?_
      try simp only [Act.put, List.getElem_toArray, List.getElem_cons_zero, List.getElem_cons_succ, List.setIfInBounds_toArray, List.set_cons_zero, List.set_cons_succ]
      refine wpAnyH_take (i := 6) (v := .pointer (some ⟨Y, 0, none⟩)) rfl (by kernel_rfl) (by kernel_rfl) (by kernel_rfl) (fun _ _ _ h => h) (.inl ⟨by rfl, by intro w hw; go_simp⟩) s0 ?_
      try simp only [Act.put, List.getElem_toArray, List.getElem_cons_zero, List.getElem_cons_succ, List.setIfInBounds_toArray, List.set_cons_zero, List.set_cons_succ]
      refine wpAnyH_take (i := 7) (v := .pointer (some ⟨Y, 2, none⟩)) rfl (by kernel_rfl) (by kernel_rfl) (by kernel_rfl) (fun _ _ _ h => h) (.inl ⟨by rfl, by intro w hw; go_simp⟩) s0 ?_
      try simp only [Act.put, List.getElem_toArray, List.getElem_cons_zero, List.getElem_cons_succ, List.setIfInBounds_toArray, List.set_cons_zero, List.set_cons_succ]
      refine wpAnyH_take (i := 8) (v := .bool e.down) rfl (by kernel_rfl) (by kernel_rfl) (by kernel_rfl) (fun _ _ _ h => h) (.inl ⟨by rfl, by intro w hw; have h := hSS.out w hw; obtain ⟨q0, q1, q2, q4, q5⟩ := h; go_simp⟩) s0 ?_
      try simp only [Act.put, List.getElem_toArray, List.getElem_cons_zero, List.getElem_cons_succ, List.setIfInBounds_toArray, List.set_cons_zero, List.set_cons_succ]
      refine wpAnyH_one (i := 4) (by kernel_rfl) rfl (by rfl) (fun Kc hK => ?_)
      go_simp
      refine (down_any DXd.out).mono ?_
      rintro en wz ⟨rfl, rfl⟩
      go_simp
      refine hK _ _ s0 ?_
      clear hK Kc
      try simp only [Act.put, List.getElem_toArray, List.getElem_cons_zero, List.getElem_cons_succ, List.setIfInBounds_toArray, List.set_cons_zero, List.set_cons_succ]
      refine wpAnyH_take (i := 9) (v := .bool false) rfl (by kernel_rfl) (by kernel_rfl) (by kernel_rfl) (fun _ _ _ h => h) (.inl ⟨by rfl, by intro w hw; go_simp⟩) s0 ?_
      try simp only [Act.put, List.getElem_toArray, List.getElem_cons_zero, List.getElem_cons_succ, List.setIfInBounds_toArray, List.set_cons_zero, List.set_cons_succ]
      refine wpAnyH_take (i := 10) (v := .bool false) rfl (by kernel_rfl) (by kernel_rfl) (by kernel_rfl) (fun _ _ _ h => h) (.inl ⟨by rfl, by intro w hw; go_simp⟩) s0 ?_
      try simp only [Act.put, List.getElem_toArray, List.getElem_cons_zero, List.getElem_cons_succ, List.setIfInBounds_toArray, List.set_cons_zero, List.set_cons_succ]
      refine wpAnyH_take (i := 11) (v := .bool false) rfl (by kernel_rfl) (by kernel_rfl) (by kernel_rfl) (fun _ _ _ h => h) (.inl ⟨by rfl, by intro w hw; go_simp⟩) s0 ?_
      try simp only [Act.put, List.getElem_toArray, List.getElem_cons_zero, List.getElem_cons_succ, List.setIfInBounds_toArray, List.set_cons_zero, List.set_cons_succ]
      refine wpAnyH_take (i := 12) (v := .pointer (some ⟨X, 0, none⟩)) rfl (by kernel_rfl) (by kernel_rfl) (by kernel_rfl) (fun _ _ _ h => h) (.inl ⟨by rfl, by intro w hw; go_simp⟩) s0 ?_
      try simp only [Act.put, List.getElem_toArray, List.getElem_cons_zero, List.getElem_cons_succ, List.setIfInBounds_toArray, List.set_cons_zero, List.set_cons_succ]
      refine wpAnyH_take (i := 14) (v := .pointer (some ⟨Y, 0, none⟩)) rfl (by kernel_rfl) (by kernel_rfl) (by kernel_rfl) (fun _ _ _ h => h) (.inl ⟨by rfl, by intro w hw; go_simp⟩) s0 ?_
      try simp only [Act.put, List.getElem_toArray, List.getElem_cons_zero, List.getElem_cons_succ, List.setIfInBounds_toArray, List.set_cons_zero, List.set_cons_succ]
      refine wpAnyH_take (i := 15) (v := .pointer (some ⟨Y, 0, none⟩)) rfl (by kernel_rfl) (by kernel_rfl) (by kernel_rfl) (fun _ _ _ h => h) (.inl ⟨by rfl, by intro w hw; go_simp⟩) s0 ?_
      try simp only [Act.put, List.getElem_toArray, List.getElem_cons_zero, List.getElem_cons_succ, List.setIfInBounds_toArray, List.set_cons_zero, List.set_cons_succ]
      refine wpAnyH_take (i := 16) (v := .pointer (some ⟨Y, 1, none⟩)) rfl (by kernel_rfl) (by kernel_rfl) (by kernel_rfl) (fun _ _ _ h => h) (.inl ⟨by rfl, by intro w hw; go_simp⟩) s0 ?_
      try simp only [Act.put, List.getElem_toArray, List.getElem_cons_zero, List.getElem_cons_succ, List.setIfInBounds_toArray, List.set_cons_zero, List.set_cons_succ]
      refine wpAnyH_take (i := 17) (v := .slice aw e.pend.length cw) rfl (by kernel_rfl) (by kernel_rfl) (by kernel_rfl) (fun _ _ _ h => h) (.inl ⟨by rfl, by intro w hw; have h := hSS.out w hw; obtain ⟨q0, q1, q2, q4, q5⟩ := h; go_simp⟩) s0 ?_
      try simp only [Act.put, List.getElem_toArray, List.getElem_cons_zero, List.getElem_cons_succ, List.setIfInBounds_toArray, List.set_cons_zero, List.set_cons_succ]
      refine wpAnyH_take (i := 18) (v := .int .i64 (e.pend.length : Int)) rfl (by kernel_rfl) (by kernel_rfl) (by kernel_rfl) (fun _ _ _ h => h) (.inl ⟨by rfl, by intro w hw; go_simp⟩) s0 ?_
      try simp only [Act.put, List.getElem_toArray, List.getElem_cons_zero, List.getElem_cons_succ, List.setIfInBounds_toArray, List.set_cons_zero, List.set_cons_succ]
      refine wpAnyH_one (i := 13) (by kernel_rfl) rfl (by rfl) (fun Kc hK => ?_)
      go_simp
      refine (pending_any DXd.out).mono ?_
      rintro en wz ⟨rfl, rfl⟩
      go_simp
      refine hK _ _ s0 ?_
      clear hK Kc
      try simp only [Act.put, List.getElem_toArray, List.getElem_cons_zero, List.getElem_cons_succ, List.setIfInBounds_toArray, List.set_cons_zero, List.set_cons_succ]
      refine wpAnyH_take (i := 19) (v := .bool false) rfl (by kernel_rfl) (by kernel_rfl) (by kernel_rfl) (fun _ _ _ h => h) (.inl ⟨by rfl, by intro w hw; go_simp⟩) s0 ?_
      try simp only [Act.put, List.getElem_toArray, List.getElem_cons_zero, List.getElem_cons_succ, List.setIfInBounds_toArray, List.set_cons_zero, List.set_cons_succ]
      refine wpAnyH_take (i := 20) (v := .bool false) rfl (by kernel_rfl) (by kernel_rfl) (by kernel_rfl) (fun _ _ _ h => h) (.inl ⟨by rfl, by intro w hw; go_simp⟩) s0 ?_
      try simp only [Act.put, List.getElem_toArray, List.getElem_cons_zero, List.getElem_cons_succ, List.setIfInBounds_toArray, List.set_cons_zero, List.set_cons_succ]
      refine wpAnyH_take (i := 21) (v := .bool false) rfl (by kernel_rfl) (by kernel_rfl) (by kernel_rfl) (fun _ _ _ h => h) (.inl ⟨by rfl, by intro w hw; go_simp⟩) s0 ?_
      try simp only [Act.put, List.getElem_toArray, List.getElem_cons_zero, List.getElem_cons_succ, List.setIfInBounds_toArray, List.set_cons_zero, List.set_cons_succ]
      refine wpAnyH_take (i := 22) (v := .int .i64 (e.writes : Int)) rfl (by kernel_rfl) (by kernel_rfl) (by kernel_rfl) (fun _ _ _ h => h) (.inl ⟨by rfl, by intro w hw; go_simp⟩) s0 ?_
      try simp only [Act.put, List.getElem_toArray, List.getElem_cons_zero, List.getElem_cons_succ, List.setIfInBounds_toArray, List.set_cons_zero, List.set_cons_succ]
      refine wpAnyH_take (i := 23) (v := .pointer (some ⟨Y, 0, none⟩)) rfl (by kernel_rfl) (by kernel_rfl) (by kernel_rfl) (fun _ _ _ h => h) (.inl ⟨by rfl, by intro w hw; go_simp⟩) s0 ?_
      try simp only [Act.put, List.getElem_toArray, List.getElem_cons_zero, List.getElem_cons_succ, List.setIfInBounds_toArray, List.set_cons_zero, List.set_cons_succ]
      refine wpAnyH_take (i := 24) (v := .pointer (some ⟨Y, 0, none⟩)) rfl (by kernel_rfl) (by kernel_rfl) (by kernel_rfl) (fun _ _ _ h => h) (.inl ⟨by rfl, by intro w hw; go_simp⟩) s0 ?_
      try simp only [Act.put, List.getElem_toArray, List.getElem_cons_zero, List.getElem_cons_succ, List.setIfInBounds_toArray, List.set_cons_zero, List.set_cons_succ]
      refine wpAnyH_take (i := 25) (v := .pointer (some ⟨Y, 4, none⟩)) rfl (by kernel_rfl) (by kernel_rfl) (by kernel_rfl) (fun _ _ _ h => h) (.inl ⟨by rfl, by intro w hw; go_simp⟩) s0 ?_
      try simp only [Act.put, List.getElem_toArray, List.getElem_cons_zero, List.getElem_cons_succ, List.setIfInBounds_toArray, List.set_cons_zero, List.set_cons_succ]
      refine wpAnyH_take (i := 26) (v := .int .i64 (e.writes : Int)) rfl (by kernel_rfl) (by kernel_rfl) (by kernel_rfl) (fun _ _ _ h => h) (.inl ⟨by rfl, by intro w hw; have h := hSS.out w hw; obtain ⟨q0, q1, q2, q4, q5⟩ := h; go_simp⟩) s0 ?_
      try simp only [Act.put, List.getElem_toArray, List.getElem_cons_zero, List.getElem_cons_succ, List.setIfInBounds_toArray, List.set_cons_zero, List.set_cons_succ]
      refine wpAnyH_take (i := 27) (v := .bool false) rfl (by kernel_rfl) (by kernel_rfl) (by kernel_rfl) (fun _ _ _ h => h) (.inl ⟨by rfl, by intro w hw; go_simp⟩) s0 ?_
      try simp only [Act.put, List.getElem_toArray, List.getElem_cons_zero, List.getElem_cons_succ, List.setIfInBounds_toArray, List.set_cons_zero, List.set_cons_succ]
      refine wpAnyH_take (i := 28) (v := .bool false) rfl (by kernel_rfl) (by kernel_rfl) (by kernel_rfl) (fun _ _ _ h => h) (.inl ⟨by rfl, by intro w hw; go_simp⟩) s0 ?_
      try simp only [Act.put, List.getElem_toArray, List.getElem_cons_zero, List.getElem_cons_succ, List.setIfInBounds_toArray, List.set_cons_zero, List.set_cons_succ]
      refine wpAnyH_take (i := 29) (v := .bool false) rfl (by kernel_rfl) (by kernel_rfl) (by kernel_rfl) (fun _ _ _ h => h) (.inl ⟨by rfl, by intro w hw; go_simp⟩) s0 ?_
      try simp only [Act.put, List.getElem_toArray, List.getElem_cons_zero, List.getElem_cons_succ, List.setIfInBounds_toArray, List.set_cons_zero, List.set_cons_succ]
      refine wpAnyH_take (i := 30) (v := .int .i64 (e.syncs : Int)) rfl (by kernel_rfl) (by kernel_rfl) (by kernel_rfl) (fun _ _ _ h => h) (.inl ⟨by rfl, by intro w hw; go_simp⟩) s0 ?_
      try simp only [Act.put, List.getElem_toArray, List.getElem_cons_zero, List.getElem_cons_succ, List.setIfInBounds_toArray, List.set_cons_zero, List.set_cons_succ]
      refine wpAnyH_take (i := 31) (v := .pointer (some ⟨Y, 0, none⟩)) rfl (by kernel_rfl) (by kernel_rfl) (by kernel_rfl) (fun _ _ _ h => h) (.inl ⟨by rfl, by intro w hw; go_simp⟩) s0 ?_
      try simp only [Act.put, List.getElem_toArray, List.getElem_cons_zero, List.getElem_cons_succ, List.setIfInBounds_toArray, List.set_cons_zero, List.set_cons_succ]
      refine wpAnyH_take (i := 32) (v := .pointer (some ⟨Y, 0, none⟩)) rfl (by kernel_rfl) (by kernel_rfl) (by kernel_rfl) (fun _ _ _ h => h) (.inl ⟨by rfl, by intro w hw; go_simp⟩) s0 ?_
      try simp only [Act.put, List.getElem_toArray, List.getElem_cons_zero, List.getElem_cons_succ, List.setIfInBounds_toArray, List.set_cons_zero, List.set_cons_succ]
      refine wpAnyH_take (i := 33) (v := .pointer (some ⟨Y, 5, none⟩)) rfl (by kernel_rfl) (by kernel_rfl) (by kernel_rfl) (fun _ _ _ h => h) (.inl ⟨by rfl, by intro w hw; go_simp⟩) s0 ?_
      try simp only [Act.put, List.getElem_toArray, List.getElem_cons_zero, List.getElem_cons_succ, List.setIfInBounds_toArray, List.set_cons_zero, List.set_cons_succ]
      refine wpAnyH_take (i := 34) (v := .int .i64 (e.syncs : Int)) rfl (by kernel_rfl) (by kernel_rfl) (by kernel_rfl) (fun _ _ _ h => h) (.inl ⟨by rfl, by intro w hw; have h := hSS.out w hw; obtain ⟨q0, q1, q2, q4, q5⟩ := h; go_simp⟩) s0 ?_
      try simp only [Act.put, List.getElem_toArray, List.getElem_cons_zero, List.getElem_cons_succ, List.setIfInBounds_toArray, List.set_cons_zero, List.set_cons_succ]
      refine wpAnyH_take (i := 35) (v := .bool false) rfl (by kernel_rfl) (by kernel_rfl) (by kernel_rfl) (fun _ _ _ h => h) (.inl ⟨by rfl, by intro w hw; go_simp⟩) s0 ?_
      try simp only [Act.put, List.getElem_toArray, List.getElem_cons_zero, List.getElem_cons_succ, List.setIfInBounds_toArray, List.set_cons_zero, List.set_cons_succ]
      refine wpAnyH_take (i := 36) (v := .bool false) rfl (by kernel_rfl) (by kernel_rfl) (by kernel_rfl) (fun _ _ _ h => h) (.inl ⟨by rfl, by intro w hw; go_simp⟩) s0 ?_
      try simp only [Act.put, List.getElem_toArray, List.getElem_cons_zero, List.getElem_cons_succ, List.setIfInBounds_toArray, List.set_cons_zero, List.set_cons_succ]
      refine wpAnyH_take (i := 37) (v := .bool false) rfl (by kernel_rfl) (by kernel_rfl) (by kernel_rfl) (fun _ _ _ h => h) (.inl ⟨by rfl, by intro w hw; go_simp⟩) s0 ?_
      try simp only [Act.put, List.getElem_toArray, List.getElem_cons_zero, List.getElem_cons_succ, List.setIfInBounds_toArray, List.set_cons_zero, List.set_cons_succ]
      refine wpAnyH_take (i := 38) (v := .pointer (some ⟨X, 0, none⟩)) rfl (by kernel_rfl) (by kernel_rfl) (by kernel_rfl) (fun _ _ _ h => h) (.inl ⟨by rfl, by intro w hw; go_simp⟩) s0 ?_
      try simp only [Act.put, List.getElem_toArray, List.getElem_cons_zero, List.getElem_cons_succ, List.setIfInBounds_toArray, List.set_cons_zero, List.set_cons_succ]
      refine wpAnyH_take (i := 40) (v := .pointer (some ⟨Y, 0, none⟩)) rfl (by kernel_rfl) (by kernel_rfl) (by kernel_rfl) (fun _ _ _ h => h) (.inl ⟨by rfl, by intro w hw; go_simp⟩) s0 ?_
      try simp only [Act.put, List.getElem_toArray, List.getElem_cons_zero, List.getElem_cons_succ, List.setIfInBounds_toArray, List.set_cons_zero, List.set_cons_succ]
      refine wpAnyH_take (i := 41) (v := .pointer (some ⟨Y, 0, none⟩)) rfl (by kernel_rfl) (by kernel_rfl) (by kernel_rfl) (fun _ _ _ h => h) (.inl ⟨by rfl, by intro w hw; go_simp⟩) s0 ?_
      try simp only [Act.put, List.getElem_toArray, List.getElem_cons_zero, List.getElem_cons_succ, List.setIfInBounds_toArray, List.set_cons_zero, List.set_cons_succ]
      refine wpAnyH_take (i := 42) (v := .pointer (some ⟨Y, 0, none⟩)) rfl (by kernel_rfl) (by kernel_rfl) (by kernel_rfl) (fun _ _ _ h => h) (.inl ⟨by rfl, by intro w hw; go_simp⟩) s0 ?_
      try simp only [Act.put, List.getElem_toArray, List.getElem_cons_zero, List.getElem_cons_succ, List.setIfInBounds_toArray, List.set_cons_zero, List.set_cons_succ]
      refine wpAnyH_take (i := 43) (v := .slice ak e.kept.length ck) rfl (by kernel_rfl) (by kernel_rfl) (by kernel_rfl) (fun _ _ _ h => h) (.inl ⟨by rfl, by intro w hw; have h := hSS.out w hw; obtain ⟨q0, q1, q2, q4, q5⟩ := h; go_simp⟩) s0 ?_
      try simp only [Act.put, List.getElem_toArray, List.getElem_cons_zero, List.getElem_cons_succ, List.setIfInBounds_toArray, List.set_cons_zero, List.set_cons_succ]
      refine wpAnyH_take (i := 44) (v := .int .i64 (e.kept.length : Int)) rfl (by kernel_rfl) (by kernel_rfl) (by kernel_rfl) (fun _ _ _ h => h) (.inl ⟨by rfl, by intro w hw; go_simp⟩) s0 ?_
      try simp only [Act.put, List.getElem_toArray, List.getElem_cons_zero, List.getElem_cons_succ, List.setIfInBounds_toArray, List.set_cons_zero, List.set_cons_succ]
      refine wpAnyH_one (i := 39) (by kernel_rfl) rfl (by rfl) (fun Kc hK => ?_)
      go_simp
      refine (sectors_any DXd.out).mono ?_
      rintro en wz ⟨rfl, rfl⟩
      go_simp
      refine hK _ _ s0 ?_
      clear hK Kc
      try simp only [Act.put, List.getElem_toArray, List.getElem_cons_zero, List.getElem_cons_succ, List.setIfInBounds_toArray, List.set_cons_zero, List.set_cons_succ]
      refine wpAnyH_take (i := 45) (v := .bool false) rfl (by kernel_rfl) (by kernel_rfl) (by kernel_rfl) (fun _ _ _ h => h) (.inl ⟨by rfl, by intro w hw; go_simp⟩) s0 ?_
      try simp only [Act.put, List.getElem_toArray, List.getElem_cons_zero, List.getElem_cons_succ, List.setIfInBounds_toArray, List.set_cons_zero, List.set_cons_succ]
      refine wpAnyH_take (i := 46) (v := .bool false) rfl (by kernel_rfl) (by kernel_rfl) (by kernel_rfl) (fun _ _ _ h => h) (.inl ⟨by rfl, by intro w hw; go_simp⟩) s0 ?_
      try simp only [Act.put, List.getElem_toArray, List.getElem_cons_zero, List.getElem_cons_succ, List.setIfInBounds_toArray, List.set_cons_zero, List.set_cons_succ]
      refine wpAnyH_done (by kernel_rfl) ?_ _
      clear s0 hSS S DXd VB
      have P6 := Lib.hid (P5.out.below (Below.refl _ w5).drew)
      have DX6 := Lib.hid (DX.out.below (Below.refl _ w5).drew)
      have EX6 := Lib.hid (EX.out.below (Below.refl _ w5).drew)
      clear P5 DX EX DD4 EE4 P4 b5
      generalize w5.drew = w6 at P6 DX6 EX6
      have cy6 : w6.cell? ⟨g, off + i * 3 + 1, none⟩ = some (.int .i64 t.y) := by
        obtain ⟨g', off', e', _, _, k1, _⟩ := (HR.out.below P6.out.bl) i hlt
        cases e'
        rw [ht] at k1; exact k1
      go_wp2_with fail
      refine (read_any DX6.out t.y hp).mono ?_
      rintro en w7 ⟨b7, v7, rfl, s7⟩
      have cy7 : w7.cell? ⟨g, off + i * 3 + 1, none⟩ = some (.int .i64 t.y) := by
        obtain ⟨g', off', e', _, _, k1, _⟩ := (HR.out.below (P6.out.below b7).bl) i hlt
        cases e'
        rw [ht] at k1; exact k1
      have s7' := Lib.hid s7
      obtain ⟨a7, c7, rfl, n7, r7⟩ := sec_text s7
      go_wp2_with fail
      refine (rread_any (EX6.out.below b7) t.y hp).mono ?_
      rintro en w8 ⟨b8, v8, rfl, s8⟩
      have C7 : (convert 22 9 (.slice a7 (e.read t.y).1.length c7)).run Try.prog w8 = .ok (.string ⟨(e.read t.y).1.toArray⟩) w8 := conv_str _ a7 c7 _ n7 (r7.below b8)
      have C8 : (convert 22 9 v8).run Try.prog w8 = .ok (.string ⟨(e.read t.y).1.toArray⟩) w8 := conv_bs s8
      generalize e.read t.y = rr at C7 C8 s7' r7 n7 ⊢
      have BB := Lib.hid (b7.trans (b8.mono b7.size))
      clear b7 s8 cy7 cy6 r7 s7
      obtain ⟨nn, hnn⟩ : ∃ nn, rr.1.length = nn := ⟨_, rfl⟩
      have s7h := s7'.out
      rw [hnn] at C7 s7h
      rw [hnn]
      rcases s7h with ⟨hv, hnil⟩ | ⟨G, hv, hl32, hge, hGl, _, hth⟩
      · have h0 : nn = 0 := by rw [← hnn, hnil]; rfl
        subst h0
        clear hnn hnil hv
        have P8 := Lib.hid (P6.out.below BB.out)
        go_wp2_with fail
        go_loopw [16] (fun jv wr => jv = .int .i64 0 ∧ wr = w8) (fun _ _ => 0)
        case atStart => exact ⟨rfl, rfl⟩
        case round =>
          obtain ⟨rfl, rfl⟩ := hrel
          go_wp2_with fail
          go_roundw
          case rel => exact ⟨i + 1, e, rfl, by omega, HS4.out, P8.out⟩
          case measure => simp only [intOf]; omega
      · simp only [Value.slice.injEq] at hv
        obtain ⟨rfl, _, rfl⟩ := hv
        have TH8 : w8.there G 0 32 := fun j hj => by
          obtain ⟨h1, h2⟩ := hth j hj
          exact ⟨by rw [b8.cell (p := ⟨G, 0 + j, none⟩) hGl]; exact h1, by rw [World.frozen?_of_block (b8.block G hGl)]; exact h2⟩
        have h32 : nn = 32 := by rw [← hnn]; exact hl32
        subst h32
        have TH := Lib.hid TH8
        have HGE := Lib.hid hge
        clear TH8 hth b8 hge n7 hnn hl32
        go_wp2_with fail
        go_loopw [16] (fun jv wr => ∃ j : Nat, jv = .int .i64 j ∧ j ≤ 32 ∧ Frm (fun k => k = G) w8 wr ∧ wr.there G 0 32) (fun jv _ => 32 - (intOf jv).toNat)
        case atStart => exact ⟨0, rfl, Nat.zero_le _, Frm.refl _ _, TH.out⟩
        case round =>
          obtain ⟨j, rfl, hj, hf, hth⟩ := hrel
          by_cases hjn : j < 32
          · have hj0 : (0 : Int) ≤ (j : Int) := by omega
            have hji : (j : Int) < 32 := by omega
            obtain ⟨h1, h2⟩ := hth j (by omega)
            rw [Nat.zero_add] at h1 h2
            obtain ⟨vv, h1⟩ := Option.isSome_iff_exists.1 h1
            have NX : Hid (Frm (fun k => k = G) w8 (wr.setCell ⟨G, j, none⟩ (.int .u8 9)) ∧ (wr.setCell ⟨G, j, none⟩ (.int .u8 9)).there G 0 32) := ⟨hf.trans (Frm.setCell (F := fun k => k = G) wr j _ rfl) (fun k hk => .inl hk), World.there_setCells hth G j [.int .u8 9]⟩
            clear hf hth
            go_wp2_with fail
            go_roundw
            case rel => exact ⟨j + 1, rfl, by omega, NX.out⟩
            case measure => simp only [intOf]; omega
          · have hji : ¬ (j : Int) < 32 := by omega
            have P8 := Lib.hid (P6.out.frm HGE.out BB.out hf)
            clear hf hth
            go_wp2_with fail
            go_roundw
            case rel => exact ⟨i + 1, e, rfl, by omega, HS4.out, P8.out⟩
            case measure => simp only [intOf]; omega
    · have hii : ¬ (i : Int) < (l.length : Int) := by omega
      go_wp2
      go_ret
      exact ⟨rfl, PR.out.bl⟩
end Go.Proofs.Ytopemjbakpahfaa

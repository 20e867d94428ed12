/-
  Contracts and plain laws, part 49 (texts: R9, Q1). No condition but what each states.
-/
import Derived.Test.YtopemjbakpahfaaSlotsPlaysE
/-
  The reference's Open for any size; two stores compared: same. No condition.
-/
namespace Go.Proofs.Ytopemjbakpahfaa
open Go.RowKit Disk Jour Crc Slot
set_option linter.unusedSimpArgs false
set_option linter.unusedVariables false
set_option maxRecDepth 100000 in
set_option maxHeartbeats 2000000 in
theorem ropen_low {F : Nat → Prop} {w : World} {B : Nat} {d : Dev} (hd : IsRef F w B d) (size : Int) (c1 : size < 1) : Calls Try.prog 78 #[.pointer (some ⟨B, 0, none⟩), .int .i64 size] w (ROpenOf w B (sopen d size)) := by
  rw [sopen_arg (.inl c1)]
  have FN : Hid (ROpenOf w B (none, 1) (.returned (.tuple #[.pointer none, .int .i64 1])) w) := ROpenOf.none 1 rfl (Below.refl _ _) rfl
  go_enter Try.func78, Try.ntmps78
  go_wp2_with fail
  refine bodyPost_ret (v := .tuple #[.pointer none, .int .i64 1]) (by simp [results, Try.results78, go_sem]) rfl ?_
  exact FN.out
theorem ropen_all {F : Nat → Prop} {w : World} {B : Nat} {d : Dev} (hd : IsRef F w B d) (hK : d.kept.length ≤ 1024) (hp : d.pend.length ≤ 100000) (size : Int) : Calls Try.prog 78 #[.pointer (some ⟨B, 0, none⟩), .int .i64 size] w (ROpenOf w B (sopen d size)) := by
  by_cases h : size < 1
  · exact ropen_low hd size h
  · exact ropen_any hd hK hp size (by omega)
set_option maxRecDepth 100000 in
set_option maxHeartbeats 16000000 in
theorem ssame_any {G G2 : Nat → Prop} {w : World} {S B S2 B2 : Nat} {s : St} (hx : IsSt G w S B s) (hy : IsSr G2 w S2 B2 s) :
    Calls Try.prog 82 #[.pointer (some ⟨S, 0, none⟩), .pointer (some ⟨S2, 0, none⟩)] w fun en w' => en = .returned (.bool true) ∧ Below w.heap.size w w' := by
  have CP : Hid (∀ W, Below w.heap.size w W → Calls Try.prog 72 #[.pointer (some ⟨S, 0, none⟩)] W (Cloned s.check W)) := fun W hb => checkpoint_any (hx.below hb)
  have RC : Hid (∀ W, Below w.heap.size w W → Calls Try.prog 73 #[.pointer (some ⟨S, 0, none⟩)] W fun en w' => Below W.heap.size W w' ∧ ∃ v, en = .returned v ∧ RowsOf w' W.heap.size v s.recs) := fun W hb => records_any (hx.below hb)
  have RM : Hid (∀ W, Below w.heap.size w W → Calls Try.prog 76 #[.pointer (some ⟨S, 0, none⟩)] W fun en w' => en = .returned (.int .i64 s.room) ∧ Below W.heap.size W w') := fun W hb => sroom_any (hx.below hb)
  have RY : Hid (∀ W, Below w.heap.size w W → Calls Try.prog 99 #[.pointer (some ⟨S2, 0, none⟩)] W fun en w' => en = .returned (.int .i64 s.room) ∧ Below W.heap.size W w') := fun W hb => rroom_any (hy.below hb)
  have TN : Hid (∀ W, Below w.heap.size w W → Calls Try.prog 74 #[.pointer (some ⟨S, 0, none⟩)] W fun en w' => en = .returned (.int .i64 (s.h.turn : Int)) ∧ W = w') := fun W hb => turn_any (hx.below hb)
  have BR : Hid (∀ W, Below w.heap.size w W → Calls Try.prog 75 #[.pointer (some ⟨S, 0, none⟩)] W fun en w' => en = .returned (.bool s.broken) ∧ W = w') := fun W hb => broken_any (hx.below hb)
  obtain ⟨A0, A1, AL, vc, vr, V⟩ := hy
  have hrl : (s.recs.length : Int) ≤ 9223372036854775807 := by have := V.ok.rl; have := V.ok.used; have := V.ok.k; omega
  obtain ⟨ac, cc, rfl, hlc, hnc, hrc⟩ := RB.of_owns V.check.1
  obtain ⟨ar, cr, rfl, hlr, hnr, hrr⟩ := V.recs.rr
  obtain ⟨S0, hS0⟩ : ∃ S0 : World → Prop, S0 = fun w' => Below w.heap.size w w' := ⟨_, rfl⟩
  have SB : Hid (∀ W, Below w.heap.size w W → S0 W) := fun W hb => by rw [hS0]; exact hb
  have hSS : Hid (∀ w', S0 w' → w'.cell? ⟨S2, 7, none⟩ = some (.int .i64 (s.h.turn : Int)) ∧ w'.cell? ⟨S2, 8, none⟩ = some (.slice ac s.check.length cc) ∧ w'.cell? ⟨S2, 9, none⟩ = some (.slice ar s.recs.length cr) ∧ w'.cell? ⟨S2, 10, none⟩ = some (.bool s.broken)) := fun w' hh => by
    rw [hS0] at hh
    have hb := (V.below hh).blk
    exact ⟨Joins.cell_of_block hb 7, Joins.cell_of_block hb 8, Joins.cell_of_block hb 9, Joins.cell_of_block hb 10⟩
  have hCV : Hid (∀ w', S0 w' → (convert 22 9 (.slice ac s.check.length cc)).run Try.prog w' = .ok (strV s.check) w') := fun w' hh => by
    rw [hS0] at hh
    exact conv_str w' ac cc s.check (fun e => by have := hnc e; omega) (hrc.below hh)
  have RR2 := Lib.hid hrr
  have s0 : S0 w.drew := SB.out _ (Below.refl _ w).drew
  have hEQ : ∀ w', (binOp .eql 9 (strV s.check) (strV s.check)).run Try.prog w' = .ok (.bool true) w' := fun w' => by rw [run_eql_str]; simp
  have B0 : Hid (Below w.heap.size w w.drew) := (Below.refl _ w).drew
  generalize hroom : s.room = room at RM RY
  generalize hturn : (s.h.turn : Int) = turn at TN hSS
  generalize hbrk : s.broken = brk at BR hSS
  clear V hrc hrr hS0 hx hroom hturn hbrk
  go_enter Try.func82, Try.ntmps82
  go_wp2_with fail
  refine wp_region_held (S := S0) (by kernel_rfl) ?_
  change wpAnyH _ _ _ _ _ _ _ _ (World.drew _)
  refine wpAnyH_take (i := 0) (v := .pointer (some ⟨S, 0, none⟩)) rfl (by kernel_rfl) (by kernel_rfl) (by kernel_rfl) (fun _ _ _ h => h) (.inl ⟨by rfl, by intro w hw; go_simp⟩) s0 ?_
  try simp only [Act.put, List.getElem_toArray, List.getElem_cons_zero, List.getElem_cons_succ, List.setIfInBounds_toArray, List.set_cons_zero, List.set_cons_succ]
  refine wpAnyH_take (i := 3) (v := .pointer (some ⟨S2, 0, none⟩)) rfl (by kernel_rfl) (by kernel_rfl) (by kernel_rfl) (fun _ _ _ h => h) (.inl ⟨by rfl, by intro w hw; go_simp⟩) s0 ?_
  try simp only [Act.put, List.getElem_toArray, List.getElem_cons_zero, List.getElem_cons_succ, List.setIfInBounds_toArray, List.set_cons_zero, List.set_cons_succ]
  refine wpAnyH_take (i := 4) (v := .pointer (some ⟨S2, 0, none⟩)) rfl (by kernel_rfl) (by kernel_rfl) (by kernel_rfl) (fun _ _ _ h => h) (.inl ⟨by rfl, by intro w hw; go_simp⟩) s0 ?_
  try simp only [Act.put, List.getElem_toArray, List.getElem_cons_zero, List.getElem_cons_succ, List.setIfInBounds_toArray, List.set_cons_zero, List.set_cons_succ]
  refine wpAnyH_take (i := 5) (v := .pointer (some ⟨S2, 8, none⟩)) rfl (by kernel_rfl) (by kernel_rfl) (by kernel_rfl) (fun _ _ _ h => h) (.inl ⟨by rfl, by intro w hw; go_simp⟩) s0 ?_
  try simp only [Act.put, List.getElem_toArray, List.getElem_cons_zero, List.getElem_cons_succ, List.setIfInBounds_toArray, List.set_cons_zero, List.set_cons_succ]
  refine wpAnyH_take (i := 6) (v := .slice ac s.check.length cc) rfl (by kernel_rfl) (by kernel_rfl) (by kernel_rfl) (fun _ _ _ h => h) (.inl ⟨by rfl, by intro w hw; have h := hSS.out w hw; obtain ⟨q0, q1, q2, q3⟩ := h; go_simp⟩) s0 ?_
  try simp only [Act.put, List.getElem_toArray, List.getElem_cons_zero, List.getElem_cons_succ, List.setIfInBounds_toArray, List.set_cons_zero, List.set_cons_succ]
  refine wpAnyH_take (i := 7) (v := strV s.check) rfl (by kernel_rfl) (by kernel_rfl) (by kernel_rfl) (fun _ _ _ h => h) (.inl ⟨by rfl, by intro w hw; have h := hCV.out w hw; go_simp; try exact h⟩) s0 ?_
  try simp only [Act.put, List.getElem_toArray, List.getElem_cons_zero, List.getElem_cons_succ, List.setIfInBounds_toArray, List.set_cons_zero, List.set_cons_succ]
  refine wpAnyH_one (i := 1) (by kernel_rfl) rfl (by rfl) (fun Kc hK => ?_)
  go_simp
  refine ((CP.out _ B0.out).mono ?_)
  rintro en w1 ⟨v1, rfl, o1, b1⟩
  have C1 := Lib.hid (conv_bs o1)
  have B1 : Hid (Below w.heap.size w w1) := B0.out.trans (b1.mono B0.out.size)
  obtain ⟨a1, c1, rfl, _⟩ := RB.of_owns o1
  have s1 := SB.out _ B1.out
  clear b1 o1 B0 CP
  go_simp
  refine hK _ _ s1 ?_
  clear hK Kc
  try simp only [Act.put, List.getElem_toArray, List.getElem_cons_zero, List.getElem_cons_succ, List.setIfInBounds_toArray, List.set_cons_zero, List.set_cons_succ]
  refine wpAnyH_one (i := 2) (by kernel_rfl) rfl (by rfl) (fun Kc hK => ?_)
  have h := C1.out
  go_simp
  clear h C1
  refine hK _ _ s1 ?_
  clear hK Kc
  try simp only [Act.put, List.getElem_toArray, List.getElem_cons_zero, List.getElem_cons_succ, List.setIfInBounds_toArray, List.set_cons_zero, List.set_cons_succ]
  refine wpAnyH_take (i := 8) (v := .bool true) rfl (by kernel_rfl) (by kernel_rfl) (by kernel_rfl) (fun _ _ _ h => h) (.inl ⟨by rfl, by intro w hw; have h := hEQ w; go_simp; first | done | exact h | simp [h]⟩) s1 ?_
  try simp only [Act.put, List.getElem_toArray, List.getElem_cons_zero, List.getElem_cons_succ, List.setIfInBounds_toArray, List.set_cons_zero, List.set_cons_succ]
  refine wpAnyH_take (i := 9) (v := .bool true) rfl (by kernel_rfl) (by kernel_rfl) (by kernel_rfl) (fun _ _ _ h => h) (.inl ⟨by rfl, by intro w hw; go_simp⟩) s1 ?_
  try simp only [Act.put, List.getElem_toArray, List.getElem_cons_zero, List.getElem_cons_succ, List.setIfInBounds_toArray, List.set_cons_zero, List.set_cons_succ]
  refine wpAnyH_take (i := 10) (v := .pointer (some ⟨S, 0, none⟩)) rfl (by kernel_rfl) (by kernel_rfl) (by kernel_rfl) (fun _ _ _ h => h) (.inl ⟨by rfl, by intro w hw; go_simp⟩) s1 ?_
  try simp only [Act.put, List.getElem_toArray, List.getElem_cons_zero, List.getElem_cons_succ, List.setIfInBounds_toArray, List.set_cons_zero, List.set_cons_succ]
  refine wpAnyH_take (i := 12) (v := .pointer (some ⟨S2, 0, none⟩)) rfl (by kernel_rfl) (by kernel_rfl) (by kernel_rfl) (fun _ _ _ h => h) (.inl ⟨by rfl, by intro w hw; go_simp⟩) s1 ?_
  try simp only [Act.put, List.getElem_toArray, List.getElem_cons_zero, List.getElem_cons_succ, List.setIfInBounds_toArray, List.set_cons_zero, List.set_cons_succ]
  refine wpAnyH_take (i := 13) (v := .pointer (some ⟨S2, 0, none⟩)) rfl (by kernel_rfl) (by kernel_rfl) (by kernel_rfl) (fun _ _ _ h => h) (.inl ⟨by rfl, by intro w hw; go_simp⟩) s1 ?_
  try simp only [Act.put, List.getElem_toArray, List.getElem_cons_zero, List.getElem_cons_succ, List.setIfInBounds_toArray, List.set_cons_zero, List.set_cons_succ]
  refine wpAnyH_take (i := 14) (v := .pointer (some ⟨S2, 9, none⟩)) rfl (by kernel_rfl) (by kernel_rfl) (by kernel_rfl) (fun _ _ _ h => h) (.inl ⟨by rfl, by intro w hw; go_simp⟩) s1 ?_
  try simp only [Act.put, List.getElem_toArray, List.getElem_cons_zero, List.getElem_cons_succ, List.setIfInBounds_toArray, List.set_cons_zero, List.set_cons_succ]
  refine wpAnyH_take (i := 15) (v := .slice ar s.recs.length cr) rfl (by kernel_rfl) (by kernel_rfl) (by kernel_rfl) (fun _ _ _ h => h) (.inl ⟨by rfl, by intro w hw; have h := hSS.out w hw; obtain ⟨q0, q1, q2, q3⟩ := h; go_simp⟩) s1 ?_
  try simp only [Act.put, List.getElem_toArray, List.getElem_cons_zero, List.getElem_cons_succ, List.setIfInBounds_toArray, List.set_cons_zero, List.set_cons_succ]
  refine wpAnyH_one (i := 11) (by kernel_rfl) rfl (by rfl) (fun Kc hK => ?_)
  go_simp
  refine ((RC.out _ B1.out).mono ?_)
  rintro en w2 ⟨b2, v2, rfl, o2⟩
  obtain ⟨a2, c2, rfl, _, _, r2⟩ := RR.of_rows o2
  have B2 : Hid (Below w.heap.size w w2) := B1.out.trans (b2.mono B1.out.size)
  have R2 := Lib.hid (rows_any s.recs s.recs a2 ar c2 cr w2 hrl r2 (RR2.out.below B2.out))
  have s2 := SB.out _ B2.out
  clear b2 o2 r2 B1 RC
  go_simp
  refine hK _ _ s2 ?_
  clear hK Kc
  try simp only [Act.put, List.getElem_toArray, List.getElem_cons_zero, List.getElem_cons_succ, List.setIfInBounds_toArray, List.set_cons_zero, List.set_cons_succ]
  refine wpAnyH_one (i := 16) (by kernel_rfl) rfl (by rfl) (fun Kc hK => ?_)
  go_simp
  refine (R2.out.mono ?_)
  rintro en w3 ⟨rfl, b3⟩
  have B3 : Hid (Below w.heap.size w w3) := B2.out.trans (b3.mono B2.out.size)
  have s3 := SB.out _ B3.out
  clear b3 B2 R2
  rw [decide_eq_true (rfl : s.recs = s.recs)]
  go_simp
  refine hK _ _ s3 ?_
  clear hK Kc
  try simp only [Act.put, List.getElem_toArray, List.getElem_cons_zero, List.getElem_cons_succ, List.setIfInBounds_toArray, List.set_cons_zero, List.set_cons_succ]
  refine wpAnyH_take (i := 17) (v := .bool true) rfl (by kernel_rfl) (by kernel_rfl) (by kernel_rfl) (fun _ _ _ h => h) (.inl ⟨by rfl, by intro w hw; go_simp⟩) s3 ?_
  try simp only [Act.put, List.getElem_toArray, List.getElem_cons_zero, List.getElem_cons_succ, List.setIfInBounds_toArray, List.set_cons_zero, List.set_cons_succ]
  refine wpAnyH_take (i := 18) (v := .bool true) rfl (by kernel_rfl) (by kernel_rfl) (by kernel_rfl) (fun _ _ _ h => h) (.inl ⟨by rfl, by intro w hw; go_simp⟩) s3 ?_
  try simp only [Act.put, List.getElem_toArray, List.getElem_cons_zero, List.getElem_cons_succ, List.setIfInBounds_toArray, List.set_cons_zero, List.set_cons_succ]
  refine wpAnyH_take (i := 19) (v := .pointer (some ⟨S, 0, none⟩)) rfl (by kernel_rfl) (by kernel_rfl) (by kernel_rfl) (fun _ _ _ h => h) (.inl ⟨by rfl, by intro w hw; go_simp⟩) s3 ?_
  try simp only [Act.put, List.getElem_toArray, List.getElem_cons_zero, List.getElem_cons_succ, List.setIfInBounds_toArray, List.set_cons_zero, List.set_cons_succ]
  refine wpAnyH_take (i := 21) (v := .pointer (some ⟨S2, 0, none⟩)) rfl (by kernel_rfl) (by kernel_rfl) (by kernel_rfl) (fun _ _ _ h => h) (.inl ⟨by rfl, by intro w hw; go_simp⟩) s3 ?_
  try simp only [Act.put, List.getElem_toArray, List.getElem_cons_zero, List.getElem_cons_succ, List.setIfInBounds_toArray, List.set_cons_zero, List.set_cons_succ]
  refine wpAnyH_one (i := 20) (by kernel_rfl) rfl (by rfl) (fun Kc hK => ?_)
  go_simp
  refine ((RM.out _ B3.out).mono ?_)
  rintro en w4 ⟨rfl, b4⟩
  have B4 : Hid (Below w.heap.size w w4) := B3.out.trans (b4.mono B3.out.size)
  have s4 := SB.out _ B4.out
  clear b4 B3 RM
  go_simp
  refine hK _ _ s4 ?_
  clear hK Kc
  try simp only [Act.put, List.getElem_toArray, List.getElem_cons_zero, List.getElem_cons_succ, List.setIfInBounds_toArray, List.set_cons_zero, List.set_cons_succ]
  refine wpAnyH_one (i := 22) (by kernel_rfl) rfl (by rfl) (fun Kc hK => ?_)
  go_simp
  refine ((RY.out _ B4.out).mono ?_)
  rintro en w5 ⟨rfl, b5⟩
  have B5 : Hid (Below w.heap.size w w5) := B4.out.trans (b5.mono B4.out.size)
  have s5 := SB.out _ B5.out
  clear b5 B4 RY
  go_simp
  refine hK _ _ s5 ?_
  clear hK Kc
  try simp only [Act.put, List.getElem_toArray, List.getElem_cons_zero, List.getElem_cons_succ, List.setIfInBounds_toArray, List.set_cons_zero, List.set_cons_succ]
  refine wpAnyH_take (i := 23) (v := .bool true) rfl (by kernel_rfl) (by kernel_rfl) (by kernel_rfl) (fun _ _ _ h => h) (.inl ⟨by rfl, by intro w hw; go_simp⟩) s5 ?_
  try simp only [Act.put, List.getElem_toArray, List.getElem_cons_zero, List.getElem_cons_succ, List.setIfInBounds_toArray, List.set_cons_zero, List.set_cons_succ]
  refine wpAnyH_take (i := 24) (v := .bool true) rfl (by kernel_rfl) (by kernel_rfl) (by kernel_rfl) (fun _ _ _ h => h) (.inl ⟨by rfl, by intro w hw; go_simp⟩) s5 ?_
  try simp only [Act.put, List.getElem_toArray, List.getElem_cons_zero, List.getElem_cons_succ, List.setIfInBounds_toArray, List.set_cons_zero, List.set_cons_succ]
  refine wpAnyH_take (i := 25) (v := .bool true) rfl (by kernel_rfl) (by kernel_rfl) (by kernel_rfl) (fun _ _ _ h => h) (.inl ⟨by rfl, by intro w hw; go_simp⟩) s5 ?_
  try simp only [Act.put, List.getElem_toArray, List.getElem_cons_zero, List.getElem_cons_succ, List.setIfInBounds_toArray, List.set_cons_zero, List.set_cons_succ]
  refine wpAnyH_take (i := 26) (v := .pointer (some ⟨S, 0, none⟩)) rfl (by kernel_rfl) (by kernel_rfl) (by kernel_rfl) (fun _ _ _ h => h) (.inl ⟨by rfl, by intro w hw; go_simp⟩) s5 ?_
  try simp only [Act.put, List.getElem_toArray, List.getElem_cons_zero, List.getElem_cons_succ, List.setIfInBounds_toArray, List.set_cons_zero, List.set_cons_succ]
  refine wpAnyH_take (i := 28) (v := .pointer (some ⟨S2, 0, none⟩)) rfl (by kernel_rfl) (by kernel_rfl) (by kernel_rfl) (fun _ _ _ h => h) (.inl ⟨by rfl, by intro w hw; go_simp⟩) s5 ?_
  try simp only [Act.put, List.getElem_toArray, List.getElem_cons_zero, List.getElem_cons_succ, List.setIfInBounds_toArray, List.set_cons_zero, List.set_cons_succ]
  refine wpAnyH_take (i := 29) (v := .pointer (some ⟨S2, 0, none⟩)) rfl (by kernel_rfl) (by kernel_rfl) (by kernel_rfl) (fun _ _ _ h => h) (.inl ⟨by rfl, by intro w hw; go_simp⟩) s5 ?_
  try simp only [Act.put, List.getElem_toArray, List.getElem_cons_zero, List.getElem_cons_succ, List.setIfInBounds_toArray, List.set_cons_zero, List.set_cons_succ]
  refine wpAnyH_take (i := 30) (v := .pointer (some ⟨S2, 7, none⟩)) rfl (by kernel_rfl) (by kernel_rfl) (by kernel_rfl) (fun _ _ _ h => h) (.inl ⟨by rfl, by intro w hw; go_simp⟩) s5 ?_
  try simp only [Act.put, List.getElem_toArray, List.getElem_cons_zero, List.getElem_cons_succ, List.setIfInBounds_toArray, List.set_cons_zero, List.set_cons_succ]
  refine wpAnyH_take (i := 31) (v := .int .i64 turn) rfl (by kernel_rfl) (by kernel_rfl) (by kernel_rfl) (fun _ _ _ h => h) (.inl ⟨by rfl, by intro w hw; have h := hSS.out w hw; obtain ⟨q0, q1, q2, q3⟩ := h; go_simp⟩) s5 ?_
  try simp only [Act.put, List.getElem_toArray, List.getElem_cons_zero, List.getElem_cons_succ, List.setIfInBounds_toArray, List.set_cons_zero, List.set_cons_succ]
  refine wpAnyH_one (i := 27) (by kernel_rfl) rfl (by rfl) (fun Kc hK => ?_)
  go_simp
  refine ((TN.out _ B5.out).mono ?_)
  rintro en wz ⟨rfl, rfl⟩
  clear TN
  go_simp
  refine hK _ _ s5 ?_
  clear hK Kc
  try simp only [Act.put, List.getElem_toArray, List.getElem_cons_zero, List.getElem_cons_succ, List.setIfInBounds_toArray, List.set_cons_zero, List.set_cons_succ]
  refine wpAnyH_take (i := 32) (v := .bool true) rfl (by kernel_rfl) (by kernel_rfl) (by kernel_rfl) (fun _ _ _ h => h) (.inl ⟨by rfl, by intro w hw; go_simp⟩) s5 ?_
  try simp only [Act.put, List.getElem_toArray, List.getElem_cons_zero, List.getElem_cons_succ, List.setIfInBounds_toArray, List.set_cons_zero, List.set_cons_succ]
  refine wpAnyH_take (i := 33) (v := .bool true) rfl (by kernel_rfl) (by kernel_rfl) (by kernel_rfl) (fun _ _ _ h => h) (.inl ⟨by rfl, by intro w hw; go_simp⟩) s5 ?_
  try simp only [Act.put, List.getElem_toArray, List.getElem_cons_zero, List.getElem_cons_succ, List.setIfInBounds_toArray, List.set_cons_zero, List.set_cons_succ]
  refine wpAnyH_take (i := 34) (v := .bool true) rfl (by kernel_rfl) (by kernel_rfl) (by kernel_rfl) (fun _ _ _ h => h) (.inl ⟨by rfl, by intro w hw; go_simp⟩) s5 ?_
  try simp only [Act.put, List.getElem_toArray, List.getElem_cons_zero, List.getElem_cons_succ, List.setIfInBounds_toArray, List.set_cons_zero, List.set_cons_succ]
  refine wpAnyH_take (i := 35) (v := .pointer (some ⟨S, 0, none⟩)) rfl (by kernel_rfl) (by kernel_rfl) (by kernel_rfl) (fun _ _ _ h => h) (.inl ⟨by rfl, by intro w hw; go_simp⟩) s5 ?_
  try simp only [Act.put, List.getElem_toArray, List.getElem_cons_zero, List.getElem_cons_succ, List.setIfInBounds_toArray, List.set_cons_zero, List.set_cons_succ]
  refine wpAnyH_take (i := 37) (v := .pointer (some ⟨S2, 0, none⟩)) rfl (by kernel_rfl) (by kernel_rfl) (by kernel_rfl) (fun _ _ _ h => h) (.inl ⟨by rfl, by intro w hw; go_simp⟩) s5 ?_
  try simp only [Act.put, List.getElem_toArray, List.getElem_cons_zero, List.getElem_cons_succ, List.setIfInBounds_toArray, List.set_cons_zero, List.set_cons_succ]
  refine wpAnyH_take (i := 38) (v := .pointer (some ⟨S2, 0, none⟩)) rfl (by kernel_rfl) (by kernel_rfl) (by kernel_rfl) (fun _ _ _ h => h) (.inl ⟨by rfl, by intro w hw; go_simp⟩) s5 ?_
  try simp only [Act.put, List.getElem_toArray, List.getElem_cons_zero, List.getElem_cons_succ, List.setIfInBounds_toArray, List.set_cons_zero, List.set_cons_succ]
  refine wpAnyH_take (i := 39) (v := .pointer (some ⟨S2, 10, none⟩)) rfl (by kernel_rfl) (by kernel_rfl) (by kernel_rfl) (fun _ _ _ h => h) (.inl ⟨by rfl, by intro w hw; go_simp⟩) s5 ?_
  try simp only [Act.put, List.getElem_toArray, List.getElem_cons_zero, List.getElem_cons_succ, List.setIfInBounds_toArray, List.set_cons_zero, List.set_cons_succ]
  refine wpAnyH_take (i := 40) (v := .bool brk) rfl (by kernel_rfl) (by kernel_rfl) (by kernel_rfl) (fun _ _ _ h => h) (.inl ⟨by rfl, by intro w hw; have h := hSS.out w hw; obtain ⟨q0, q1, q2, q3⟩ := h; go_simp⟩) s5 ?_
  try simp only [Act.put, List.getElem_toArray, List.getElem_cons_zero, List.getElem_cons_succ, List.setIfInBounds_toArray, List.set_cons_zero, List.set_cons_succ]
  refine wpAnyH_one (i := 36) (by kernel_rfl) rfl (by rfl) (fun Kc hK => ?_)
  go_simp
  refine ((BR.out _ B5.out).mono ?_)
  rintro en wz ⟨rfl, rfl⟩
  clear BR
  go_simp
  refine hK _ _ s5 ?_
  clear hK Kc
  try simp only [Act.put, List.getElem_toArray, List.getElem_cons_zero, List.getElem_cons_succ, List.setIfInBounds_toArray, List.set_cons_zero, List.set_cons_succ]
  refine wpAnyH_take (i := 41) (v := .bool true) rfl (by kernel_rfl) (by kernel_rfl) (by kernel_rfl) (fun _ _ _ h => h) (.inl ⟨by rfl, by intro w hw; go_simp⟩) s5 ?_
  try simp only [Act.put, List.getElem_toArray, List.getElem_cons_zero, List.getElem_cons_succ, List.setIfInBounds_toArray, List.set_cons_zero, List.set_cons_succ]
  refine wpAnyH_take (i := 42) (v := .bool true) rfl (by kernel_rfl) (by kernel_rfl) (by kernel_rfl) (fun _ _ _ h => h) (.inl ⟨by rfl, by intro w hw; go_simp⟩) s5 ?_
  try simp only [Act.put, List.getElem_toArray, List.getElem_cons_zero, List.getElem_cons_succ, List.setIfInBounds_toArray, List.set_cons_zero, List.set_cons_succ]
  refine wpAnyH_take (i := 43) (v := .bool true) rfl (by kernel_rfl) (by kernel_rfl) (by kernel_rfl) (fun _ _ _ h => h) (.inl ⟨by rfl, by intro w hw; go_simp⟩) s5 ?_
  try simp only [Act.put, List.getElem_toArray, List.getElem_cons_zero, List.getElem_cons_succ, List.setIfInBounds_toArray, List.set_cons_zero, List.set_cons_succ]
  try simp only [Act.put]
  refine wpAnyH_done (by kernel_rfl) ?_ _
  clear hSS hCV SB
  go_wp2_with fail
  go_ret
  exact ⟨ret_bool rfl, B5.out⟩
end Go.Proofs.Ytopemjbakpahfaa
/-
  A store and the reference's store, on two devices that are alike, in blocks apart. No condition but that the numbers are small.
-/
namespace Go.Proofs.Ytopemjbakpahfaa
open Go.RowKit Disk Jour Crc Slot
set_option linter.unusedSimpArgs false
set_option linter.unusedVariables false
theorem ropen_is {w : World} {B : Nat} {r : Option St × Int} {en : Ending} {w' : World} {s : St} (h : ROpenOf w B r en w') (hr : r = (some s, 0)) : Below w.heap.size w w' ∧ ∃ S, en = .returned (.tuple #[.pointer (some ⟨S, 0, none⟩), .int .i64 0]) ∧ IsSr (fun k => w.heap.size ≤ k ∧ k < w'.heap.size) w' S B s := by
  subst hr
  obtain ⟨hb, ⟨h1, _⟩ | ⟨s', S, h1, h2, h3⟩⟩ := h
  · cases h1
  · cases h1; exact ⟨hb, S, h2, h3⟩
theorem ropen_no {w : World} {B : Nat} {r : Option St × Int} {en : Ending} {w' : World} {e : Int} (h : ROpenOf w B r en w') (hr : r = (none, e)) : Below w.heap.size w w' ∧ en = .returned (.tuple #[.pointer none, .int .i64 e]) := by
  subst hr
  obtain ⟨hb, ⟨h1, h2⟩ | ⟨s', S, h1, h2, h3⟩⟩ := h
  · exact ⟨hb, h2⟩
  · cases h1
/-- What is opened: none, with a number, or a store. -/
theorem open_split {w : World} {B : Nat} {r : Option St × Int} {en : Ending} {w' : World} (h : OpenOf w B r en w') : (∃ e, r = (none, e)) ∨ ∃ s, r = (some s, 0) := by
  obtain ⟨hb, ⟨h1, h2⟩ | ⟨s', S, h1, h2, h3⟩⟩ := h
  · obtain ⟨r1, r2⟩ := r; dsimp only at h1; subst h1; exact .inl ⟨r2, rfl⟩
  · exact .inr ⟨s', h1⟩
/-- Two devices, in blocks apart. -/
def Dvs (n0 : Nat) (w : World) (B : Nat) (d : Dev) (C : Nat) (d2 : Dev) : Prop :=
  n0 ≤ w.heap.size ∧ ∃ F H : Nat → Prop, IsDev F w B d ∧ IsRef H w C d2 ∧ (∀ k, F k → n0 ≤ k) ∧ (∀ k, H k → n0 ≤ k) ∧ ∀ k, F k → ¬ H k
/-- And a block beside them. -/
def DvsK (n0 : Nat) (w : World) (g : Nat) (O : Obj) (B : Nat) (d : Dev) (C : Nat) (d2 : Dev) : Prop :=
  n0 ≤ w.heap.size ∧ w.heap[g]? = some O ∧ ∃ F H : Nat → Prop, IsDev F w B d ∧ IsRef H w C d2 ∧ (∀ k, F k → n0 ≤ k) ∧ (∀ k, H k → n0 ≤ k) ∧ (∀ k, F k → ¬ H k) ∧ ¬ F g ∧ ¬ H g
theorem Dvs.start {n0 : Nat} {w1 w2 w3 : World} {B C : Nat} {d : Dev} (hs : n0 ≤ w1.heap.size) (b2 : Below w1.heap.size w1 w2) (h1 : IsDev (fun k => w1.heap.size ≤ k ∧ k < w2.heap.size) w2 B d) (b3 : Below w2.heap.size w2 w3) (h2 : IsRef (fun k => w2.heap.size ≤ k ∧ k < w3.heap.size) w3 C d) : Dvs n0 w3 B d C d := by
  have := b2.size; have := b3.size
  exact ⟨by omega, _, _, h1.below b3, h2, fun k hk => by omega, fun k hk => by omega, fun k h1 h2 => by omega⟩
theorem Dvs.below {n0 : Nat} {w w' : World} {B C : Nat} {d d2 : Dev} (h : Dvs n0 w B d C d2) (hb : Below w.heap.size w w') : Dvs n0 w' B d C d2 := by
  obtain ⟨hs, F, H, a, b, c, e, f⟩ := h
  exact ⟨Nat.le_trans hs hb.size, F, H, a.below hb, b.below hb, c, e, f⟩
theorem Dvs.alloc {n0 : Nat} {w : World} {B C : Nat} {d d2 : Dev} (h : Dvs n0 w B d C d2) (O : Obj) : DvsK n0 (w.alloc O) w.heap.size O B d C d2 := by
  obtain ⟨hs, F, H, a, b, c, e, f⟩ := h
  have hb := below_alloc w O
  exact ⟨Nat.le_trans hs hb.size, heap_alloc_new w O, F, H, a.below hb, b.below hb, c, e, f, fun h => Nat.lt_irrefl _ (a.lt _ h), fun h => Nat.lt_irrefl _ (b.lt _ h)⟩
theorem DvsK.dvs {n0 : Nat} {w : World} {g : Nat} {O : Obj} {B C : Nat} {d d2 : Dev} (h : DvsK n0 w g O B d C d2) : Dvs n0 w B d C d2 := by
  obtain ⟨hs, _, F, H, a, b, c, e, f, _, _⟩ := h
  exact ⟨hs, F, H, a, b, c, e, f⟩
theorem ri_pair {w : World} {g : Nat} {y z : Int} {t : TypeId} (h : w.heap[g]? = some (.cells #[.int .i64 y, .int .i64 z] t (0, 0))) : RI w (some ⟨g, 0, none⟩) [y, z] := by
  intro i hi
  refine ⟨g, 0, rfl, (Array.getElem?_eq_some_iff.1 h).1, ?_⟩
  rw [Nat.zero_add, cell_of_row _ _ i _ t (0, 0) h]
  have h3 : i < 2 := hi
  have : i = 0 ∨ i = 1 := by omega
  rcases this with rfl | rfl <;> rfl
theorem DvsK.restart1 {n0 : Nat} {w : World} {g : Nat} {y z : Int} {t : TypeId} {B C : Nat} {d d2 : Dev} (h : DvsK n0 w g (.cells #[.int .i64 y, .int .i64 z] t (0, 0)) B d C d2) (c : Nat) (hp : d.pend.length ≤ 100000) :
    Calls Try.prog 37 #[.pointer (some ⟨B, 0, none⟩), .slice (some ⟨g, 0, none⟩) 2 c] w (fun en w' => en = .returned (.int .i64 ((d.restart [y, z]).2 : Nat)) ∧ DvsK n0 w' g (.cells #[.int .i64 y, .int .i64 z] t (0, 0)) B (d.restart [y, z]).1 C d2 ∧ Below n0 w w') := by
  obtain ⟨hs, hg, F, H, a, b, c1, c2, c3, c4, c5⟩ := h
  have hl := (Array.getElem?_eq_some_iff.1 hg).1
  refine (restart_any a hp [y, z] (some ⟨g, 0, none⟩) c (by simp) (fun w' hf => ri_pair ((hf.block g hl c4).trans hg))).mono ?_
  rintro en w' ⟨rfl, hf, h'⟩
  have := hf.size
  have gr : ∀ k, Grow F w w' k → n0 ≤ k := fun k hk => hk.elim (c1 k) (fun h => by omega)
  refine ⟨rfl, ⟨by omega, (hf.block g hl c4).trans hg, _, H, h', b.frm hf (fun k h1 h2 => c3 k h2 h1), gr, c2, fun k h1 h2 => h1.elim (fun h => c3 k h h2) (fun h => by have := b.lt k h2; omega), fun h => h.elim c4 (fun h => by omega), c5⟩, hf.below c1 hs⟩
theorem DvsK.restart2 {n0 : Nat} {w : World} {g : Nat} {y z : Int} {t : TypeId} {B C : Nat} {d d2 : Dev} (h : DvsK n0 w g (.cells #[.int .i64 y, .int .i64 z] t (0, 0)) B d C d2) (c : Nat) (hp : d2.pend.length ≤ 100000) :
    Calls Try.prog 62 #[.pointer (some ⟨C, 0, none⟩), .slice (some ⟨g, 0, none⟩) 2 c] w (fun en w' => en = .returned (.int .i64 ((d2.restart [y, z]).2 : Nat)) ∧ DvsK n0 w' g (.cells #[.int .i64 y, .int .i64 z] t (0, 0)) B d C (d2.restart [y, z]).1 ∧ Below n0 w w') := by
  obtain ⟨hs, hg, F, H, a, b, c1, c2, c3, c4, c5⟩ := h
  have hl := (Array.getElem?_eq_some_iff.1 hg).1
  refine (rrestart_any b hp [y, z] (some ⟨g, 0, none⟩) c (by simp) (fun w' hf => ri_pair ((hf.block g hl c5).trans hg))).mono ?_
  rintro en w' ⟨rfl, hf, h'⟩
  have := hf.size
  have gr : ∀ k, Grow H w w' k → n0 ≤ k := fun k hk => hk.elim (c2 k) (fun h => by omega)
  refine ⟨rfl, ⟨by omega, (hf.block g hl c5).trans hg, F, _, a.frm hf (fun k h1 h2 => c3 k h1 h2), h', c1, gr, fun k h1 h2 => h2.elim (fun h => c3 k h1 h) (fun h => by have := a.lt k h1; omega), c4, fun h => h.elim c5 (fun h => by omega)⟩, hf.below c2 hs⟩
theorem Dvs.open1 {n0 : Nat} {w : World} {B C : Nat} {d d2 : Dev} (h : Dvs n0 w B d C d2) (hK : d.kept.length ≤ 1024) (hp : d.pend.length ≤ 100000) (size : Int) : Calls Try.prog 68 #[.pointer (some ⟨B, 0, none⟩), .int .i64 size] w (OpenOf w B (sopen d size)) := by
  obtain ⟨hs, F, H, a, b, c, e, f⟩ := h
  exact open_all a hK hp size
theorem Dvs.open2 {n0 : Nat} {w : World} {B C : Nat} {d d2 : Dev} (h : Dvs n0 w B d C d2) (hK : d2.kept.length ≤ 1024) (hp : d2.pend.length ≤ 100000) (size : Int) : Calls Try.prog 78 #[.pointer (some ⟨C, 0, none⟩), .int .i64 size] w (ROpenOf w C (sopen d2 size)) := by
  obtain ⟨hs, F, H, a, b, c, e, f⟩ := h
  exact ropen_all b hK hp size
/-- A store and the reference's, in blocks apart. -/
def Quad (n0 : Nat) (w : World) (S B : Nat) (d : Dev) (s : St) (S2 C : Nat) (d2 : Dev) (s2 : St) : Prop :=
  n0 ≤ w.heap.size ∧ ∃ F G H K : Nat → Prop, Stor F G w S B d s ∧ Sror H K w S2 C d2 s2 ∧ (∀ k, F k ∨ G k → n0 ≤ k) ∧ (∀ k, H k ∨ K k → n0 ≤ k) ∧ ∀ k, F k ∨ G k → ¬ (H k ∨ K k)
section
variable {n0 : Nat} {w wr w4 w' : World} {S B S2 C : Nat} {d d2 : Dev} {s s2 : St}
theorem Quad.start {w5 w6 w7 : World} (h : Dvs n0 w5 B d C d2) (b6 : Below w5.heap.size w5 w6) (hx : IsSt (fun k => w5.heap.size ≤ k ∧ k < w6.heap.size) w6 S B s) (b7 : Below w6.heap.size w6 w7) (hy : IsSr (fun k => w6.heap.size ≤ k ∧ k < w7.heap.size) w7 S2 C s2) : Quad n0 w7 S B d s S2 C d2 s2 := by
  have := b6.size; have := b7.size
  obtain ⟨hs, F, H, a, b, c, e, f⟩ := h
  have l1 : ∀ k, F k → k < w5.heap.size := a.lt
  have l2 : ∀ k, H k → k < w5.heap.size := b.lt
  refine ⟨by omega, F, _, H, _, ⟨(a.below b6).below b7, hx.below b7, fun k hk hF => by have := l1 k hF; omega⟩, ⟨(b.below b6).below b7, hy, fun k hk hF => by have := l2 k hF; omega⟩, fun k hk => hk.elim (c k) (fun h => by omega), fun k hk => hk.elim (e k) (fun h => by omega), fun k h1 h2 => ?_⟩
  rcases h1 with h1 | h1
  · rcases h2 with h2 | h2
    · exact f k h1 h2
    · have := l1 k h1; omega
  · rcases h2 with h2 | h2
    · have := l2 k h2; omega
    · omega
theorem Quad.below (h : Quad n0 w S B d s S2 C d2 s2) (hb : Below w.heap.size w w') : Quad n0 w' S B d s S2 C d2 s2 := by
  obtain ⟨hs, F, G, H, K, a, b, c, e, f⟩ := h
  exact ⟨Nat.le_trans hs hb.size, F, G, H, K, a.below hb, b.below hb, c, e, f⟩
theorem Quad.dvs (h : Quad n0 w S B d s S2 C d2 s2) : Dvs n0 w B d C d2 := by
  obtain ⟨hs, F, G, H, K, a, b, c, e, f⟩ := h
  exact ⟨hs, F, H, a.dev, b.dev, fun k hk => c k (.inl hk), fun k hk => e k (.inl hk), fun k h1 h2 => f k (.inl h1) (.inl h2)⟩
theorem Quad.sts (h : Quad n0 w S B d s S2 C d2 s2) : ∃ G K, IsSt G w S B s ∧ IsSr K w S2 C s2 := by
  obtain ⟨hs, F, G, H, K, a, b, c, e, f⟩ := h
  exact ⟨G, K, a.st, b.st⟩
theorem Quad.left {e : Dev} {s' : St} {F G H K : Nat → Prop} (hs : n0 ≤ w4.heap.size) (b : Sror H K w4 S2 C d2 s2) (c : ∀ k, F k ∨ G k → n0 ≤ k) (hd : ∀ k, H k ∨ K k → n0 ≤ k) (he : ∀ k, F k ∨ G k → ¬ (H k ∨ K k))
    (h2 : Frm (fun k => F k ∨ G k) w4 w') (h : ∃ F' G', Stor F' G' w' S B e s' ∧ (∀ k, F' k → F k ∨ w4.heap.size ≤ k) ∧ ∀ k, G' k → G k ∨ w4.heap.size ≤ k) : Quad n0 w' S B e s' S2 C d2 s2 ∧ Below n0 w4 w' := by
  obtain ⟨F', G', h3, h4, h5⟩ := h
  have hsz := h2.size
  have l2 : ∀ k, H k ∨ K k → k < w4.heap.size := fun k hk => hk.elim (b.dev.lt k) (b.st.lt k)
  have old : ∀ k, F' k ∨ G' k → (F k ∨ G k) ∨ w4.heap.size ≤ k := fun k hk => by
    rcases hk with hk | hk
    · exact (h4 k hk).imp_left .inl
    · exact (h5 k hk).imp_left .inr
  exact ⟨⟨by omega, F', G', H, K, h3, b.frm h2 (fun k hk hx => he k hx (.inl hk)) (fun k hk hx => he k hx (.inr hk)), fun k hk => (old k hk).elim (c k) (fun h => by omega), hd, fun k hk hx => (old k hk).elim (fun h => he k h hx) (fun h => by have := l2 k hx; omega)⟩, h2.below (fun k hk => c k hk) hs⟩
theorem Quad.right {e : Dev} {s' : St} {F G H K : Nat → Prop} (hs : n0 ≤ w4.heap.size) (b : Stor F G w4 S B d s) (c : ∀ k, F k ∨ G k → n0 ≤ k) (hd : ∀ k, H k ∨ K k → n0 ≤ k) (he : ∀ k, F k ∨ G k → ¬ (H k ∨ K k))
    (h2 : Frm (fun k => H k ∨ K k) w4 w') (h : ∃ H' K', Sror H' K' w' S2 C e s' ∧ (∀ k, H' k → H k ∨ w4.heap.size ≤ k) ∧ ∀ k, K' k → K k ∨ w4.heap.size ≤ k) : Quad n0 w' S B d s S2 C e s' ∧ Below n0 w4 w' := by
  obtain ⟨H', K', h3, h4, h5⟩ := h
  have hsz := h2.size
  have l2 : ∀ k, F k ∨ G k → k < w4.heap.size := fun k hk => hk.elim (b.dev.lt k) (b.st.lt k)
  have old : ∀ k, H' k ∨ K' k → (H k ∨ K k) ∨ w4.heap.size ≤ k := fun k hk => by
    rcases hk with hk | hk
    · exact (h4 k hk).imp_left .inl
    · exact (h5 k hk).imp_left .inr
  exact ⟨⟨by omega, F, G, H', K', b.frm h2 (fun k hk hx => he k (.inl hk) hx) (fun k hk hx => he k (.inr hk) hx), h3, c, fun k hk => (old k hk).elim (hd k) (fun h => by omega), fun k hk hx => (old k hx).elim (fun h => he k hk h) (fun h => by have := l2 k hk; omega)⟩, h2.below (fun k hk => hd k hk) hs⟩
variable {b : List UInt8} {g : Nat}
theorem Quad.append1 (h : Quad n0 wr S B d s S2 C d2 s2) (hb : b.length ≤ 63) (b4 : Below wr.heap.size wr w4) (lg : wr.heap.size ≤ g) (xb : w4.heap[g]? = some (.cells (b.map byteV).toArray 5 (0, 0)))
    (hp : d.pend.length + 33000 ≤ 90000) (hw : d.writes + 33000 ≤ 90000) (hy : d.syncs ≤ 90000) :
    Calls Try.prog 71 #[.pointer (some ⟨S, 0, none⟩), .slice (some ⟨g, 0, none⟩) b.length b.length] w4 (fun en w' => en = .returned (.int .i64 (sappend d s b).2.2) ∧ Quad n0 w' S B (sappend d s b).1 (sappend d s b).2.1 S2 C d2 s2 ∧ Below n0 wr w') := by
  obtain ⟨hs, F, G, H, K, a, b2, c, e, f⟩ := h
  have h4 := b4.size
  refine (append_any (a.below b4) (Nat.le_refl _) (fun e => by cases e) (rb_block xb) (fun g' o e => ?_) (by omega) hp hw hy).mono (fun en w' h => ?_)
  · cases e
    refine ⟨fun hF => by have := a.dev.lt g hF; omega, fun hS => ?_⟩
    obtain ⟨A0, A1, AL, vc, vr, V⟩ := a.st
    have := V.lt S V.fs; omega
  · obtain ⟨k0, k1, k2⟩ := h
    obtain ⟨k3, k4⟩ := Quad.left (Nat.le_trans hs h4) (b2.below b4) c e f k1 k2
    exact ⟨k0, k3, (b4.mono hs).trans k4⟩
theorem Quad.save1 (h : Quad n0 wr S B d s S2 C d2 s2) (hb : b.length ≤ 63) (b4 : Below wr.heap.size wr w4) (lg : wr.heap.size ≤ g) (xb : w4.heap[g]? = some (.cells (b.map byteV).toArray 5 (0, 0)))
    (hp : d.pend.length + 33000 ≤ 90000) (hw : d.writes + 33000 ≤ 90000) (hy : d.syncs ≤ 90000) :
    Calls Try.prog 70 #[.pointer (some ⟨S, 0, none⟩), .slice (some ⟨g, 0, none⟩) b.length b.length] w4 (fun en w' => en = .returned (.int .i64 (ssave d s b).2.2) ∧ Quad n0 w' S B (ssave d s b).1 (ssave d s b).2.1 S2 C d2 s2 ∧ Below n0 wr w') := by
  obtain ⟨hs, F, G, H, K, a, b2, c, e, f⟩ := h
  have h4 := b4.size
  refine (save_any (a.below b4) (Nat.le_refl _) (rb_block xb) (fun hF => by have := a.dev.lt g hF; omega) (fun hS => ?_) (Array.getElem?_eq_some_iff.1 xb).1 (by omega) hp hw hy).mono (fun en w' h => ?_)
  · obtain ⟨A0, A1, AL, vc, vr, V⟩ := a.st
    have := V.lt S V.fs; omega
  · obtain ⟨k0, k1, k2⟩ := h
    obtain ⟨k3, k4⟩ := Quad.left (Nat.le_trans hs h4) (b2.below b4) c e f k1 k2
    exact ⟨k0, k3, (b4.mono hs).trans k4⟩
theorem Quad.append2 (h : Quad n0 wr S B d s S2 C d2 s2) (hb : b.length ≤ 63) (b4 : Below wr.heap.size wr w4) (lg : wr.heap.size ≤ g) (xb : w4.heap[g]? = some (.cells (b.map byteV).toArray 5 (0, 0)))
    (hp : d2.pend.length + 33000 ≤ 90000) (hw : d2.writes + 33000 ≤ 90000) (hy : d2.syncs ≤ 90000) :
    Calls Try.prog 79 #[.pointer (some ⟨S2, 0, none⟩), .slice (some ⟨g, 0, none⟩) b.length b.length] w4 (fun en w' => en = .returned (.int .i64 (sappend d2 s2 b).2.2) ∧ Quad n0 w' S B d s S2 C (sappend d2 s2 b).1 (sappend d2 s2 b).2.1 ∧ Below n0 wr w') := by
  obtain ⟨hs, F, G, H, K, a, b2, c, e, f⟩ := h
  have h4 := b4.size
  refine (rappend_any (b2.below b4) (Nat.le_refl _) (fun e => by cases e) (rb_block xb) (by omega) hp hw hy).mono (fun en w' h => ?_)
  obtain ⟨k0, k1, k2⟩ := h
  obtain ⟨k3, k4⟩ := Quad.right (Nat.le_trans hs h4) (a.below b4) c e f k1 k2
  exact ⟨k0, k3, (b4.mono hs).trans k4⟩
theorem Quad.save2 (h : Quad n0 wr S B d s S2 C d2 s2) (hb : b.length ≤ 63) (b4 : Below wr.heap.size wr w4) (lg : wr.heap.size ≤ g) (xb : w4.heap[g]? = some (.cells (b.map byteV).toArray 5 (0, 0)))
    (hp : d2.pend.length + 33000 ≤ 90000) (hw : d2.writes + 33000 ≤ 90000) (hy : d2.syncs ≤ 90000) :
    Calls Try.prog 80 #[.pointer (some ⟨S2, 0, none⟩), .slice (some ⟨g, 0, none⟩) b.length b.length] w4 (fun en w' => en = .returned (.int .i64 (ssave d2 s2 b).2.2) ∧ Quad n0 w' S B d s S2 C (ssave d2 s2 b).1 (ssave d2 s2 b).2.1 ∧ Below n0 wr w') := by
  obtain ⟨hs, F, G, H, K, a, b2, c, e, f⟩ := h
  have h4 := b4.size
  refine (rsave_any (b2.below b4) (Nat.le_refl _) (rb_block xb) (fun hF => by have := b2.dev.lt g hF; omega) (Array.getElem?_eq_some_iff.1 xb).1 (by omega) hp hw hy).mono (fun en w' h => ?_)
  obtain ⟨k0, k1, k2⟩ := h
  obtain ⟨k3, k4⟩ := Quad.right (Nat.le_trans hs h4) (a.below b4) c e f k1 k2
  exact ⟨k0, k3, (b4.mono hs).trans k4⟩
/-- A call on the device alone. -/
theorem Stor.redev {F G : Nat → Prop} {e : Dev} (h : Stor F G w S B d s) (hf : Frm F w w') (hd : IsDev (Grow F w w') w' B e) : Frm (fun k => F k ∨ G k) w w' ∧ ∃ F' G', Stor F' G' w' S B e s ∧ (∀ k, F' k → F k ∨ w.heap.size ≤ k) ∧ ∀ k, G' k → G k ∨ w.heap.size ≤ k :=
  ⟨⟨hf.os, hf.tape, hf.output, hf.size, fun k hl hn => hf.block k hl (fun h => hn (.inl h))⟩, Grow F w w', G, ⟨hd, h.st.frm hf h.dis, fun k hk hx => hx.elim (h.dis k hk) (fun h2 => by have := h.st.lt k hk; omega)⟩, fun k hk => hk.imp_right (·.1), fun k hk => .inl hk⟩
theorem Sror.redev {F G : Nat → Prop} {e : Dev} (h : Sror F G w S B d s) (hf : Frm F w w') (hd : IsRef (Grow F w w') w' B e) : Frm (fun k => F k ∨ G k) w w' ∧ ∃ F' G', Sror F' G' w' S B e s ∧ (∀ k, F' k → F k ∨ w.heap.size ≤ k) ∧ ∀ k, G' k → G k ∨ w.heap.size ≤ k :=
  ⟨⟨hf.os, hf.tape, hf.output, hf.size, fun k hl hn => hf.block k hl (fun h => hn (.inl h))⟩, Grow F w w', G, ⟨hd, h.st.frm hf h.dis, fun k hk hx => hx.elim (h.dis k hk) (fun h2 => by have := h.st.lt k hk; omega)⟩, fun k hk => hk.imp_right (·.1), fun k hk => .inl hk⟩
theorem Quad.write1 (h : Quad n0 wr S B d s S2 C d2 s2) (k : Int) (hb : b.length ≤ 63) (b4 : Below wr.heap.size wr w4) (lg : wr.heap.size ≤ g) (xb : w4.heap[g]? = some (.cells (b.map byteV).toArray 5 (0, 0)))
    (hp : d.pend.length ≤ 100000) (hw : d.writes ≤ 100000) :
    Calls Try.prog 34 #[.pointer (some ⟨B, 0, none⟩), .int .i64 k, .slice (some ⟨g, 0, none⟩) b.length b.length] w4 (fun en w' => en = .returned (.int .i64 (d.write k b).2) ∧ Quad n0 w' S B (d.write k b).1 s S2 C d2 s2 ∧ Below n0 wr w') := by
  obtain ⟨hs, F, G, H, K, a, b2, c, e, f⟩ := h
  have h4 := b4.size
  have a4 := a.below b4
  refine (write_any a4.dev k b (some ⟨g, 0, none⟩) b.length (by omega) (fun e => by cases e) (fun w' hf => RB.frm (rb_block xb) hf (fun hx => by have := a.dev.lt g hx; omega)) hp hw).mono (fun en w' h => ?_)
  obtain ⟨k0, k1, k2⟩ := h
  obtain ⟨k5, k6⟩ := a4.redev k1 k2
  obtain ⟨k3, k4⟩ := Quad.left (Nat.le_trans hs h4) (b2.below b4) c e f k5 k6
  exact ⟨k0, k3, (b4.mono hs).trans k4⟩
theorem Quad.write2 (h : Quad n0 wr S B d s S2 C d2 s2) (k : Int) (hb : b.length ≤ 63) (b4 : Below wr.heap.size wr w4) (lg : wr.heap.size ≤ g) (xb : w4.heap[g]? = some (.cells (b.map byteV).toArray 5 (0, 0)))
    (hp : d2.pend.length ≤ 100000) (hw : d2.writes ≤ 100000) :
    Calls Try.prog 81 #[.pointer (some ⟨C, 0, none⟩), .int .i64 k, .slice (some ⟨g, 0, none⟩) b.length b.length] w4 (fun en w' => en = .returned (.int .i64 (d2.write k b).2) ∧ Quad n0 w' S B d s S2 C (d2.write k b).1 s2 ∧ Below n0 wr w') := by
  obtain ⟨hs, F, G, H, K, a, b2, c, e, f⟩ := h
  have h4 := b4.size
  have a4 := b2.below b4
  refine (rwrite_any a4.dev k b (some ⟨g, 0, none⟩) b.length (by omega) (fun w' hf => RB.frm (rb_block xb) hf (fun hx => by have := b2.dev.lt g hx; omega)) hp hw).mono (fun en w' h => ?_)
  obtain ⟨k0, k1, k2⟩ := h
  obtain ⟨k5, k6⟩ := a4.redev k1 k2
  obtain ⟨k3, k4⟩ := Quad.right (Nat.le_trans hs h4) (a.below b4) c e f k5 k6
  exact ⟨k0, k3, (b4.mono hs).trans k4⟩
theorem Quad.arm1 (h : Quad n0 w S B d s S2 C d2 s2) (n : Int) (hn : n ≤ 9223372036854775807) :
    Calls Try.prog 45 #[.pointer (some ⟨B, 0, none⟩), .int .i64 n] w (fun en w' => (∃ v, en = .returned v) ∧ Quad n0 w' S B (d.arm n) s S2 C d2 s2 ∧ Below n0 w w') := by
  obtain ⟨hs, F, G, H, K, a, b2, c, e, f⟩ := h
  refine (arm_any a.dev n hn).mono ?_
  rintro en w' ⟨k0, k1, k2⟩
  exact ⟨k0, Quad.left hs b2 c e f ⟨k1.os, k1.tape, k1.output, k1.size, fun k hl hn => k1.block k hl (fun h => hn (.inl h))⟩ ⟨F, G, ⟨k2, a.st.frm k1 a.dis, a.dis⟩, fun _ h => .inl h, fun _ h => .inl h⟩⟩
theorem Quad.arm2 (h : Quad n0 w S B d s S2 C d2 s2) (n : Int) (hn : n ≤ 9223372036854775807) :
    Calls Try.prog 61 #[.pointer (some ⟨C, 0, none⟩), .int .i64 n] w (fun en w' => (∃ v, en = .returned v) ∧ Quad n0 w' S B d s S2 C (d2.arm n) s2 ∧ Below n0 w w') := by
  obtain ⟨hs, F, G, H, K, a, b2, c, e, f⟩ := h
  refine (rarm_any b2.dev n hn).mono ?_
  rintro en w' ⟨k0, k1, k2⟩
  exact ⟨k0, Quad.right hs a c e f ⟨k1.os, k1.tape, k1.output, k1.size, fun k hl hn => k1.block k hl (fun h => hn (.inl h))⟩ ⟨H, K, ⟨k2, b2.st.frm k1 b2.dis, b2.dis⟩, fun _ h => .inl h, fun _ h => .inl h⟩⟩
end
/-- The numbers stay small. -/
structure SmallQ (d : Dev) (i : Nat) : Prop where
  pend : d.pend.length ≤ 80 * i
  writes : d.writes ≤ 80 * i
  syncs : d.syncs ≤ 80 * i
  kept : d.kept.length ≤ 1024
theorem SmallQ.mono {d : Dev} {i j : Nat} (h : SmallQ d i) (hij : i ≤ j) : SmallQ d j := by
  obtain ⟨a, b, c, e⟩ := h
  exact ⟨by omega, by omega, by omega, e⟩
theorem SmallQ.append {d : Dev} {i : Nat} (h : SmallQ d i) (s : St) {b : List UInt8} (hb : b.length ≤ 63) : SmallQ (sappend d s b).1 (i + 1) := by
  obtain ⟨q1, q2, q3, q4⟩ := sappend_bound d s b
  obtain ⟨a, b, c, e⟩ := h
  exact ⟨by omega, by omega, by omega, by omega⟩
theorem SmallQ.save {d : Dev} {i : Nat} (h : SmallQ d i) (s : St) {b : List UInt8} (hb : b.length ≤ 63) : SmallQ (ssave d s b).1 (i + 1) := by
  obtain ⟨q1, q2, q3, q4⟩ := ssave_bound d s b
  obtain ⟨a, b, c, e⟩ := h
  exact ⟨by omega, by omega, by omega, by omega⟩
theorem SmallQ.write {d : Dev} {i : Nat} (h : SmallQ d i) (k : Int) (b : List UInt8) : SmallQ (d.write k b).1 (i + 1) := by
  obtain ⟨q1, q2, q3, q4⟩ := write_bound d k b
  obtain ⟨a, b, c, e⟩ := h
  exact ⟨by omega, by omega, by omega, by omega⟩
theorem SmallQ.arm {d : Dev} {i : Nat} (h : SmallQ d i) (n : Int) : SmallQ (d.arm n) (i + 1) := by
  obtain ⟨a, b, c, e⟩ := h
  exact ⟨by show d.pend.length ≤ _; omega, by show d.writes ≤ _; omega, by show d.syncs ≤ _; omega, e⟩
theorem SmallQ.restart {d : Dev} {i : Nat} (h : SmallQ d i) (l : List Int) : SmallQ (d.restart l).1 (i + 1) := by
  obtain ⟨a, b, c, e⟩ := h
  exact ⟨Nat.zero_le _, by show d.writes ≤ _; omega, by show d.syncs ≤ _; omega, by rw [restart_len]; exact e⟩
theorem SmallQ.bounds {d : Dev} {i : Nat} (h : SmallQ d i) (hi : i ≤ 50) : d.pend.length + 33000 ≤ 90000 ∧ d.writes + 33000 ≤ 90000 ∧ d.syncs ≤ 90000 ∧ d.pend.length ≤ 100000 ∧ d.writes ≤ 100000 := by
  obtain ⟨a, b, c, e⟩ := h
  exact ⟨by omega, by omega, by omega, by omega, by omega⟩
end Go.Proofs.Ytopemjbakpahfaa

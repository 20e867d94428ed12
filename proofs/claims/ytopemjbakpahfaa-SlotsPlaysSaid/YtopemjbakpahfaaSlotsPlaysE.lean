/-
  Contracts and plain laws, part 48 (texts: R8). No condition but what each states.
-/
import Derived.Test.YtopemjbakpahfaaSlotsPlaysD
/-
  The reference's opening of a store: the walk. No condition but that the numbers are small.
-/
namespace Go.Proofs.Ytopemjbakpahfaa
open Go.RowKit Disk Jour Crc Slot
set_option linter.unusedSimpArgs false
set_option linter.unusedVariables false
theorem zerosB_take_succ {b : List UInt8} {i : Nat} (h : i < b.length) : zerosB (b.take (i + 1)) = (zerosB (b.take i) && (b.getD i 0 == 0)) := by
  rw [take_snoc b i 0 h]
  unfold zerosB
  rw [List.all_append]
  simp
set_option maxRecDepth 100000 in
set_option maxHeartbeats 16000000 in
theorem ropen_any {F : Nat → Prop} {w : World} {B : Nat} {d : Dev} (hd : IsRef F w B d) (hK : d.kept.length ≤ 1024) (hp : d.pend.length ≤ 100000) (size : Int) (hs0 : -1000000 ≤ size) :
    Calls Try.prog 78 #[.pointer (some ⟨B, 0, none⟩), .int .i64 size] w (ROpenOf w B (sopen d size)) := by
  have k0 : ∃ a c, w.cell? ⟨B, 0, none⟩ = some (.slice a d.kept.length c) := by
    obtain ⟨vk, vw, h⟩ := hd
    obtain ⟨a, c, rfl⟩ := rkept_form h.kept
    exact ⟨a, c, Joins.cell_of_block h.blk 0⟩
  obtain ⟨ak, ck, k0⟩ := k0
  by_cases hargs : size < 1 ∨ 1024 < size ∨ (d.kept.length : Int) < 2 * size + 2
  · rw [sopen_arg hargs]
    have FN : Hid (ROpenOf w B (none, 1) (.returned (.tuple #[.pointer none, .int .i64 1])) w) := ROpenOf.none 1 rfl (Below.refl _ _) rfl
    by_cases c1 : size < 1
    · clear hargs
      go_enter Try.func78, Try.ntmps78
      go_wp2_with fail
      refine bodyPost_ret (v := .tuple #[.pointer none, .int .i64 1]) (by simp [results, Try.results78, go_sem]) rfl ?_
      exact FN.out
    · by_cases c2 : 1024 < size
      · clear hargs
        go_enter Try.func78, Try.ntmps78
        go_wp2_with fail
        refine bodyPost_ret (v := .tuple #[.pointer none, .int .i64 1]) (by simp [results, Try.results78, go_sem]) rfl ?_
        exact FN.out
      · have c3 : (d.kept.length : Int) < 2 * size + 2 := by omega
        clear hargs
        go_enter Try.func78, Try.ntmps78
        go_wp2_with fail
        refine bodyPost_ret (v := .tuple #[.pointer none, .int .i64 1]) (by simp [results, Try.results78, go_sem]) rfl ?_
        exact FN.out
  obtain ⟨N, rfl⟩ : ∃ N : Nat, size = (N : Int) := ⟨size.toNat, by omega⟩
  have hN1 : 1 ≤ N := by omega
  have hN2 : 2 * N + 2 ≤ d.kept.length := by omega
  rw [sopen_n hN1 (by omega) hN2]
  have c1 : ¬ (N : Int) < 1 := by omega
  have c2 : ¬ 1024 < (N : Int) := by omega
  have c3 : ¬ (d.kept.length : Int) < 2 * (N : Int) + 2 := by omega
  have OF0 : Hid (∀ w1, Below w.heap.size w w1 → Calls Try.prog 57 #[.pointer (some ⟨B, 0, none⟩), .int .i64 1, .int .i64 (N : Int)] w1 (ROfOf w1 B 1 N)) := fun w1 hb => by
    have h1 := rof_any (hd.below hb) hK 1 (N : Int) (by omega)
    have e := asize_slot (N := N) (K := d.kept.length) (k := 0) hN2 (by omega)
    rw [show (1 : Int) + ((0 : Nat) : Int) * (N : Int) = 1 by omega] at e
    rw [e] at h1
    exact h1
  have OF1 : Hid (∀ w1, Below w.heap.size w w1 → Calls Try.prog 57 #[.pointer (some ⟨B, 0, none⟩), .int .i64 (1 + (N : Int)), .int .i64 (N : Int)] w1 (ROfOf w1 B (1 + (N : Int)) N)) := fun w1 hb => by
    have h1 := rof_any (hd.below hb) hK (1 + (N : Int)) (N : Int) (by omega)
    have e := asize_slot (N := N) (K := d.kept.length) (k := 1) hN2 (by omega)
    rw [show (1 : Int) + ((1 : Nat) : Int) * (N : Int) = 1 + (N : Int) by omega] at e
    rw [e] at h1
    exact h1
  have OFL : Hid (∀ w1, Below w.heap.size w w1 → Calls Try.prog 57 #[.pointer (some ⟨B, 0, none⟩), .int .i64 (1 + 2 * (N : Int)), .int .i64 1024] w1 (ROfOf w1 B (1 + 2 * (N : Int)) (d.kept.length - 1 - 2 * N))) := fun w1 hb => by
    have h1 := rof_any (hd.below hb) hK (1 + 2 * (N : Int)) 1024 (by omega)
    rw [asize_log hN2 hK] at h1
    exact h1
  clear hargs
  have HD := Lib.hid hd
  clear hd
  have I0 : Hid (RSlI w w.heap.size B N (d.kept.length - 1 - 2 * N) 0 (w.alloc (.cells (r0cells B none none none) 141))) := RSlI.start
  go_enter Try.func78, Try.ntmps78
  go_wp2_with fail
  change Code.wp _ _ _ _ (w.alloc (.cells (r0cells B none none none) 141))
  obtain ⟨w2, hw2⟩ : ∃ w2, w.alloc (.cells (r0cells B none none none) 141) = w2 := ⟨_, rfl⟩
  rw [hw2] at I0 ⊢
  obtain ⟨S, hS⟩ : ∃ S, w.heap.size = S := ⟨_, rfl⟩
  have HS := Lib.hid hS
  rw [hS] at I0
  rw [hS]
  clear hw2 hS
  refine wp_region_any (by kernel_rfl) ?_
  change wpAny _ _ _ _ _ _ _ (World.drew _)
  refine wpAny_take (i := 0) (v := .pointer (some ⟨S, 0, none⟩)) rfl (by kernel_rfl) (by kernel_rfl) (by kernel_rfl) (fun _ _ _ h => h) (Or.inl ⟨by rfl, by intro w; go_simp⟩) ?_
  try simp only [Act.put, List.getElem_toArray, List.getElem_cons_zero, List.getElem_cons_succ, List.setIfInBounds_toArray, List.set_cons_zero, List.set_cons_succ]
  refine wpAny_take (i := 1) (v := .pointer (some ⟨B, 0, none⟩)) rfl (by kernel_rfl) (by kernel_rfl) (by kernel_rfl) (fun _ _ _ h => h) (Or.inl ⟨by rfl, by intro w; go_simp⟩) ?_
  try simp only [Act.put, List.getElem_toArray, List.getElem_cons_zero, List.getElem_cons_succ, List.setIfInBounds_toArray, List.set_cons_zero, List.set_cons_succ]
  refine wpAny_take (i := 2) (v := .int .i64 (N : Int)) rfl (by kernel_rfl) (by kernel_rfl) (by kernel_rfl) (fun _ _ _ h => h) (Or.inl ⟨by rfl, by intro w; go_simp⟩) ?_
  try simp only [Act.put, List.getElem_toArray, List.getElem_cons_zero, List.getElem_cons_succ, List.setIfInBounds_toArray, List.set_cons_zero, List.set_cons_succ]
  refine wpAny_take (i := 4) (v := .pointer (some ⟨S, 0, none⟩)) rfl (by kernel_rfl) (by kernel_rfl) (by kernel_rfl) (fun _ _ _ h => h) (Or.inl ⟨by rfl, by intro w; go_simp⟩) ?_
  try simp only [Act.put, List.getElem_toArray, List.getElem_cons_zero, List.getElem_cons_succ, List.setIfInBounds_toArray, List.set_cons_zero, List.set_cons_succ]
  refine wpAny_take (i := 5) (v := .pointer (some ⟨S, 1, none⟩)) rfl (by kernel_rfl) (by kernel_rfl) (by kernel_rfl) (fun _ _ _ h => h) (Or.inl ⟨by rfl, by intro w; go_simp⟩) ?_
  try simp only [Act.put, List.getElem_toArray, List.getElem_cons_zero, List.getElem_cons_succ, List.setIfInBounds_toArray, List.set_cons_zero, List.set_cons_succ]
  refine wpAny_ready (rs := [3]) (by kernel_rfl) (by simp) ?_
  refine AllReady.cons rfl (fun Kc hK => ?_) AllReady.nil
  rw [if_pos (by rfl)]
  go_simp
  refine ((OF0.out _ ((I0.out.sub (Below.refl _ _).drew).bl)).mono ?_)
  rintro en v0 ⟨A0, rfl, b0, la0, ia0⟩
  have J0 := Lib.hid ((I0.out.sub (Below.refl _ _).drew).sub b0)
  have LA0 : Hid (w.heap.size ≤ A0) := Nat.le_trans (I0.out.sub (Below.refl _ _).drew).bl.size la0
  have IA0 := Lib.hid ia0
  clear b0 la0 ia0
  go_simp
  refine hK _ _ ?_
  clear hK Kc
  try simp only [Act.put, List.getElem_toArray, List.getElem_cons_zero, List.getElem_cons_succ, List.setIfInBounds_toArray, List.set_cons_zero, List.set_cons_succ]
  refine wpAny_take (i := 6) (v := .pointer (some ⟨S, 1, none⟩)) rfl (by kernel_rfl) (by kernel_rfl) (by kernel_rfl) (fun _ _ _ h => h) (Or.inl ⟨by rfl, by intro w; go_simp⟩) ?_
  try simp only [Act.put, List.getElem_toArray, List.getElem_cons_zero, List.getElem_cons_succ, List.setIfInBounds_toArray, List.set_cons_zero, List.set_cons_succ]
  refine wpAny_ready (rs := [7]) (by kernel_rfl) (by simp) ?_
  refine AllReady.cons rfl (fun Kc hK => ?_) AllReady.nil
  rw [if_pos (by rfl)]
  obtain ⟨y0, y1, yl, hx0, _, _, _⟩ := J0.out.ex
  have c0 : v0.cell? ⟨S, 1, none⟩ = some (.pointer y0) := Joins.cell_of_block hx0 1
  have f0 : v0.frozen? ⟨S, 1, none⟩ = false := Joins.unfrozen_of_block hx0 1
  clear hx0
  go_simp
  refine hK _ _ ?_
  clear hK Kc
  try simp only [Act.put, List.getElem_toArray, List.getElem_cons_zero, List.getElem_cons_succ, List.setIfInBounds_toArray, List.set_cons_zero, List.set_cons_succ]
  refine wpAny_done (by kernel_rfl) ?_ _
  have I1 := Lib.hid (J0.out.set LA0.out (.inl ⟨rfl, IA0.out⟩))
  clear c0 f0 J0 LA0 IA0 I0 OF0
  change Exit.then _ _ _ _ (v0.setCell ⟨S, 1, none⟩ (.pointer (some ⟨A0, 0, none⟩)))
  obtain ⟨x0, hx0⟩ : ∃ x0, v0.setCell ⟨S, 1, none⟩ (.pointer (some ⟨A0, 0, none⟩)) = x0 := ⟨_, rfl⟩
  have I1 : Hid (RSlI w S B N (d.kept.length - 1 - 2 * N) 1 (v0.setCell ⟨S, 1, none⟩ (.pointer (some ⟨A0, 0, none⟩)))) := I1
  rw [hx0] at I1 ⊢
  clear hx0
  go_wp2_with fail
  refine wp_region_any (by kernel_rfl) ?_
  change wpAny _ _ _ _ _ _ _ (World.drew _)
  refine wpAny_take (i := 0) (v := .pointer (some ⟨S, 0, none⟩)) rfl (by kernel_rfl) (by kernel_rfl) (by kernel_rfl) (fun _ _ _ h => h) (Or.inl ⟨by rfl, by intro w; go_simp⟩) ?_
  try simp only [Act.put, List.getElem_toArray, List.getElem_cons_zero, List.getElem_cons_succ, List.setIfInBounds_toArray, List.set_cons_zero, List.set_cons_succ]
  refine wpAny_take (i := 1) (v := .pointer (some ⟨B, 0, none⟩)) rfl (by kernel_rfl) (by kernel_rfl) (by kernel_rfl) (fun _ _ _ h => h) (Or.inl ⟨by rfl, by intro w; go_simp⟩) ?_
  try simp only [Act.put, List.getElem_toArray, List.getElem_cons_zero, List.getElem_cons_succ, List.setIfInBounds_toArray, List.set_cons_zero, List.set_cons_succ]
  refine wpAny_take (i := 2) (v := .int .i64 (N : Int)) rfl (by kernel_rfl) (by kernel_rfl) (by kernel_rfl) (fun _ _ _ h => h) (Or.inl ⟨by rfl, by intro w; go_simp⟩) ?_
  try simp only [Act.put, List.getElem_toArray, List.getElem_cons_zero, List.getElem_cons_succ, List.setIfInBounds_toArray, List.set_cons_zero, List.set_cons_succ]
  refine wpAny_take (i := 3) (v := .int .i64 (1 + (N : Int))) rfl (by kernel_rfl) (by kernel_rfl) (by kernel_rfl) (fun _ _ _ h => h) (Or.inl ⟨by rfl, by intro w; go_simp; first | done | decide | (rw [IntKind.wrap_i64]; omega)⟩) ?_
  try simp only [Act.put, List.getElem_toArray, List.getElem_cons_zero, List.getElem_cons_succ, List.setIfInBounds_toArray, List.set_cons_zero, List.set_cons_succ]
  refine wpAny_take (i := 4) (v := .int .i64 (N : Int)) rfl (by kernel_rfl) (by kernel_rfl) (by kernel_rfl) (fun _ _ _ h => h) (Or.inl ⟨by rfl, by intro w; go_simp⟩) ?_
  try simp only [Act.put, List.getElem_toArray, List.getElem_cons_zero, List.getElem_cons_succ, List.setIfInBounds_toArray, List.set_cons_zero, List.set_cons_succ]
  refine wpAny_take (i := 6) (v := .pointer (some ⟨S, 0, none⟩)) rfl (by kernel_rfl) (by kernel_rfl) (by kernel_rfl) (fun _ _ _ h => h) (Or.inl ⟨by rfl, by intro w; go_simp⟩) ?_
  try simp only [Act.put, List.getElem_toArray, List.getElem_cons_zero, List.getElem_cons_succ, List.setIfInBounds_toArray, List.set_cons_zero, List.set_cons_succ]
  refine wpAny_take (i := 7) (v := .pointer (some ⟨S, 1, none⟩)) rfl (by kernel_rfl) (by kernel_rfl) (by kernel_rfl) (fun _ _ _ h => h) (Or.inl ⟨by rfl, by intro w; go_simp⟩) ?_
  try simp only [Act.put, List.getElem_toArray, List.getElem_cons_zero, List.getElem_cons_succ, List.setIfInBounds_toArray, List.set_cons_zero, List.set_cons_succ]
  refine wpAny_ready (rs := [5]) (by kernel_rfl) (by simp) ?_
  refine AllReady.cons rfl (fun Kc hK => ?_) AllReady.nil
  rw [if_pos (by rfl)]
  go_simp
  refine ((OF1.out _ ((I1.out.sub (Below.refl _ _).drew).bl)).mono ?_)
  rintro en v1 ⟨A1, rfl, b1, la1, ia1⟩
  have J1 := Lib.hid ((I1.out.sub (Below.refl _ _).drew).sub b1)
  have LA1 : Hid (w.heap.size ≤ A1) := Nat.le_trans (I1.out.sub (Below.refl _ _).drew).bl.size la1
  have IA1 := Lib.hid ia1
  clear b1 la1 ia1
  go_simp
  refine hK _ _ ?_
  clear hK Kc
  try simp only [Act.put, List.getElem_toArray, List.getElem_cons_zero, List.getElem_cons_succ, List.setIfInBounds_toArray, List.set_cons_zero, List.set_cons_succ]
  refine wpAny_take (i := 8) (v := .pointer (some ⟨S, 2, none⟩)) rfl (by kernel_rfl) (by kernel_rfl) (by kernel_rfl) (fun _ _ _ h => h) (Or.inl ⟨by rfl, by intro w; go_simp⟩) ?_
  try simp only [Act.put, List.getElem_toArray, List.getElem_cons_zero, List.getElem_cons_succ, List.setIfInBounds_toArray, List.set_cons_zero, List.set_cons_succ]
  refine wpAny_ready (rs := [9]) (by kernel_rfl) (by simp) ?_
  refine AllReady.cons rfl (fun Kc hK => ?_) AllReady.nil
  rw [if_pos (by rfl)]
  obtain ⟨y0, y1, yl, hx1, _, _, _⟩ := J1.out.ex
  have c1 : v1.cell? ⟨S, 2, none⟩ = some (.pointer y1) := Joins.cell_of_block hx1 2
  have f1 : v1.frozen? ⟨S, 2, none⟩ = false := Joins.unfrozen_of_block hx1 2
  clear hx1
  go_simp
  refine hK _ _ ?_
  clear hK Kc
  try simp only [Act.put, List.getElem_toArray, List.getElem_cons_zero, List.getElem_cons_succ, List.setIfInBounds_toArray, List.set_cons_zero, List.set_cons_succ]
  refine wpAny_done (by kernel_rfl) ?_ _
  have I2 := Lib.hid (J1.out.set LA1.out (.inr (.inl ⟨rfl, IA1.out⟩)))
  clear c1 f1 J1 LA1 IA1 I1 OF1
  change Exit.then _ _ _ _ (v1.setCell ⟨S, 2, none⟩ (.pointer (some ⟨A1, 0, none⟩)))
  obtain ⟨x1, hx1⟩ : ∃ x1, v1.setCell ⟨S, 2, none⟩ (.pointer (some ⟨A1, 0, none⟩)) = x1 := ⟨_, rfl⟩
  have I2 : Hid (RSlI w S B N (d.kept.length - 1 - 2 * N) 2 (v1.setCell ⟨S, 2, none⟩ (.pointer (some ⟨A1, 0, none⟩)))) := I2
  rw [hx1] at I2 ⊢
  clear hx1
  go_wp2_with fail
  refine (OFL.out x1 I2.out.bl).mono ?_
  rintro en v2 ⟨AL', rfl, b2, la2, ia2⟩
  have J2 := Lib.hid (I2.out.sub b2)
  have LA2 : Hid (w.heap.size ≤ AL') := Nat.le_trans I2.out.bl.size la2
  have IA2 := Lib.hid ia2
  obtain ⟨y0, y1, yl, hx2, _, _, _⟩ := J2.out.ex
  have c2' : v2.cell? ⟨S, 3, none⟩ = some (.pointer yl) := Joins.cell_of_block hx2 3
  have f2' : v2.frozen? ⟨S, 3, none⟩ = false := Joins.unfrozen_of_block hx2 3
  clear b2 la2 ia2 hx2 I2 OFL
  obtain ⟨x2, hx2⟩ : ∃ x2, v2.setCell ⟨S, 3, none⟩ (.pointer (some ⟨AL', 0, none⟩)) = x2 := ⟨_, rfl⟩
  have I3 : Hid (RSlI w S B N (d.kept.length - 1 - 2 * N) 3 (v2.setCell ⟨S, 3, none⟩ (.pointer (some ⟨AL', 0, none⟩)))) := J2.out.set LA2.out (.inr (.inr ⟨rfl, IA2.out⟩))
  rw [hx2] at I3
  obtain ⟨A0, A1, AL, op⟩ := I3.out.op
  have OP := Lib.hid op
  have RD := Lib.hid (rread_any (HD.out.below op.bl) 0 hp)
  have GT : Hid (∀ W, Below w.heap.size w W → ∀ (A n : Nat) (first : Int) (m : Nat), IsRArea W A B first n → 0 ≤ first → first ≤ 1024 → Calls Try.prog 63 #[.pointer (some ⟨A, 0, none⟩), .int .i64 0, .int .i64 (m : Int)] W (GetOf W (jget d first.toNat n 0 m))) := fun W hb A n first m hA h0 h1 => rget_any (HD.out.below hb) hA 0 m hp (.inr ⟨h0, h1⟩)
  have FR : Hid (∀ W, Below w.heap.size w W → ∀ (A n : Nat) (first : Int) (m : Nat), IsRArea W A B first n → 0 ≤ first → first ≤ 1024 → Calls Try.prog 65 #[.pointer (some ⟨A, 0, none⟩), .int .i64 (m : Int)] W (FramesOf W (jframes d first.toNat n m))) := fun W hb A n first m hA h0 h1 => rframes_any (HD.out.below hb) hA m hp (.inr ⟨h0, h1⟩)
  have SO : Hid (sopenN d N = if (d.read 0).2 ≠ 0 then (none, (d.read 0).2) else match hread (d.read 0).1 with
    | none => (none, 4)
    | some h => sload d N (d.kept.length - 1 - 2 * N) h) := rfl
  have rl32 : (d.read 0).1.length ≤ 32 := by
    unfold Dev.read
    split
    · simp
    · rw [Int.toNat_zero, sector_length HD.out.ok (by omega)]; exact Nat.le_refl _
  generalize sopenN d N = ro at *
  generalize d.read 0 = rd at *
  obtain ⟨rb, re⟩ := rd
  dsimp only at SO rl32
  clear op J2 LA2 IA2 I3 k0
  go_wp2_with fail
  refine RD.out.mono ?_
  rintro en w4 ⟨b4, v4, rfl, o4⟩
  by_cases hre : re = 0
  rotate_left
  · have E : Hid (ro = (none, re)) := by have := SO.out; rw [if_pos hre] at this; exact this
    have hb' : ((re : Int) != 0) = true := by rw [bne_iff_ne]; exact hre
    have BB := Lib.hid (OP.out.below b4).bl
    clear SO hre b4 o4 RD
    go_wp2_with fail
    refine bodyPost_ret (v := .tuple #[.pointer none, .int .i64 re]) (by simp [results, Try.results78, go_sem]) rfl ?_
    exact ROpenOf.none re E.out BB.out rfl
  subst hre
  have SO2 : Hid (ro = match hread rb with
    | none => (none, 4)
    | some h => sload d N (d.kept.length - 1 - 2 * N) h) := by have := SO.out; rw [if_neg (by decide)] at this; exact this
  obtain ⟨a4, cap4, hv4, lc4, n4, rb4⟩ := RB.of_owns o4
  dsimp only at hv4 lc4 rb4
  subst hv4
  have OP4 := Lib.hid (OP.out.below b4)
  have RB4 := Lib.hid rb4
  have NA4 := Lib.hid n4
  have LC4 : Hid (rb.length ≤ cap4) := lc4
  have CM4 : Hid (cap4 ≤ maxLen) := by
    show _ ≤ _
    rcases o4.2 with ⟨e, _⟩ | ⟨g, cap, cur, e, _, _, _, q, _⟩
    · injection e with _ _ e3; rw [e3]; exact Nat.zero_le _
    · injection e with _ _ e3; rw [e3]; exact q
  clear SO b4 o4 rb4 n4 lc4 OP RD
  go_wp2_with fail
  go_loop [9, 10] (fun z iv => ∃ k : Nat, iv = .int .i64 k ∧ k ≤ rb.length ∧ z = .bool (zerosB (rb.take k))) (fun _ iv => rb.length - (intOf iv).toNat)
  case atStart => exact ⟨0, rfl, Nat.zero_le _, rfl⟩
  case round =>
    obtain ⟨k, rfl, hk, rfl⟩ := hrel
    by_cases hlt : k < rb.length
    · have hk0 : (0 : Int) ≤ (k : Int) := by omega
      have hki : (k : Int) < (rb.length : Int) := by omega
      have NX := Lib.hid (zerosB_take_succ hlt)
      obtain ⟨g, off, rfl, _, hc⟩ := RB4.out k hlt
      have hbx := UInt8.toNat_lt (rb.getD k 0)
      have hby : ((rb.getD k 0) == 0) = (((rb.getD k 0).toNat : Int) == 0) := by rw [Bool.eq_iff_iff]; simp [← UInt8.toNat_inj]
      have HBY := Lib.hid hby
      unfold byteV at hc
      generalize rb.getD k 0 = x at *
      clear hby
      cases hz : zerosB (rb.take k)
      · rw [hz] at NX
        clear hz
        go_wp2
        go_round
        case rel => exact ⟨k + 1, rfl, by omega, by rw [NX.out]; rfl⟩
        case measure => simp [intOf]; omega
      · rw [hz] at NX
        clear hz
        go_wp2
        go_round
        case rel => exact ⟨k + 1, rfl, by omega, by rw [NX.out, HBY.out]; simp⟩
        case measure => simp [intOf]; omega
    · have hki : ¬ (k : Int) < (rb.length : Int) := by omega
      have hkt : rb.take k = rb := List.take_of_length_le (by omega)
      rw [hkt]
      clear hkt
      cases hz : zerosB rb
      rotate_left
      · obtain ⟨h, hh⟩ : ∃ h, hd0 = h := ⟨_, rfl⟩
        have HRD : Hid (hread rb = some h) := by show _ = _; unfold hread; rw [if_pos hz, hh]
        have SO3 : Hid (ro = sload d N (d.kept.length - 1 - 2 * N) h) := by have := SO2.out; rw [HRD.out] at this; exact this
        have OPW := OP4
        rw [hh] at OPW
        clear hh hz OP4 RB4
        go_wp2_with fail
        obtain ⟨hs2, hlo, hus, htu⟩ := hread_bound HRD.out
        have SL : Hid (sload d N (d.kept.length - 1 - 2 * N) h = if 32 * N < h.long ∨ 32 * (d.kept.length - 1 - 2 * N) < h.used then (none, 4)
          else if (jget d (1 + h.slot * N) N 0 h.long).2 ≠ 0 then (none, (jget d (1 + h.slot * N) N 0 h.long).2)
          else if (jframes d (1 + 2 * N) (d.kept.length - 1 - 2 * N) h.used).2 ≠ 0 then (none, (jframes d (1 + 2 * N) (d.kept.length - 1 - 2 * N) h.used).2)
          else (some ⟨N, d.kept.length - 1 - 2 * N, h, (jget d (1 + h.slot * N) N 0 h.long).1, (jframes d (1 + 2 * N) (d.kept.length - 1 - 2 * N) h.used).1, false⟩, 0)) := rfl
        have OK0 : Hid (∀ cs R, ¬ 32 * N < h.long → ¬ 32 * (d.kept.length - 1 - 2 * N) < h.used → (jget d (1 + h.slot * N) N 0 h.long).1 = cs → jframes d (1 + 2 * N) (d.kept.length - 1 - 2 * N) h.used = (R, 0) → StOk ⟨N, d.kept.length - 1 - 2 * N, h, cs, R, false⟩) := fun cs R k1 k2 k3 k4 => sload_stok HRD.out k1 k2 hN1 (by omega) k3 k4
        have FRM : Hid (∀ W, Below w.heap.size w W → ∀ (A : Nat), IsRArea W A B (1 + 2 * (N : Int)) (d.kept.length - 1 - 2 * N) → Calls Try.prog 65 #[.pointer (some ⟨A, 0, none⟩), .int .i64 (h.used : Int)] W (FramesOf W (jframes d (1 + 2 * N) (d.kept.length - 1 - 2 * N) h.used))) := fun W hb A hA => by
          have := FR.out W hb A _ _ h.used hA (by omega) (by omega)
          rw [show (1 + 2 * (N : Int)).toNat = 1 + 2 * N by omega] at this
          exact this
        obtain ⟨A, hA, hIA, hAc⟩ : ∃ A, w.heap.size ≤ A ∧ (∀ W, Below w4.heap.size w4 W → Calls Try.prog 63 #[.pointer (some ⟨A, 0, none⟩), .int .i64 0, .int .i64 (h.long : Int)] W (GetOf W (jget d (1 + h.slot * N) N 0 h.long))) ∧ ∀ vc vr, (srcells B A0 A1 AL ⟨N, d.kept.length - 1 - 2 * N, h, [], [], false⟩ vc vr)[1 + h.slot]? = some (.pointer (some ⟨A, 0, none⟩)) := by
          rcases (by omega : h.slot = 0 ∨ h.slot = 1) with h' | h'
          · refine ⟨A0, OPW.out.l0, fun W hW => ?_, fun _ _ => by rw [h']; rfl⟩
            have o := OPW.out.below hW
            have := GT.out W o.bl A0 N 1 h.long o.a0 (by omega) (by omega)
            rw [h', Nat.zero_mul]
            exact this
          · refine ⟨A1, OPW.out.l1, fun W hW => ?_, fun _ _ => by rw [h']; rfl⟩
            have o := OPW.out.below hW
            have := GT.out W o.bl A1 N (1 + (N : Int)) h.long o.a1 (by omega) (by omega)
            rw [show (1 + (N : Int)).toNat = 1 + N by omega] at this
            rw [h', Nat.one_mul]
            exact this
        have GTZ := Lib.hid hIA
        have RO := Lib.hid (SO3.out.trans SL.out)
        clear SO3 SL GT FR HRD hIA SO2
        generalize jget d (1 + h.slot * N) N 0 h.long = gr at *
        generalize jframes d (1 + 2 * N) (d.kept.length - 1 - 2 * N) h.used = fr at *
        generalize d.kept.length - 1 - 2 * N = L at *
        obtain ⟨cs, ge⟩ := gr
        obtain ⟨R, fe⟩ := fr
        dsimp only at OK0 RO
        have SZ0 := Lib.hid (rsize_any (OPW.out.a0.below (Below.refl _ w4).drew))
        have SZL := Lib.hid (rsize_any (OPW.out.al.below (Below.refl _ w4).drew))
        obtain ⟨S0, hS0⟩ : ∃ S0 : World → Prop, S0 = fun w' => w'.heap[S]? = some (.cells (srcells B A0 A1 AL ⟨N, L, h, [], [], false⟩ (.slice none 0 0) (.slice none 0 0)) 141 (0, 0)) := ⟨_, rfl⟩
        have SB : Hid (∀ W, Below w4.heap.size w4 W → S0 W) := fun W hb => by rw [hS0]; exact (OPW.out.below hb).blk
        have s0 : S0 w4.drew := SB.out _ (Below.refl _ w4).drew
        have hSA : Hid (∀ w', S0 w' → w'.cell? ⟨S, 1, none⟩ = some (.pointer (some ⟨A0, 0, none⟩)) ∧ w'.cell? ⟨S, 3, none⟩ = some (.pointer (some ⟨AL, 0, none⟩)) ∧ w'.cell? ⟨S, 5, none⟩ = some (.int .i64 (h.long : Int)) ∧ w'.cell? ⟨S, 6, none⟩ = some (.int .i64 (h.used : Int)) ∧ True) := fun w' hh => by
          rw [hS0] at hh
          exact ⟨Joins.cell_of_block hh 1, Joins.cell_of_block hh 3, Joins.cell_of_block hh 5, Joins.cell_of_block hh 6, trivial⟩
        have hSB : Hid (∀ w', S0 w' → w'.cell? ⟨S, 4, none⟩ = some (.int .i64 (h.slot : Int)) ∧ w'.cell? ⟨S, 1 + h.slot, none⟩ = some (.pointer (some ⟨A, 0, none⟩)) ∧ w'.cell? ⟨S, 5, none⟩ = some (.int .i64 (h.long : Int)) ∧ True ∧ True) := fun w' hh => by
          rw [hS0] at hh
          exact ⟨Joins.cell_of_block hh 4, (cell_of_row _ _ (1 + h.slot) _ 141 (0, 0) hh).trans (hAc _ _), Joins.cell_of_block hh 5, trivial, trivial⟩
        clear hAc hS0
        have hSS := hSA
        by_cases hx1 : 32 * N < h.long
        · have E : Hid (ro = (none, 4)) := by have := RO.out; rw [if_pos (.inl hx1)] at this; exact this
          have hl1 : 32 * (N : Int) < (h.long : Int) := by omega
          clear hx1 RO
          refine wp_region_held (S := S0) (by kernel_rfl) ?_
          change wpAnyH _ _ _ _ _ _ _ _ (World.drew _)
          refine wpAnyH_take (i := 0) (v := .pointer (some ⟨S, 0, none⟩)) rfl (by kernel_rfl) (by kernel_rfl) (by kernel_rfl) (fun _ _ _ h => h) (.inl ⟨by rfl, by intro w hw; go_simp⟩) s0 ?_
          try simp only [Act.put, List.getElem_toArray, List.getElem_cons_zero, List.getElem_cons_succ, List.setIfInBounds_toArray, List.set_cons_zero, List.set_cons_succ]
          refine wpAnyH_take (i := 1) (v := .pointer (some ⟨S, 0, none⟩)) rfl (by kernel_rfl) (by kernel_rfl) (by kernel_rfl) (fun _ _ _ h => h) (.inl ⟨by rfl, by intro w hw; go_simp⟩) s0 ?_
          try simp only [Act.put, List.getElem_toArray, List.getElem_cons_zero, List.getElem_cons_succ, List.setIfInBounds_toArray, List.set_cons_zero, List.set_cons_succ]
          refine wpAnyH_take (i := 2) (v := .pointer (some ⟨S, 5, none⟩)) rfl (by kernel_rfl) (by kernel_rfl) (by kernel_rfl) (fun _ _ _ h => h) (.inl ⟨by rfl, by intro w hw; go_simp⟩) s0 ?_
          try simp only [Act.put, List.getElem_toArray, List.getElem_cons_zero, List.getElem_cons_succ, List.setIfInBounds_toArray, List.set_cons_zero, List.set_cons_succ]
          refine wpAnyH_take (i := 3) (v := .int .i64 (h.long : Int)) rfl (by kernel_rfl) (by kernel_rfl) (by kernel_rfl) (fun _ _ _ h => h) (.inl ⟨by rfl, by intro w hw; have h := hSS.out w hw; obtain ⟨q0, q1, q2, q3, q4⟩ := h; go_simp⟩) s0 ?_
          try simp only [Act.put, List.getElem_toArray, List.getElem_cons_zero, List.getElem_cons_succ, List.setIfInBounds_toArray, List.set_cons_zero, List.set_cons_succ]
          refine wpAnyH_take (i := 4) (v := .pointer (some ⟨S, 0, none⟩)) rfl (by kernel_rfl) (by kernel_rfl) (by kernel_rfl) (fun _ _ _ h => h) (.inl ⟨by rfl, by intro w hw; go_simp⟩) s0 ?_
          try simp only [Act.put, List.getElem_toArray, List.getElem_cons_zero, List.getElem_cons_succ, List.setIfInBounds_toArray, List.set_cons_zero, List.set_cons_succ]
          refine wpAnyH_take (i := 5) (v := .pointer (some ⟨S, 0, none⟩)) rfl (by kernel_rfl) (by kernel_rfl) (by kernel_rfl) (fun _ _ _ h => h) (.inl ⟨by rfl, by intro w hw; go_simp⟩) s0 ?_
          try simp only [Act.put, List.getElem_toArray, List.getElem_cons_zero, List.getElem_cons_succ, List.setIfInBounds_toArray, List.set_cons_zero, List.set_cons_succ]
          refine wpAnyH_take (i := 6) (v := .pointer (some ⟨S, 1, none⟩)) rfl (by kernel_rfl) (by kernel_rfl) (by kernel_rfl) (fun _ _ _ h => h) (.inl ⟨by rfl, by intro w hw; go_simp⟩) s0 ?_
          try simp only [Act.put, List.getElem_toArray, List.getElem_cons_zero, List.getElem_cons_succ, List.setIfInBounds_toArray, List.set_cons_zero, List.set_cons_succ]
          refine wpAnyH_take (i := 7) (v := .pointer (some ⟨S, 1, none⟩)) rfl (by kernel_rfl) (by kernel_rfl) (by kernel_rfl) (fun _ _ _ h => h) (.inl ⟨by rfl, by intro w hw; go_simp⟩) s0 ?_
          try simp only [Act.put, List.getElem_toArray, List.getElem_cons_zero, List.getElem_cons_succ, List.setIfInBounds_toArray, List.set_cons_zero, List.set_cons_succ]
          refine wpAnyH_take (i := 8) (v := .pointer (some ⟨A0, 0, none⟩)) rfl (by kernel_rfl) (by kernel_rfl) (by kernel_rfl) (fun _ _ _ h => h) (.inl ⟨by rfl, by intro w hw; have h := hSS.out w hw; obtain ⟨q0, q1, q2, q3, q4⟩ := h; go_simp⟩) s0 ?_
          try simp only [Act.put, List.getElem_toArray, List.getElem_cons_zero, List.getElem_cons_succ, List.setIfInBounds_toArray, List.set_cons_zero, List.set_cons_succ]
          refine wpAnyH_one (i := 9) (by kernel_rfl) rfl (by rfl) (fun Kc hK => ?_)
          go_simp
          refine ((SZ0.out).mono ?_)
          rintro en wz ⟨rfl, rfl⟩
          go_simp
          refine hK _ _ s0 ?_
          clear hK Kc
          try simp only [Act.put, List.getElem_toArray, List.getElem_cons_zero, List.getElem_cons_succ, List.setIfInBounds_toArray, List.set_cons_zero, List.set_cons_succ]
          refine wpAnyH_take (i := 10) (v := .bool true) rfl (by kernel_rfl) (by kernel_rfl) (by kernel_rfl) (fun _ _ _ h => h) (.inl ⟨by rfl, by intro w hw; go_simp; try simp [hl1]⟩) s0 ?_
          try simp only [Act.put, List.getElem_toArray, List.getElem_cons_zero, List.getElem_cons_succ, List.setIfInBounds_toArray, List.set_cons_zero, List.set_cons_succ]
          refine wpAnyH_take (i := 11) (v := .bool true) rfl (by kernel_rfl) (by kernel_rfl) (by kernel_rfl) (fun _ _ _ h => h) (.inl ⟨by rfl, by intro w hw; go_simp⟩) s0 ?_
          try simp only [Act.put, List.getElem_toArray, List.getElem_cons_zero, List.getElem_cons_succ, List.setIfInBounds_toArray, List.set_cons_zero, List.set_cons_succ]
          refine wpAnyH_take (i := 12) (v := undef) rfl (by kernel_rfl) (by kernel_rfl) (by kernel_rfl) (fun _ _ _ h => h) (.inr ⟨by rfl, rfl⟩) s0 ?_
          try simp only [Act.put, List.getElem_toArray, List.getElem_cons_zero, List.getElem_cons_succ, List.setIfInBounds_toArray, List.set_cons_zero, List.set_cons_succ]
          refine wpAnyH_take (i := 13) (v := undef) rfl (by kernel_rfl) (by kernel_rfl) (by kernel_rfl) (fun _ _ _ h => h) (.inr ⟨by rfl, rfl⟩) s0 ?_
          try simp only [Act.put, List.getElem_toArray, List.getElem_cons_zero, List.getElem_cons_succ, List.setIfInBounds_toArray, List.set_cons_zero, List.set_cons_succ]
          refine wpAnyH_take (i := 14) (v := undef) rfl (by kernel_rfl) (by kernel_rfl) (by kernel_rfl) (fun _ _ _ h => h) (.inr ⟨by rfl, rfl⟩) s0 ?_
          try simp only [Act.put, List.getElem_toArray, List.getElem_cons_zero, List.getElem_cons_succ, List.setIfInBounds_toArray, List.set_cons_zero, List.set_cons_succ]
          refine wpAnyH_take (i := 15) (v := undef) rfl (by kernel_rfl) (by kernel_rfl) (by kernel_rfl) (fun _ _ _ h => h) (.inr ⟨by rfl, rfl⟩) s0 ?_
          try simp only [Act.put, List.getElem_toArray, List.getElem_cons_zero, List.getElem_cons_succ, List.setIfInBounds_toArray, List.set_cons_zero, List.set_cons_succ]
          refine wpAnyH_take (i := 16) (v := undef) rfl (by kernel_rfl) (by kernel_rfl) (by kernel_rfl) (fun _ _ _ h => h) (.inr ⟨by rfl, rfl⟩) s0 ?_
          try simp only [Act.put, List.getElem_toArray, List.getElem_cons_zero, List.getElem_cons_succ, List.setIfInBounds_toArray, List.set_cons_zero, List.set_cons_succ]
          refine wpAnyH_take (i := 17) (v := undef) rfl (by kernel_rfl) (by kernel_rfl) (by kernel_rfl) (fun _ _ _ h => h) (.inr ⟨by rfl, rfl⟩) s0 ?_
          try simp only [Act.put, List.getElem_toArray, List.getElem_cons_zero, List.getElem_cons_succ, List.setIfInBounds_toArray, List.set_cons_zero, List.set_cons_succ]
          refine wpAnyH_take (i := 18) (v := undef) rfl (by kernel_rfl) (by kernel_rfl) (by kernel_rfl) (fun _ _ _ h => h) (.inr ⟨by rfl, rfl⟩) s0 ?_
          try simp only [Act.put, List.getElem_toArray, List.getElem_cons_zero, List.getElem_cons_succ, List.setIfInBounds_toArray, List.set_cons_zero, List.set_cons_succ]
          refine wpAnyH_take (i := 19) (v := undef) rfl (by kernel_rfl) (by kernel_rfl) (by kernel_rfl) (fun _ _ _ h => h) (.inr ⟨by rfl, rfl⟩) s0 ?_
          try simp only [Act.put, List.getElem_toArray, List.getElem_cons_zero, List.getElem_cons_succ, List.setIfInBounds_toArray, List.set_cons_zero, List.set_cons_succ]
          refine wpAnyH_take (i := 20) (v := undef) rfl (by kernel_rfl) (by kernel_rfl) (by kernel_rfl) (fun _ _ _ h => h) (.inr ⟨by rfl, rfl⟩) s0 ?_
          try simp only [Act.put, List.getElem_toArray, List.getElem_cons_zero, List.getElem_cons_succ, List.setIfInBounds_toArray, List.set_cons_zero, List.set_cons_succ]
          refine wpAnyH_take (i := 21) (v := undef) rfl (by kernel_rfl) (by kernel_rfl) (by kernel_rfl) (fun _ _ _ h => h) (.inr ⟨by rfl, rfl⟩) s0 ?_
          try simp only [Act.put, List.getElem_toArray, List.getElem_cons_zero, List.getElem_cons_succ, List.setIfInBounds_toArray, List.set_cons_zero, List.set_cons_succ]
          refine wpAnyH_take (i := 22) (v := .bool true) rfl (by kernel_rfl) (by kernel_rfl) (by kernel_rfl) (fun _ _ _ h => h) (.inl ⟨by rfl, by intro w hw; go_simp⟩) s0 ?_
          try simp only [Act.put, List.getElem_toArray, List.getElem_cons_zero, List.getElem_cons_succ, List.setIfInBounds_toArray, List.set_cons_zero, List.set_cons_succ]
          refine wpAnyH_done (by kernel_rfl) ?_ _
          clear s0 hSS hSA hSB
          go_wp2_with fail
          refine bodyPost_ret (v := .tuple #[.pointer none, .int .i64 4]) (by simp [results, Try.results78, go_sem]) rfl ?_
          exact ROpenOf.none 4 E.out OPW.out.bl.drew rfl
        have hl1 : ¬ 32 * (N : Int) < (h.long : Int) := by omega
        by_cases hx2 : 32 * L < h.used
        · have E : Hid (ro = (none, 4)) := by have := RO.out; rw [if_pos (.inr hx2)] at this; exact this
          have hl2 : 32 * (L : Int) < (h.used : Int) := by omega
          clear hx1 hx2 RO
          refine wp_region_held (S := S0) (by kernel_rfl) ?_
          change wpAnyH _ _ _ _ _ _ _ _ (World.drew _)
          refine wpAnyH_take (i := 0) (v := .pointer (some ⟨S, 0, none⟩)) rfl (by kernel_rfl) (by kernel_rfl) (by kernel_rfl) (fun _ _ _ h => h) (.inl ⟨by rfl, by intro w hw; go_simp⟩) s0 ?_
          try simp only [Act.put, List.getElem_toArray, List.getElem_cons_zero, List.getElem_cons_succ, List.setIfInBounds_toArray, List.set_cons_zero, List.set_cons_succ]
          refine wpAnyH_take (i := 1) (v := .pointer (some ⟨S, 0, none⟩)) rfl (by kernel_rfl) (by kernel_rfl) (by kernel_rfl) (fun _ _ _ h => h) (.inl ⟨by rfl, by intro w hw; go_simp⟩) s0 ?_
          try simp only [Act.put, List.getElem_toArray, List.getElem_cons_zero, List.getElem_cons_succ, List.setIfInBounds_toArray, List.set_cons_zero, List.set_cons_succ]
          refine wpAnyH_take (i := 2) (v := .pointer (some ⟨S, 5, none⟩)) rfl (by kernel_rfl) (by kernel_rfl) (by kernel_rfl) (fun _ _ _ h => h) (.inl ⟨by rfl, by intro w hw; go_simp⟩) s0 ?_
          try simp only [Act.put, List.getElem_toArray, List.getElem_cons_zero, List.getElem_cons_succ, List.setIfInBounds_toArray, List.set_cons_zero, List.set_cons_succ]
          refine wpAnyH_take (i := 3) (v := .int .i64 (h.long : Int)) rfl (by kernel_rfl) (by kernel_rfl) (by kernel_rfl) (fun _ _ _ h => h) (.inl ⟨by rfl, by intro w hw; have h := hSS.out w hw; obtain ⟨q0, q1, q2, q3, q4⟩ := h; go_simp⟩) s0 ?_
          try simp only [Act.put, List.getElem_toArray, List.getElem_cons_zero, List.getElem_cons_succ, List.setIfInBounds_toArray, List.set_cons_zero, List.set_cons_succ]
          refine wpAnyH_take (i := 4) (v := .pointer (some ⟨S, 0, none⟩)) rfl (by kernel_rfl) (by kernel_rfl) (by kernel_rfl) (fun _ _ _ h => h) (.inl ⟨by rfl, by intro w hw; go_simp⟩) s0 ?_
          try simp only [Act.put, List.getElem_toArray, List.getElem_cons_zero, List.getElem_cons_succ, List.setIfInBounds_toArray, List.set_cons_zero, List.set_cons_succ]
          refine wpAnyH_take (i := 5) (v := .pointer (some ⟨S, 0, none⟩)) rfl (by kernel_rfl) (by kernel_rfl) (by kernel_rfl) (fun _ _ _ h => h) (.inl ⟨by rfl, by intro w hw; go_simp⟩) s0 ?_
          try simp only [Act.put, List.getElem_toArray, List.getElem_cons_zero, List.getElem_cons_succ, List.setIfInBounds_toArray, List.set_cons_zero, List.set_cons_succ]
          refine wpAnyH_take (i := 6) (v := .pointer (some ⟨S, 1, none⟩)) rfl (by kernel_rfl) (by kernel_rfl) (by kernel_rfl) (fun _ _ _ h => h) (.inl ⟨by rfl, by intro w hw; go_simp⟩) s0 ?_
          try simp only [Act.put, List.getElem_toArray, List.getElem_cons_zero, List.getElem_cons_succ, List.setIfInBounds_toArray, List.set_cons_zero, List.set_cons_succ]
          refine wpAnyH_take (i := 7) (v := .pointer (some ⟨S, 1, none⟩)) rfl (by kernel_rfl) (by kernel_rfl) (by kernel_rfl) (fun _ _ _ h => h) (.inl ⟨by rfl, by intro w hw; go_simp⟩) s0 ?_
          try simp only [Act.put, List.getElem_toArray, List.getElem_cons_zero, List.getElem_cons_succ, List.setIfInBounds_toArray, List.set_cons_zero, List.set_cons_succ]
          refine wpAnyH_take (i := 8) (v := .pointer (some ⟨A0, 0, none⟩)) rfl (by kernel_rfl) (by kernel_rfl) (by kernel_rfl) (fun _ _ _ h => h) (.inl ⟨by rfl, by intro w hw; have h := hSS.out w hw; obtain ⟨q0, q1, q2, q3, q4⟩ := h; go_simp⟩) s0 ?_
          try simp only [Act.put, List.getElem_toArray, List.getElem_cons_zero, List.getElem_cons_succ, List.setIfInBounds_toArray, List.set_cons_zero, List.set_cons_succ]
          refine wpAnyH_one (i := 9) (by kernel_rfl) rfl (by rfl) (fun Kc hK => ?_)
          go_simp
          refine ((SZ0.out).mono ?_)
          rintro en wz ⟨rfl, rfl⟩
          go_simp
          refine hK _ _ s0 ?_
          clear hK Kc
          try simp only [Act.put, List.getElem_toArray, List.getElem_cons_zero, List.getElem_cons_succ, List.setIfInBounds_toArray, List.set_cons_zero, List.set_cons_succ]
          refine wpAnyH_take (i := 10) (v := .bool false) rfl (by kernel_rfl) (by kernel_rfl) (by kernel_rfl) (fun _ _ _ h => h) (.inl ⟨by rfl, by intro w hw; go_simp; try simp [hl1]⟩) s0 ?_
          try simp only [Act.put, List.getElem_toArray, List.getElem_cons_zero, List.getElem_cons_succ, List.setIfInBounds_toArray, List.set_cons_zero, List.set_cons_succ]
          refine wpAnyH_take (i := 11) (v := .bool false) rfl (by kernel_rfl) (by kernel_rfl) (by kernel_rfl) (fun _ _ _ h => h) (.inl ⟨by rfl, by intro w hw; go_simp⟩) s0 ?_
          try simp only [Act.put, List.getElem_toArray, List.getElem_cons_zero, List.getElem_cons_succ, List.setIfInBounds_toArray, List.set_cons_zero, List.set_cons_succ]
          refine wpAnyH_take (i := 12) (v := .pointer (some ⟨S, 0, none⟩)) rfl (by kernel_rfl) (by kernel_rfl) (by kernel_rfl) (fun _ _ _ h => h) (.inl ⟨by rfl, by intro w hw; go_simp⟩) s0 ?_
          try simp only [Act.put, List.getElem_toArray, List.getElem_cons_zero, List.getElem_cons_succ, List.setIfInBounds_toArray, List.set_cons_zero, List.set_cons_succ]
          refine wpAnyH_take (i := 13) (v := .pointer (some ⟨S, 0, none⟩)) rfl (by kernel_rfl) (by kernel_rfl) (by kernel_rfl) (fun _ _ _ h => h) (.inl ⟨by rfl, by intro w hw; go_simp⟩) s0 ?_
          try simp only [Act.put, List.getElem_toArray, List.getElem_cons_zero, List.getElem_cons_succ, List.setIfInBounds_toArray, List.set_cons_zero, List.set_cons_succ]
          refine wpAnyH_take (i := 14) (v := .pointer (some ⟨S, 6, none⟩)) rfl (by kernel_rfl) (by kernel_rfl) (by kernel_rfl) (fun _ _ _ h => h) (.inl ⟨by rfl, by intro w hw; go_simp⟩) s0 ?_
          try simp only [Act.put, List.getElem_toArray, List.getElem_cons_zero, List.getElem_cons_succ, List.setIfInBounds_toArray, List.set_cons_zero, List.set_cons_succ]
          refine wpAnyH_take (i := 15) (v := .int .i64 (h.used : Int)) rfl (by kernel_rfl) (by kernel_rfl) (by kernel_rfl) (fun _ _ _ h => h) (.inl ⟨by rfl, by intro w hw; have h := hSS.out w hw; obtain ⟨q0, q1, q2, q3, q4⟩ := h; go_simp⟩) s0 ?_
          try simp only [Act.put, List.getElem_toArray, List.getElem_cons_zero, List.getElem_cons_succ, List.setIfInBounds_toArray, List.set_cons_zero, List.set_cons_succ]
          refine wpAnyH_take (i := 16) (v := .pointer (some ⟨S, 0, none⟩)) rfl (by kernel_rfl) (by kernel_rfl) (by kernel_rfl) (fun _ _ _ h => h) (.inl ⟨by rfl, by intro w hw; go_simp⟩) s0 ?_
          try simp only [Act.put, List.getElem_toArray, List.getElem_cons_zero, List.getElem_cons_succ, List.setIfInBounds_toArray, List.set_cons_zero, List.set_cons_succ]
          refine wpAnyH_take (i := 17) (v := .pointer (some ⟨S, 0, none⟩)) rfl (by kernel_rfl) (by kernel_rfl) (by kernel_rfl) (fun _ _ _ h => h) (.inl ⟨by rfl, by intro w hw; go_simp⟩) s0 ?_
          try simp only [Act.put, List.getElem_toArray, List.getElem_cons_zero, List.getElem_cons_succ, List.setIfInBounds_toArray, List.set_cons_zero, List.set_cons_succ]
          refine wpAnyH_take (i := 18) (v := .pointer (some ⟨S, 3, none⟩)) rfl (by kernel_rfl) (by kernel_rfl) (by kernel_rfl) (fun _ _ _ h => h) (.inl ⟨by rfl, by intro w hw; go_simp⟩) s0 ?_
          try simp only [Act.put, List.getElem_toArray, List.getElem_cons_zero, List.getElem_cons_succ, List.setIfInBounds_toArray, List.set_cons_zero, List.set_cons_succ]
          refine wpAnyH_take (i := 19) (v := .pointer (some ⟨AL, 0, none⟩)) rfl (by kernel_rfl) (by kernel_rfl) (by kernel_rfl) (fun _ _ _ h => h) (.inl ⟨by rfl, by intro w hw; have h := hSS.out w hw; obtain ⟨q0, q1, q2, q3, q4⟩ := h; go_simp⟩) s0 ?_
          try simp only [Act.put, List.getElem_toArray, List.getElem_cons_zero, List.getElem_cons_succ, List.setIfInBounds_toArray, List.set_cons_zero, List.set_cons_succ]
          refine wpAnyH_one (i := 20) (by kernel_rfl) rfl (by rfl) (fun Kc hK => ?_)
          go_simp
          refine ((SZL.out).mono ?_)
          rintro en wz ⟨rfl, rfl⟩
          go_simp
          refine hK _ _ s0 ?_
          clear hK Kc
          try simp only [Act.put, List.getElem_toArray, List.getElem_cons_zero, List.getElem_cons_succ, List.setIfInBounds_toArray, List.set_cons_zero, List.set_cons_succ]
          refine wpAnyH_take (i := 21) (v := .bool true) rfl (by kernel_rfl) (by kernel_rfl) (by kernel_rfl) (fun _ _ _ h => h) (.inl ⟨by rfl, by intro w hw; go_simp; try simp [hl2]⟩) s0 ?_
          try simp only [Act.put, List.getElem_toArray, List.getElem_cons_zero, List.getElem_cons_succ, List.setIfInBounds_toArray, List.set_cons_zero, List.set_cons_succ]
          refine wpAnyH_take (i := 22) (v := .bool true) rfl (by kernel_rfl) (by kernel_rfl) (by kernel_rfl) (fun _ _ _ h => h) (.inl ⟨by rfl, by intro w hw; go_simp⟩) s0 ?_
          try simp only [Act.put, List.getElem_toArray, List.getElem_cons_zero, List.getElem_cons_succ, List.setIfInBounds_toArray, List.set_cons_zero, List.set_cons_succ]
          refine wpAnyH_done (by kernel_rfl) ?_ _
          clear s0 hSS hSA hSB
          go_wp2_with fail
          refine bodyPost_ret (v := .tuple #[.pointer none, .int .i64 4]) (by simp [results, Try.results78, go_sem]) rfl ?_
          exact ROpenOf.none 4 E.out OPW.out.bl.drew rfl
        have hl2 : ¬ 32 * (L : Int) < (h.used : Int) := by omega
        have RO2 : Hid (ro = if ge ≠ 0 then (none, ge) else if fe ≠ 0 then (none, fe) else (some ⟨N, L, h, cs, R, false⟩, 0)) := by have := RO.out; rw [if_neg (by omega)] at this; exact this
        have OK1 : Hid (fe = 0 → StOk ⟨N, L, h, cs, R, false⟩) := fun h0 => OK0.out cs R hx1 hx2 rfl (by rw [h0])
        clear hx1 hx2 RO OK0
        refine wp_region_held (S := S0) (by kernel_rfl) ?_
        change wpAnyH _ _ _ _ _ _ _ _ (World.drew _)
        refine wpAnyH_take (i := 0) (v := .pointer (some ⟨S, 0, none⟩)) rfl (by kernel_rfl) (by kernel_rfl) (by kernel_rfl) (fun _ _ _ h => h) (.inl ⟨by rfl, by intro w hw; go_simp⟩) s0 ?_
        try simp only [Act.put, List.getElem_toArray, List.getElem_cons_zero, List.getElem_cons_succ, List.setIfInBounds_toArray, List.set_cons_zero, List.set_cons_succ]
        refine wpAnyH_take (i := 1) (v := .pointer (some ⟨S, 0, none⟩)) rfl (by kernel_rfl) (by kernel_rfl) (by kernel_rfl) (fun _ _ _ h => h) (.inl ⟨by rfl, by intro w hw; go_simp⟩) s0 ?_
        try simp only [Act.put, List.getElem_toArray, List.getElem_cons_zero, List.getElem_cons_succ, List.setIfInBounds_toArray, List.set_cons_zero, List.set_cons_succ]
        refine wpAnyH_take (i := 2) (v := .pointer (some ⟨S, 5, none⟩)) rfl (by kernel_rfl) (by kernel_rfl) (by kernel_rfl) (fun _ _ _ h => h) (.inl ⟨by rfl, by intro w hw; go_simp⟩) s0 ?_
        try simp only [Act.put, List.getElem_toArray, List.getElem_cons_zero, List.getElem_cons_succ, List.setIfInBounds_toArray, List.set_cons_zero, List.set_cons_succ]
        refine wpAnyH_take (i := 3) (v := .int .i64 (h.long : Int)) rfl (by kernel_rfl) (by kernel_rfl) (by kernel_rfl) (fun _ _ _ h => h) (.inl ⟨by rfl, by intro w hw; have h := hSS.out w hw; obtain ⟨q0, q1, q2, q3, q4⟩ := h; go_simp⟩) s0 ?_
        try simp only [Act.put, List.getElem_toArray, List.getElem_cons_zero, List.getElem_cons_succ, List.setIfInBounds_toArray, List.set_cons_zero, List.set_cons_succ]
        refine wpAnyH_take (i := 4) (v := .pointer (some ⟨S, 0, none⟩)) rfl (by kernel_rfl) (by kernel_rfl) (by kernel_rfl) (fun _ _ _ h => h) (.inl ⟨by rfl, by intro w hw; go_simp⟩) s0 ?_
        try simp only [Act.put, List.getElem_toArray, List.getElem_cons_zero, List.getElem_cons_succ, List.setIfInBounds_toArray, List.set_cons_zero, List.set_cons_succ]
        refine wpAnyH_take (i := 5) (v := .pointer (some ⟨S, 0, none⟩)) rfl (by kernel_rfl) (by kernel_rfl) (by kernel_rfl) (fun _ _ _ h => h) (.inl ⟨by rfl, by intro w hw; go_simp⟩) s0 ?_
        try simp only [Act.put, List.getElem_toArray, List.getElem_cons_zero, List.getElem_cons_succ, List.setIfInBounds_toArray, List.set_cons_zero, List.set_cons_succ]
        refine wpAnyH_take (i := 6) (v := .pointer (some ⟨S, 1, none⟩)) rfl (by kernel_rfl) (by kernel_rfl) (by kernel_rfl) (fun _ _ _ h => h) (.inl ⟨by rfl, by intro w hw; go_simp⟩) s0 ?_
        try simp only [Act.put, List.getElem_toArray, List.getElem_cons_zero, List.getElem_cons_succ, List.setIfInBounds_toArray, List.set_cons_zero, List.set_cons_succ]
        refine wpAnyH_take (i := 7) (v := .pointer (some ⟨S, 1, none⟩)) rfl (by kernel_rfl) (by kernel_rfl) (by kernel_rfl) (fun _ _ _ h => h) (.inl ⟨by rfl, by intro w hw; go_simp⟩) s0 ?_
        try simp only [Act.put, List.getElem_toArray, List.getElem_cons_zero, List.getElem_cons_succ, List.setIfInBounds_toArray, List.set_cons_zero, List.set_cons_succ]
        refine wpAnyH_take (i := 8) (v := .pointer (some ⟨A0, 0, none⟩)) rfl (by kernel_rfl) (by kernel_rfl) (by kernel_rfl) (fun _ _ _ h => h) (.inl ⟨by rfl, by intro w hw; have h := hSS.out w hw; obtain ⟨q0, q1, q2, q3, q4⟩ := h; go_simp⟩) s0 ?_
        try simp only [Act.put, List.getElem_toArray, List.getElem_cons_zero, List.getElem_cons_succ, List.setIfInBounds_toArray, List.set_cons_zero, List.set_cons_succ]
        refine wpAnyH_one (i := 9) (by kernel_rfl) rfl (by rfl) (fun Kc hK => ?_)
        go_simp
        refine ((SZ0.out).mono ?_)
        rintro en wz ⟨rfl, rfl⟩
        go_simp
        refine hK _ _ s0 ?_
        clear hK Kc
        try simp only [Act.put, List.getElem_toArray, List.getElem_cons_zero, List.getElem_cons_succ, List.setIfInBounds_toArray, List.set_cons_zero, List.set_cons_succ]
        refine wpAnyH_take (i := 10) (v := .bool false) rfl (by kernel_rfl) (by kernel_rfl) (by kernel_rfl) (fun _ _ _ h => h) (.inl ⟨by rfl, by intro w hw; go_simp; try simp [hl1]⟩) s0 ?_
        try simp only [Act.put, List.getElem_toArray, List.getElem_cons_zero, List.getElem_cons_succ, List.setIfInBounds_toArray, List.set_cons_zero, List.set_cons_succ]
        refine wpAnyH_take (i := 11) (v := .bool false) rfl (by kernel_rfl) (by kernel_rfl) (by kernel_rfl) (fun _ _ _ h => h) (.inl ⟨by rfl, by intro w hw; go_simp⟩) s0 ?_
        try simp only [Act.put, List.getElem_toArray, List.getElem_cons_zero, List.getElem_cons_succ, List.setIfInBounds_toArray, List.set_cons_zero, List.set_cons_succ]
        refine wpAnyH_take (i := 12) (v := .pointer (some ⟨S, 0, none⟩)) rfl (by kernel_rfl) (by kernel_rfl) (by kernel_rfl) (fun _ _ _ h => h) (.inl ⟨by rfl, by intro w hw; go_simp⟩) s0 ?_
        try simp only [Act.put, List.getElem_toArray, List.getElem_cons_zero, List.getElem_cons_succ, List.setIfInBounds_toArray, List.set_cons_zero, List.set_cons_succ]
        refine wpAnyH_take (i := 13) (v := .pointer (some ⟨S, 0, none⟩)) rfl (by kernel_rfl) (by kernel_rfl) (by kernel_rfl) (fun _ _ _ h => h) (.inl ⟨by rfl, by intro w hw; go_simp⟩) s0 ?_
        try simp only [Act.put, List.getElem_toArray, List.getElem_cons_zero, List.getElem_cons_succ, List.setIfInBounds_toArray, List.set_cons_zero, List.set_cons_succ]
        refine wpAnyH_take (i := 14) (v := .pointer (some ⟨S, 6, none⟩)) rfl (by kernel_rfl) (by kernel_rfl) (by kernel_rfl) (fun _ _ _ h => h) (.inl ⟨by rfl, by intro w hw; go_simp⟩) s0 ?_
        try simp only [Act.put, List.getElem_toArray, List.getElem_cons_zero, List.getElem_cons_succ, List.setIfInBounds_toArray, List.set_cons_zero, List.set_cons_succ]
        refine wpAnyH_take (i := 15) (v := .int .i64 (h.used : Int)) rfl (by kernel_rfl) (by kernel_rfl) (by kernel_rfl) (fun _ _ _ h => h) (.inl ⟨by rfl, by intro w hw; have h := hSS.out w hw; obtain ⟨q0, q1, q2, q3, q4⟩ := h; go_simp⟩) s0 ?_
        try simp only [Act.put, List.getElem_toArray, List.getElem_cons_zero, List.getElem_cons_succ, List.setIfInBounds_toArray, List.set_cons_zero, List.set_cons_succ]
        refine wpAnyH_take (i := 16) (v := .pointer (some ⟨S, 0, none⟩)) rfl (by kernel_rfl) (by kernel_rfl) (by kernel_rfl) (fun _ _ _ h => h) (.inl ⟨by rfl, by intro w hw; go_simp⟩) s0 ?_
        try simp only [Act.put, List.getElem_toArray, List.getElem_cons_zero, List.getElem_cons_succ, List.setIfInBounds_toArray, List.set_cons_zero, List.set_cons_succ]
        refine wpAnyH_take (i := 17) (v := .pointer (some ⟨S, 0, none⟩)) rfl (by kernel_rfl) (by kernel_rfl) (by kernel_rfl) (fun _ _ _ h => h) (.inl ⟨by rfl, by intro w hw; go_simp⟩) s0 ?_
        try simp only [Act.put, List.getElem_toArray, List.getElem_cons_zero, List.getElem_cons_succ, List.setIfInBounds_toArray, List.set_cons_zero, List.set_cons_succ]
        refine wpAnyH_take (i := 18) (v := .pointer (some ⟨S, 3, none⟩)) rfl (by kernel_rfl) (by kernel_rfl) (by kernel_rfl) (fun _ _ _ h => h) (.inl ⟨by rfl, by intro w hw; go_simp⟩) s0 ?_
        try simp only [Act.put, List.getElem_toArray, List.getElem_cons_zero, List.getElem_cons_succ, List.setIfInBounds_toArray, List.set_cons_zero, List.set_cons_succ]
        refine wpAnyH_take (i := 19) (v := .pointer (some ⟨AL, 0, none⟩)) rfl (by kernel_rfl) (by kernel_rfl) (by kernel_rfl) (fun _ _ _ h => h) (.inl ⟨by rfl, by intro w hw; have h := hSS.out w hw; obtain ⟨q0, q1, q2, q3, q4⟩ := h; go_simp⟩) s0 ?_
        try simp only [Act.put, List.getElem_toArray, List.getElem_cons_zero, List.getElem_cons_succ, List.setIfInBounds_toArray, List.set_cons_zero, List.set_cons_succ]
        refine wpAnyH_one (i := 20) (by kernel_rfl) rfl (by rfl) (fun Kc hK => ?_)
        go_simp
        refine ((SZL.out).mono ?_)
        rintro en wz ⟨rfl, rfl⟩
        go_simp
        refine hK _ _ s0 ?_
        clear hK Kc
        try simp only [Act.put, List.getElem_toArray, List.getElem_cons_zero, List.getElem_cons_succ, List.setIfInBounds_toArray, List.set_cons_zero, List.set_cons_succ]
        refine wpAnyH_take (i := 21) (v := .bool false) rfl (by kernel_rfl) (by kernel_rfl) (by kernel_rfl) (fun _ _ _ h => h) (.inl ⟨by rfl, by intro w hw; go_simp; try simp [hl2]⟩) s0 ?_
        try simp only [Act.put, List.getElem_toArray, List.getElem_cons_zero, List.getElem_cons_succ, List.setIfInBounds_toArray, List.set_cons_zero, List.set_cons_succ]
        refine wpAnyH_take (i := 22) (v := .bool false) rfl (by kernel_rfl) (by kernel_rfl) (by kernel_rfl) (fun _ _ _ h => h) (.inl ⟨by rfl, by intro w hw; go_simp⟩) s0 ?_
        try simp only [Act.put, List.getElem_toArray, List.getElem_cons_zero, List.getElem_cons_succ, List.setIfInBounds_toArray, List.set_cons_zero, List.set_cons_succ]
        refine wpAnyH_done (by kernel_rfl) ?_ _
        clear hSS
        have hSS := hSB
        have hsl0 : (0 : Int) ≤ (h.slot : Int) := by omega
        have hsl2 : (h.slot : Int) < 2 := by omega
        clear SZ0 SZL s0
        have OPD0 := OPW.out.below (Below.refl _ w4).drew
        have hbd : Below w4.heap.size w4 w4.drew := (Below.refl _ w4).drew
        obtain ⟨wd, hwd⟩ : ∃ wd, w4.drew = wd := ⟨_, rfl⟩
        rw [hwd] at OPD0 hbd ⊢
        have OPD := Lib.hid OPD0
        have GTW := Lib.hid (GTZ.out wd.drew hbd.drew)
        have SBD : Hid (∀ W, Below wd.heap.size wd W → S0 W) := fun W hb => SB.out W (hbd.trans (hb.mono hbd.size))
        have s0 : S0 wd.drew := SBD.out _ (Below.refl _ wd).drew
        clear OPD0 hwd hbd GTZ SB
        clear hSA hSB
        go_wp2_with fail
        refine wp_region_held (S := S0) (by kernel_rfl) ?_
        change wpAnyH _ _ _ _ _ _ _ _ (World.drew _)
        refine wpAnyH_take (i := 0) (v := .pointer (some ⟨S, 0, none⟩)) rfl (by kernel_rfl) (by kernel_rfl) (by kernel_rfl) (fun _ _ _ h => h) (.inl ⟨by rfl, by intro w hw; go_simp⟩) s0 ?_
        try simp only [Act.put, List.getElem_toArray, List.getElem_cons_zero, List.getElem_cons_succ, List.setIfInBounds_toArray, List.set_cons_zero, List.set_cons_succ]
        refine wpAnyH_take (i := 1) (v := .pointer (some ⟨S, 0, none⟩)) rfl (by kernel_rfl) (by kernel_rfl) (by kernel_rfl) (fun _ _ _ h => h) (.inl ⟨by rfl, by intro w hw; go_simp⟩) s0 ?_
        try simp only [Act.put, List.getElem_toArray, List.getElem_cons_zero, List.getElem_cons_succ, List.setIfInBounds_toArray, List.set_cons_zero, List.set_cons_succ]
        refine wpAnyH_take (i := 2) (v := .pointer (some ⟨S, 0, none⟩)) rfl (by kernel_rfl) (by kernel_rfl) (by kernel_rfl) (fun _ _ _ h => h) (.inl ⟨by rfl, by intro w hw; go_simp⟩) s0 ?_
        try simp only [Act.put, List.getElem_toArray, List.getElem_cons_zero, List.getElem_cons_succ, List.setIfInBounds_toArray, List.set_cons_zero, List.set_cons_succ]
        refine wpAnyH_take (i := 3) (v := .pointer (some ⟨S, 4, none⟩)) rfl (by kernel_rfl) (by kernel_rfl) (by kernel_rfl) (fun _ _ _ h => h) (.inl ⟨by rfl, by intro w hw; go_simp⟩) s0 ?_
        try simp only [Act.put, List.getElem_toArray, List.getElem_cons_zero, List.getElem_cons_succ, List.setIfInBounds_toArray, List.set_cons_zero, List.set_cons_succ]
        refine wpAnyH_take (i := 4) (v := .int .i64 (h.slot : Int)) rfl (by kernel_rfl) (by kernel_rfl) (by kernel_rfl) (fun _ _ _ h => h) (.inl ⟨by rfl, by intro w hw; have h := hSS.out w hw; obtain ⟨q0, q1, q2, q3, q4⟩ := h; go_simp⟩) s0 ?_
        try simp only [Act.put, List.getElem_toArray, List.getElem_cons_zero, List.getElem_cons_succ, List.setIfInBounds_toArray, List.set_cons_zero, List.set_cons_succ]
        refine wpAnyH_take (i := 5) (v := .pointer (some ⟨S, 0, none⟩)) rfl (by kernel_rfl) (by kernel_rfl) (by kernel_rfl) (fun _ _ _ h => h) (.inl ⟨by rfl, by intro w hw; go_simp⟩) s0 ?_
        try simp only [Act.put, List.getElem_toArray, List.getElem_cons_zero, List.getElem_cons_succ, List.setIfInBounds_toArray, List.set_cons_zero, List.set_cons_succ]
        refine wpAnyH_take (i := 6) (v := .pointer (some ⟨S, 1, none⟩)) rfl (by kernel_rfl) (by kernel_rfl) (by kernel_rfl) (fun _ _ _ h => h) (.inl ⟨by rfl, by intro w hw; go_simp⟩) s0 ?_
        try simp only [Act.put, List.getElem_toArray, List.getElem_cons_zero, List.getElem_cons_succ, List.setIfInBounds_toArray, List.set_cons_zero, List.set_cons_succ]
        refine wpAnyH_take (i := 7) (v := .pointer (some ⟨S, 1 + h.slot, none⟩)) rfl (by kernel_rfl) (by kernel_rfl) (by kernel_rfl) (fun _ _ _ h => h) (.inl ⟨by rfl, by intro w hw; go_simp⟩) s0 ?_
        try simp only [Act.put, List.getElem_toArray, List.getElem_cons_zero, List.getElem_cons_succ, List.setIfInBounds_toArray, List.set_cons_zero, List.set_cons_succ]
        refine wpAnyH_take (i := 8) (v := .pointer (some ⟨A, 0, none⟩)) rfl (by kernel_rfl) (by kernel_rfl) (by kernel_rfl) (fun _ _ _ h => h) (.inl ⟨by rfl, by intro w hw; have h := hSS.out w hw; obtain ⟨q0, q1, q2, q3, q4⟩ := h; go_simp⟩) s0 ?_
        try simp only [Act.put, List.getElem_toArray, List.getElem_cons_zero, List.getElem_cons_succ, List.setIfInBounds_toArray, List.set_cons_zero, List.set_cons_succ]
        refine wpAnyH_take (i := 9) (v := .pointer (some ⟨S, 0, none⟩)) rfl (by kernel_rfl) (by kernel_rfl) (by kernel_rfl) (fun _ _ _ h => h) (.inl ⟨by rfl, by intro w hw; go_simp⟩) s0 ?_
        try simp only [Act.put, List.getElem_toArray, List.getElem_cons_zero, List.getElem_cons_succ, List.setIfInBounds_toArray, List.set_cons_zero, List.set_cons_succ]
        refine wpAnyH_take (i := 10) (v := .pointer (some ⟨S, 0, none⟩)) rfl (by kernel_rfl) (by kernel_rfl) (by kernel_rfl) (fun _ _ _ h => h) (.inl ⟨by rfl, by intro w hw; go_simp⟩) s0 ?_
        try simp only [Act.put, List.getElem_toArray, List.getElem_cons_zero, List.getElem_cons_succ, List.setIfInBounds_toArray, List.set_cons_zero, List.set_cons_succ]
        refine wpAnyH_take (i := 11) (v := .pointer (some ⟨S, 5, none⟩)) rfl (by kernel_rfl) (by kernel_rfl) (by kernel_rfl) (fun _ _ _ h => h) (.inl ⟨by rfl, by intro w hw; go_simp⟩) s0 ?_
        try simp only [Act.put, List.getElem_toArray, List.getElem_cons_zero, List.getElem_cons_succ, List.setIfInBounds_toArray, List.set_cons_zero, List.set_cons_succ]
        refine wpAnyH_take (i := 12) (v := .int .i64 (h.long : Int)) rfl (by kernel_rfl) (by kernel_rfl) (by kernel_rfl) (fun _ _ _ h => h) (.inl ⟨by rfl, by intro w hw; have h := hSS.out w hw; obtain ⟨q0, q1, q2, q3, q4⟩ := h; go_simp⟩) s0 ?_
        try simp only [Act.put, List.getElem_toArray, List.getElem_cons_zero, List.getElem_cons_succ, List.setIfInBounds_toArray, List.set_cons_zero, List.set_cons_succ]
        refine wpAnyH_one (i := 13) (by kernel_rfl) rfl (by rfl) (fun Kc hK => ?_)
        go_simp
        refine (GTW.out.mono ?_)
        rintro en w8 ⟨b8, v8, rfl, o8⟩
        have O8 : Hid (Below wd.heap.size wd w8 ∧ w8.ownsRow wd.heap.size 5 1 v8 cs.length (cs.map byteV)) := ⟨(Below.refl _ wd).drew.trans b8, o8⟩
        obtain ⟨a8, c8, rfl⟩ := row_form o8
        have s8 := SBD.out _ O8.out.1
        clear b8 o8
        go_simp
        refine hK _ _ s8 ?_
        clear hK Kc
        try simp only [Act.put, List.getElem_toArray, List.getElem_cons_zero, List.getElem_cons_succ, List.setIfInBounds_toArray, List.set_cons_zero, List.set_cons_succ]
        refine wpAnyH_take (i := 14) (v := .tuple #[.slice a8 cs.length c8, .int .i64 ge]) rfl (by kernel_rfl) (by kernel_rfl) (by kernel_rfl) (fun _ _ _ h => h) (.inl ⟨by rfl, by intro w hw; go_simp⟩) s8 ?_
        try simp only [Act.put, List.getElem_toArray, List.getElem_cons_zero, List.getElem_cons_succ, List.setIfInBounds_toArray, List.set_cons_zero, List.set_cons_succ]
        refine wpAnyH_take (i := 15) (v := .slice a8 cs.length c8) rfl (by kernel_rfl) (by kernel_rfl) (by kernel_rfl) (fun _ _ _ h => h) (.inl ⟨by rfl, by intro w hw; go_simp⟩) s8 ?_
        try simp only [Act.put, List.getElem_toArray, List.getElem_cons_zero, List.getElem_cons_succ, List.setIfInBounds_toArray, List.set_cons_zero, List.set_cons_succ]
        refine wpAnyH_take (i := 16) (v := .int .i64 ge) rfl (by kernel_rfl) (by kernel_rfl) (by kernel_rfl) (fun _ _ _ h => h) (.inl ⟨by rfl, by intro w hw; go_simp⟩) s8 ?_
        try simp only [Act.put, List.getElem_toArray, List.getElem_cons_zero, List.getElem_cons_succ, List.setIfInBounds_toArray, List.set_cons_zero, List.set_cons_succ]
        refine wpAnyH_take (i := 17) (v := .slice a8 cs.length c8) rfl (by kernel_rfl) (by kernel_rfl) (by kernel_rfl) (fun _ _ _ h => h) (.inl ⟨by rfl, by intro w hw; go_simp⟩) s8 ?_
        try simp only [Act.put, List.getElem_toArray, List.getElem_cons_zero, List.getElem_cons_succ, List.setIfInBounds_toArray, List.set_cons_zero, List.set_cons_succ]
        refine wpAnyH_take (i := 18) (v := .int .i64 ge) rfl (by kernel_rfl) (by kernel_rfl) (by kernel_rfl) (fun _ _ _ h => h) (.inl ⟨by rfl, by intro w hw; go_simp⟩) s8 ?_
        try simp only [Act.put, List.getElem_toArray, List.getElem_cons_zero, List.getElem_cons_succ, List.setIfInBounds_toArray, List.set_cons_zero, List.set_cons_succ]
        refine wpAnyH_done (by kernel_rfl) ?_ _
        clear hSS SBD s8 s0 GTW
        have OP8 := Lib.hid (OPD.out.below O8.out.1)
        by_cases hge : ge = 0
        rotate_left
        · have E : Hid (ro = (none, ge)) := by have := RO2.out; rw [if_pos hge] at this; exact this
          have hb' : ((ge : Int) != 0) = true := by rw [bne_iff_ne]; exact hge
          clear hge RO2 OK1
          go_wp2_with fail
          refine bodyPost_ret (v := .tuple #[.pointer none, .int .i64 ge]) (by simp [results, Try.results78, go_sem]) rfl ?_
          exact ROpenOf.none ge E.out OP8.out.bl rfl
        have RO3 : Hid (ro = if fe ≠ 0 then (none, fe) else (some ⟨N, L, h, cs, R, false⟩, 0)) := by have := RO2.out; rw [if_neg (by rw [hge]; decide)] at this; exact this
        subst hge
        clear RO2
        have FRW := Lib.hid (FRM.out w8.drew OP8.out.bl.drew AL (OP8.out.al.below (Below.refl _ w8).drew))
        obtain ⟨S1, hS1⟩ : ∃ S0 : World → Prop, S0 = fun w' => w'.heap[S]? = some (.cells (srcells B A0 A1 AL ⟨N, L, h, [], [], false⟩ (.slice none 0 0) (.slice none 0 0)) 141 (0, 0)) := ⟨_, rfl⟩
        have hSS : Hid (∀ w', S1 w' → w'.cell? ⟨S, 3, none⟩ = some (.pointer (some ⟨AL, 0, none⟩)) ∧ w'.cell? ⟨S, 6, none⟩ = some (.int .i64 (h.used : Int))) := fun w' hh => by
          rw [hS1] at hh
          exact ⟨Joins.cell_of_block hh 3, Joins.cell_of_block hh 6⟩
        have SB : Hid (∀ W, Below w8.heap.size w8 W → S1 W) := fun W hb => by rw [hS1]; exact (OP8.out.below hb).blk
        have s0 : S1 w8.drew := SB.out _ (Below.refl _ w8).drew
        clear hS1 FRM
        go_wp2_with fail
        refine wp_region_held (S := S1) (by kernel_rfl) ?_
        change wpAnyH _ _ _ _ _ _ _ _ (World.drew _)
        refine wpAnyH_take (i := 0) (v := .pointer (some ⟨S, 0, none⟩)) rfl (by kernel_rfl) (by kernel_rfl) (by kernel_rfl) (fun _ _ _ h => h) (.inl ⟨by rfl, by intro w hw; go_simp⟩) s0 ?_
        try simp only [Act.put, List.getElem_toArray, List.getElem_cons_zero, List.getElem_cons_succ, List.setIfInBounds_toArray, List.set_cons_zero, List.set_cons_succ]
        refine wpAnyH_take (i := 1) (v := .pointer (some ⟨S, 0, none⟩)) rfl (by kernel_rfl) (by kernel_rfl) (by kernel_rfl) (fun _ _ _ h => h) (.inl ⟨by rfl, by intro w hw; go_simp⟩) s0 ?_
        try simp only [Act.put, List.getElem_toArray, List.getElem_cons_zero, List.getElem_cons_succ, List.setIfInBounds_toArray, List.set_cons_zero, List.set_cons_succ]
        refine wpAnyH_take (i := 2) (v := .pointer (some ⟨S, 3, none⟩)) rfl (by kernel_rfl) (by kernel_rfl) (by kernel_rfl) (fun _ _ _ h => h) (.inl ⟨by rfl, by intro w hw; go_simp⟩) s0 ?_
        try simp only [Act.put, List.getElem_toArray, List.getElem_cons_zero, List.getElem_cons_succ, List.setIfInBounds_toArray, List.set_cons_zero, List.set_cons_succ]
        refine wpAnyH_take (i := 3) (v := .pointer (some ⟨AL, 0, none⟩)) rfl (by kernel_rfl) (by kernel_rfl) (by kernel_rfl) (fun _ _ _ h => h) (.inl ⟨by rfl, by intro w hw; have h := hSS.out w hw; obtain ⟨q0, q1⟩ := h; go_simp⟩) s0 ?_
        try simp only [Act.put, List.getElem_toArray, List.getElem_cons_zero, List.getElem_cons_succ, List.setIfInBounds_toArray, List.set_cons_zero, List.set_cons_succ]
        refine wpAnyH_take (i := 4) (v := .pointer (some ⟨S, 0, none⟩)) rfl (by kernel_rfl) (by kernel_rfl) (by kernel_rfl) (fun _ _ _ h => h) (.inl ⟨by rfl, by intro w hw; go_simp⟩) s0 ?_
        try simp only [Act.put, List.getElem_toArray, List.getElem_cons_zero, List.getElem_cons_succ, List.setIfInBounds_toArray, List.set_cons_zero, List.set_cons_succ]
        refine wpAnyH_take (i := 5) (v := .pointer (some ⟨S, 0, none⟩)) rfl (by kernel_rfl) (by kernel_rfl) (by kernel_rfl) (fun _ _ _ h => h) (.inl ⟨by rfl, by intro w hw; go_simp⟩) s0 ?_
        try simp only [Act.put, List.getElem_toArray, List.getElem_cons_zero, List.getElem_cons_succ, List.setIfInBounds_toArray, List.set_cons_zero, List.set_cons_succ]
        refine wpAnyH_take (i := 6) (v := .pointer (some ⟨S, 6, none⟩)) rfl (by kernel_rfl) (by kernel_rfl) (by kernel_rfl) (fun _ _ _ h => h) (.inl ⟨by rfl, by intro w hw; go_simp⟩) s0 ?_
        try simp only [Act.put, List.getElem_toArray, List.getElem_cons_zero, List.getElem_cons_succ, List.setIfInBounds_toArray, List.set_cons_zero, List.set_cons_succ]
        refine wpAnyH_take (i := 7) (v := .int .i64 (h.used : Int)) rfl (by kernel_rfl) (by kernel_rfl) (by kernel_rfl) (fun _ _ _ h => h) (.inl ⟨by rfl, by intro w hw; have h := hSS.out w hw; obtain ⟨q0, q1⟩ := h; go_simp⟩) s0 ?_
        try simp only [Act.put, List.getElem_toArray, List.getElem_cons_zero, List.getElem_cons_succ, List.setIfInBounds_toArray, List.set_cons_zero, List.set_cons_succ]
        refine wpAnyH_one (i := 8) (by kernel_rfl) rfl (by rfl) (fun Kc hK => ?_)
        go_simp
        refine (FRW.out.mono ?_)
        rintro en w9 ⟨b9, v9, rfl, o9⟩
        have O9 : Hid (Below w8.heap.size w8 w9 ∧ RowsOf w9 w8.heap.size v9 R) := ⟨(Below.refl _ w8).drew.trans b9, o9⟩
        obtain ⟨a9, c9, rfl⟩ := rows_form o9
        have s9 := SB.out _ O9.out.1
        clear b9 o9
        go_simp
        refine hK _ _ s9 ?_
        clear hK Kc
        try simp only [Act.put, List.getElem_toArray, List.getElem_cons_zero, List.getElem_cons_succ, List.setIfInBounds_toArray, List.set_cons_zero, List.set_cons_succ]
        refine wpAnyH_take (i := 9) (v := .tuple #[.slice a9 R.length c9, .int .i64 fe]) rfl (by kernel_rfl) (by kernel_rfl) (by kernel_rfl) (fun _ _ _ h => h) (.inl ⟨by rfl, by intro w hw; go_simp⟩) s9 ?_
        try simp only [Act.put, List.getElem_toArray, List.getElem_cons_zero, List.getElem_cons_succ, List.setIfInBounds_toArray, List.set_cons_zero, List.set_cons_succ]
        refine wpAnyH_take (i := 10) (v := .slice a9 R.length c9) rfl (by kernel_rfl) (by kernel_rfl) (by kernel_rfl) (fun _ _ _ h => h) (.inl ⟨by rfl, by intro w hw; go_simp⟩) s9 ?_
        try simp only [Act.put, List.getElem_toArray, List.getElem_cons_zero, List.getElem_cons_succ, List.setIfInBounds_toArray, List.set_cons_zero, List.set_cons_succ]
        refine wpAnyH_take (i := 11) (v := .int .i64 fe) rfl (by kernel_rfl) (by kernel_rfl) (by kernel_rfl) (fun _ _ _ h => h) (.inl ⟨by rfl, by intro w hw; go_simp⟩) s9 ?_
        try simp only [Act.put, List.getElem_toArray, List.getElem_cons_zero, List.getElem_cons_succ, List.setIfInBounds_toArray, List.set_cons_zero, List.set_cons_succ]
        refine wpAnyH_take (i := 12) (v := .slice a9 R.length c9) rfl (by kernel_rfl) (by kernel_rfl) (by kernel_rfl) (fun _ _ _ h => h) (.inl ⟨by rfl, by intro w hw; go_simp⟩) s9 ?_
        try simp only [Act.put, List.getElem_toArray, List.getElem_cons_zero, List.getElem_cons_succ, List.setIfInBounds_toArray, List.set_cons_zero, List.set_cons_succ]
        refine wpAnyH_take (i := 13) (v := .int .i64 fe) rfl (by kernel_rfl) (by kernel_rfl) (by kernel_rfl) (fun _ _ _ h => h) (.inl ⟨by rfl, by intro w hw; go_simp⟩) s9 ?_
        try simp only [Act.put, List.getElem_toArray, List.getElem_cons_zero, List.getElem_cons_succ, List.setIfInBounds_toArray, List.set_cons_zero, List.set_cons_succ]
        refine wpAnyH_done (by kernel_rfl) ?_ _
        clear hSS SB s9 s0 FRW
        have OP9 := Lib.hid (OP8.out.below O9.out.1)
        by_cases hfe : fe = 0
        rotate_left
        · have E : Hid (ro = (none, fe)) := by have := RO3.out; rw [if_pos hfe] at this; exact this
          have hb' : ((fe : Int) != 0) = true := by rw [bne_iff_ne]; exact hfe
          clear hfe RO3 OK1
          go_wp2_with fail
          refine bodyPost_ret (v := .tuple #[.pointer none, .int .i64 fe]) (by simp [results, Try.results78, go_sem]) rfl ?_
          exact ROpenOf.none fe E.out OP9.out.bl rfl
        have E : Hid (ro = (some ⟨N, L, h, cs, R, false⟩, 0)) := by have := RO3.out; rw [if_neg (by rw [hfe]; decide)] at this; exact this
        have k8 : w9.cell? ⟨S, 8, none⟩ = some (.slice none 0 0) := Joins.cell_of_block OP9.out.blk 8
        have kf8 : w9.frozen? ⟨S, 8, none⟩ = false := Joins.unfrozen_of_block OP9.out.blk 8
        have k9 : w9.cell? ⟨S, 9, none⟩ = some (.slice none 0 0) := Joins.cell_of_block OP9.out.blk 9
        have kf9 : w9.frozen? ⟨S, 9, none⟩ = false := Joins.unfrozen_of_block OP9.out.blk 9
        have FIN := Lib.hid (OPD.out.fin O8.out.1 O8.out.2 O9.out.1 O9.out.2 (OK1.out hfe))
        subst hfe
        clear RO3 OK1 O8 O9 OP8 OP9
        go_wp2_with fail
        refine bodyPost_ret (v := .tuple #[.pointer (some ⟨S, 0, none⟩), .int .i64 0]) (by simp [results, Try.results78, go_sem]) rfl ?_
        exact ⟨FIN.out.1, .inr ⟨_, S, E.out, rfl, FIN.out.2⟩⟩
      · have HZ := Lib.hid hz
        have CT := Lib.hid (rcut_any rb a4 cap4 w4 LC4.out CM4.out (by omega) RB4.out)
        have hlS : S < w4.heap.size := (Array.getElem?_eq_some_iff.1 OP4.out.blk).1
        have HLS : Hid (S < w4.heap.size) := hlS
        clear hz RB4 NA4 LC4 CM4
        go_wp2_with fail
        refine CT.out.mono ?_
        rintro en w5 ⟨b5, ⟨e2, rfl⟩ | ⟨x, r, v1, v2, e2, rfl, o1, o2⟩⟩
        · have E : Hid (ro = (none, 4)) := by
            have := SO2.out
            have e3 : hread rb = none := by unfold hread; rw [if_neg (by rw [HZ.out]; decide), e2]
            rw [e3] at this
            exact this
          have OP5 := Lib.hid (OP4.out.below b5)
          clear e2 b5 SO2 CT OP4
          go_wp2_with fail
          go_loop [14, 15] (fun z iv => z = .bool false ∧ iv = .int .i64 0) (fun _ iv => 1)
          case atStart => first | exact ⟨rfl, rfl⟩ | exact ⟨by rw [decide_eq_false (by omega)], rfl⟩
          case round =>
            obtain ⟨rfl, rfl⟩ := hrel
            go_wp2_with fail
            all_goals
              refine bodyPost_ret (v := .tuple #[.pointer none, .int .i64 4]) (by simp [results, Try.results78, go_sem]) rfl ?_
              exact ROpenOf.none 4 E.out OP5.out.bl rfl
        have OP5 := Lib.hid (OP4.out.below b5)
        have hs5 := b5.size
        have hrl : r.length ≤ 1000000 := by have := (cut_some e2).2.2; omega
        have hxl : x.length ≤ 1000000 := by have := (cut_some e2).2.2; omega
        obtain ⟨a2, c2, rfl, _, _, hr3⟩ := RB.of_owns o2
        have RR := Lib.hid hr3
        have HE2 := Lib.hid e2
        clear o2 hr3 b5 CT e2
        by_cases h13 : x.length = 13
        rotate_left
        · have E : Hid (ro = (none, 4)) := by
            have := SO2.out
            have e3 : hread rb = none := by unfold hread; rw [if_neg (by rw [HZ.out]; decide), HE2.out]; dsimp only; rw [if_neg (fun h => h13 h.1)]
            rw [e3] at this
            exact this
          obtain ⟨a1, c1', rfl, _, _, _⟩ := RB.of_owns o1
          have hne : ¬ (x.length : Int) = 13 := by omega
          clear SO2 o1 h13 HE2
          go_wp2_with fail
          go_loop [14, 15] (fun z iv => z = .bool false ∧ iv = .int .i64 0) (fun _ iv => 1)
          case atStart => first | exact ⟨rfl, rfl⟩ | exact ⟨by rw [decide_eq_false (by omega)], rfl⟩
          case round =>
            obtain ⟨rfl, rfl⟩ := hrel
            go_wp2_with fail
            all_goals
              refine bodyPost_ret (v := .tuple #[.pointer none, .int .i64 4]) (by simp [results, Try.results78, go_sem]) rfl ?_
              exact ROpenOf.none 4 E.out OP5.out.bl rfl
        rw [h13] at o1
        obtain ⟨gx, cx, rfl⟩ := own_rec o1 (by decide)
        have hgx := (o1.lt gx rfl).1
        have RX := Lib.hid (rb_mk o1)
        have hc0 := rb_at RX.out 0 (by omega)
        rw [Nat.add_zero] at hc0
        obtain ⟨x0, hx0⟩ : ∃ x0, x.getD 0 0 = x0 := ⟨_, rfl⟩
        rw [hx0] at hc0
        unfold byteV at hc0
        have HX0 := Lib.hid hx0
        have H13 : Hid (x.length = 13) := h13
        clear o1 h13 hx0
        by_cases hx2 : (x0.toNat : Int) < 2
        rotate_left
        · have E : Hid (ro = (none, 4)) := by
            have := SO2.out
            have e3 : hread rb = none := by unfold hread; rw [if_neg (by rw [HZ.out]; decide), HE2.out]; dsimp only; rw [if_neg (fun h => by have h2 := h.2.1; rw [HX0.out] at h2; omega)]
            rw [e3] at this
            exact this
          clear SO2 HE2
          go_wp2_with fail
          go_loop [14, 15] (fun z iv => z = .bool false ∧ iv = .int .i64 0) (fun _ iv => 1)
          case atStart => first | exact ⟨rfl, rfl⟩ | exact ⟨by rw [decide_eq_false (by omega)], rfl⟩
          case round =>
            obtain ⟨rfl, rfl⟩ := hrel
            go_wp2_with fail
            all_goals
              refine bodyPost_ret (v := .tuple #[.pointer none, .int .i64 4]) (by simp [results, Try.results78, go_sem]) rfl ?_
              exact ROpenOf.none 4 E.out OP5.out.bl rfl
        go_wp2_with fail
        go_loop [14, 15] (fun z iv => ∃ j : Nat, iv = .int .i64 j ∧ j ≤ r.length ∧ z = .bool (zerosB (r.take j))) (fun _ iv => r.length - (intOf iv).toNat)
        case atStart => exact ⟨0, rfl, Nat.zero_le _, rfl⟩
        case round =>
          obtain ⟨j, rfl, hj, rfl⟩ := hrel
          by_cases hjl : j < r.length
          · have hj0 : (0 : Int) ≤ (j : Int) := by omega
            have hji : (j : Int) < (r.length : Int) := by omega
            cases hzj : zerosB (r.take j)
            · have E : Hid (ro = (none, 4)) := by
                have := SO2.out
                have e3 : hread rb = none := by
                  unfold hread
                  rw [if_neg (by rw [HZ.out]; decide), HE2.out]
                  dsimp only
                  rw [if_neg (fun h => by
                    have h3 := (zerosB_iff _).1 h.2.2
                    have h4 : zerosB (r.take j) = true := (zerosB_iff _).2 (fun y hy => h3 y (List.mem_of_mem_take hy))
                    rw [hzj] at h4; cases h4)]
                rw [e3] at this
                exact this
              clear SO2 HE2 hzj
              go_wp2_with fail
              refine bodyPost_ret (v := .tuple #[.pointer none, .int .i64 4]) (by simp [results, Try.results78, go_sem]) rfl ?_
              exact ROpenOf.none 4 E.out OP5.out.bl rfl
            · have NX := Lib.hid (zerosB_take_succ hjl)
              obtain ⟨g, off, rfl, _, hc⟩ := RR.out j hjl
              have hby : ((r.getD j 0) == 0) = (((r.getD j 0).toNat : Int) == 0) := by rw [Bool.eq_iff_iff]; simp [← UInt8.toNat_inj]
              have HBY := Lib.hid hby
              unfold byteV at hc
              generalize r.getD j 0 = y at *
              rw [hzj] at NX
              clear hby hzj
              go_wp2
              go_round
              case rel => exact ⟨j + 1, rfl, by omega, by rw [NX.out, HBY.out]; simp⟩
              case measure => simp [intOf]; omega
          · have hji : ¬ (j : Int) < (r.length : Int) := by omega
            have hjt : r.take j = r := List.take_of_length_le (by omega)
            rw [hjt]
            clear hjt
            cases hzr : zerosB r
            · have E : Hid (ro = (none, 4)) := by
                have := SO2.out
                have e3 : hread rb = none := by unfold hread; rw [if_neg (by rw [HZ.out]; decide), HE2.out]; dsimp only; rw [if_neg (fun h => by have h2 := h.2.2; rw [hzr] at h2; cases h2)]
                rw [e3] at this
                exact this
              clear SO2 HE2 hzr
              go_wp2_with fail
              refine bodyPost_ret (v := .tuple #[.pointer none, .int .i64 4]) (by simp [results, Try.results78, go_sem]) rfl ?_
              exact ROpenOf.none 4 E.out OP5.out.bl rfl
            have HRX : Hid (hread rb = some (htell x)) := hread_yes HZ.out HE2.out H13.out (by rw [HX0.out]; omega) hzr
            have hgS : gx ≠ S := by have := HLS.out; omega
            have NUM : Hid (∀ W, Frm (fun k => k = S) w5 W → ∀ p : Nat, p + 4 ≤ 13 → Calls Try.prog 98 #[.slice (some ⟨gx, 0, none⟩) 13 cx, .int .i64 (p : Int)] W fun en w' => en = .returned (.int .i64 (num ((x.drop p).take 4) : Int)) ∧ W = w') := fun W hf p hp => rnumber_any x p gx cx W hp H13.out (RB.frm RX.out hf (fun h => hgS h))
            have N1 := fun W hf => NUM.out W hf 1 (by omega)
            have N5 := fun W hf => NUM.out W hf 5 (by omega)
            have N9 := fun W hf => NUM.out W hf 9 (by omega)
            have X1 := Lib.hid N1; have X5 := Lib.hid N5; have X9 := Lib.hid N9
            have OPH := Lib.hid (OP5.out.setHead (htell x))
            obtain ⟨h, hh⟩ : ∃ h, htell x = h := ⟨_, rfl⟩
            have e4 : (x0.toNat : Int) = (h.slot : Int) := by rw [← hh]; unfold htell; dsimp only; rw [HX0.out]
            have e5 : (num ((x.drop 1).take 4) : Int) = (h.long : Int) := by rw [← hh]; rfl
            have e6 : (num ((x.drop 5).take 4) : Int) = (h.used : Int) := by rw [← hh]; rfl
            have e7 : (num ((x.drop 9).take 4) : Int) = (h.turn : Int) := by rw [← hh]; rfl
            have Q4 := Lib.hid e4
            rw [e5] at X1; rw [e6] at X5; rw [e7] at X9
            rw [hh] at OPH HRX
            have k4 : w5.cell? ⟨S, 4, none⟩ = some (.int .i64 0) := Joins.cell_of_block OP5.out.blk 4
            have f4 : w5.frozen? ⟨S, 4, none⟩ = false := Joins.unfrozen_of_block OP5.out.blk 4
            have k5 : w5.cell? ⟨S, 5, none⟩ = some (.int .i64 0) := Joins.cell_of_block OP5.out.blk 5
            have f5 : w5.frozen? ⟨S, 5, none⟩ = false := Joins.unfrozen_of_block OP5.out.blk 5
            have k6 : w5.cell? ⟨S, 6, none⟩ = some (.int .i64 0) := Joins.cell_of_block OP5.out.blk 6
            have f6 : w5.frozen? ⟨S, 6, none⟩ = false := Joins.unfrozen_of_block OP5.out.blk 6
            have k7 : w5.cell? ⟨S, 7, none⟩ = some (.int .i64 0) := Joins.cell_of_block OP5.out.blk 7
            have f7 : w5.frozen? ⟨S, 7, none⟩ = false := Joins.unfrozen_of_block OP5.out.blk 7
            have SO3 : Hid (ro = sload d N (d.kept.length - 1 - 2 * N) h) := by have := SO2.out; rw [HRX.out] at this; exact this
            have HRD := HRX
            clear e4 e5 e6 e7 hh N1 N5 N9 NUM hzr HE2 HZ RR RX
            go_wp2_with fail
            refine (X1.out _ (Frm.setCell w5 4 _ rfl)).mono ?_
            rintro en w51 ⟨rfl, rfl⟩
            rw [Q4.out]
            have t1 : Frm (fun k => k = S) w5 (w5.setCell ⟨S, 4, none⟩ (.int .i64 (h.slot : Int))) := Frm.setCell w5 4 _ rfl
            have t2 : Frm (fun k => k = S) w5 ((w5.setCell ⟨S, 4, none⟩ (.int .i64 (h.slot : Int))).setCell ⟨S, 5, none⟩ (.int .i64 (h.long : Int))) := t1.trans (Frm.setCell (F := fun k => k = S) _ 5 _ rfl) (fun _ h => .inl h)
            have t3 : Frm (fun k => k = S) w5 (((w5.setCell ⟨S, 4, none⟩ (.int .i64 (h.slot : Int))).setCell ⟨S, 5, none⟩ (.int .i64 (h.long : Int))).setCell ⟨S, 6, none⟩ (.int .i64 (h.used : Int))) := t2.trans (Frm.setCell (F := fun k => k = S) _ 6 _ rfl) (fun _ h => .inl h)
            have C5 := Lib.hid (X5.out _ t2)
            have C9 := Lib.hid (X9.out _ t3)
            clear X1 X5 X9 t1 t2 t3
            go_wp2_with fail
            refine C5.out.mono ?_
            rintro en w52 ⟨rfl, rfl⟩
            go_wp2_with fail
            refine C9.out.mono ?_
            rintro en w53 ⟨rfl, rfl⟩
            clear C5 C9
            go_wp2_with fail
            obtain ⟨w6, hw6⟩ : ∃ w6, (((w5.setCell ⟨S, 4, none⟩ (.int .i64 (h.slot : Int))).setCell ⟨S, 5, none⟩ (.int .i64 (h.long : Int))).setCell ⟨S, 6, none⟩ (.int .i64 (h.used : Int))).setCell ⟨S, 7, none⟩ (.int .i64 (h.turn : Int)) = w6 := ⟨_, rfl⟩
            rw [hw6] at OPH ⊢
            have OPW := OPH
            clear hw6 OPH OP5 k4 f4 k5 f5 k6 f6 k7 f7 hc0 Q4 HRX
            obtain ⟨hs2, hlo, hus, htu⟩ := hread_bound HRD.out
            have SL : Hid (sload d N (d.kept.length - 1 - 2 * N) h = if 32 * N < h.long ∨ 32 * (d.kept.length - 1 - 2 * N) < h.used then (none, 4)
              else if (jget d (1 + h.slot * N) N 0 h.long).2 ≠ 0 then (none, (jget d (1 + h.slot * N) N 0 h.long).2)
              else if (jframes d (1 + 2 * N) (d.kept.length - 1 - 2 * N) h.used).2 ≠ 0 then (none, (jframes d (1 + 2 * N) (d.kept.length - 1 - 2 * N) h.used).2)
              else (some ⟨N, d.kept.length - 1 - 2 * N, h, (jget d (1 + h.slot * N) N 0 h.long).1, (jframes d (1 + 2 * N) (d.kept.length - 1 - 2 * N) h.used).1, false⟩, 0)) := rfl
            have OK0 : Hid (∀ cs R, ¬ 32 * N < h.long → ¬ 32 * (d.kept.length - 1 - 2 * N) < h.used → (jget d (1 + h.slot * N) N 0 h.long).1 = cs → jframes d (1 + 2 * N) (d.kept.length - 1 - 2 * N) h.used = (R, 0) → StOk ⟨N, d.kept.length - 1 - 2 * N, h, cs, R, false⟩) := fun cs R k1 k2 k3 k4 => sload_stok HRD.out k1 k2 hN1 (by omega) k3 k4
            have FRM : Hid (∀ W, Below w.heap.size w W → ∀ (A : Nat), IsRArea W A B (1 + 2 * (N : Int)) (d.kept.length - 1 - 2 * N) → Calls Try.prog 65 #[.pointer (some ⟨A, 0, none⟩), .int .i64 (h.used : Int)] W (FramesOf W (jframes d (1 + 2 * N) (d.kept.length - 1 - 2 * N) h.used))) := fun W hb A hA => by
              have := FR.out W hb A _ _ h.used hA (by omega) (by omega)
              rw [show (1 + 2 * (N : Int)).toNat = 1 + 2 * N by omega] at this
              exact this
            obtain ⟨A, hA, hIA, hAc⟩ : ∃ A, w.heap.size ≤ A ∧ (∀ W, Below w6.heap.size w6 W → Calls Try.prog 63 #[.pointer (some ⟨A, 0, none⟩), .int .i64 0, .int .i64 (h.long : Int)] W (GetOf W (jget d (1 + h.slot * N) N 0 h.long))) ∧ ∀ vc vr, (srcells B A0 A1 AL ⟨N, d.kept.length - 1 - 2 * N, h, [], [], false⟩ vc vr)[1 + h.slot]? = some (.pointer (some ⟨A, 0, none⟩)) := by
              rcases (by omega : h.slot = 0 ∨ h.slot = 1) with h' | h'
              · refine ⟨A0, OPW.out.l0, fun W hW => ?_, fun _ _ => by rw [h']; rfl⟩
                have o := OPW.out.below hW
                have := GT.out W o.bl A0 N 1 h.long o.a0 (by omega) (by omega)
                rw [h', Nat.zero_mul]
                exact this
              · refine ⟨A1, OPW.out.l1, fun W hW => ?_, fun _ _ => by rw [h']; rfl⟩
                have o := OPW.out.below hW
                have := GT.out W o.bl A1 N (1 + (N : Int)) h.long o.a1 (by omega) (by omega)
                rw [show (1 + (N : Int)).toNat = 1 + N by omega] at this
                rw [h', Nat.one_mul]
                exact this
            have GTZ := Lib.hid hIA
            have RO := Lib.hid (SO3.out.trans SL.out)
            clear SO3 SL GT FR HRD hIA SO2
            generalize jget d (1 + h.slot * N) N 0 h.long = gr at *
            generalize jframes d (1 + 2 * N) (d.kept.length - 1 - 2 * N) h.used = fr at *
            generalize d.kept.length - 1 - 2 * N = L at *
            obtain ⟨cs, ge⟩ := gr
            obtain ⟨R, fe⟩ := fr
            dsimp only at OK0 RO
            have SZ0 := Lib.hid (rsize_any (OPW.out.a0.below (Below.refl _ w6).drew))
            have SZL := Lib.hid (rsize_any (OPW.out.al.below (Below.refl _ w6).drew))
            obtain ⟨S0, hS0⟩ : ∃ S0 : World → Prop, S0 = fun w' => w'.heap[S]? = some (.cells (srcells B A0 A1 AL ⟨N, L, h, [], [], false⟩ (.slice none 0 0) (.slice none 0 0)) 141 (0, 0)) := ⟨_, rfl⟩
            have SB : Hid (∀ W, Below w6.heap.size w6 W → S0 W) := fun W hb => by rw [hS0]; exact (OPW.out.below hb).blk
            have s0 : S0 w6.drew := SB.out _ (Below.refl _ w6).drew
            have hSA : Hid (∀ w', S0 w' → w'.cell? ⟨S, 1, none⟩ = some (.pointer (some ⟨A0, 0, none⟩)) ∧ w'.cell? ⟨S, 3, none⟩ = some (.pointer (some ⟨AL, 0, none⟩)) ∧ w'.cell? ⟨S, 5, none⟩ = some (.int .i64 (h.long : Int)) ∧ w'.cell? ⟨S, 6, none⟩ = some (.int .i64 (h.used : Int)) ∧ True) := fun w' hh => by
              rw [hS0] at hh
              exact ⟨Joins.cell_of_block hh 1, Joins.cell_of_block hh 3, Joins.cell_of_block hh 5, Joins.cell_of_block hh 6, trivial⟩
            have hSB : Hid (∀ w', S0 w' → w'.cell? ⟨S, 4, none⟩ = some (.int .i64 (h.slot : Int)) ∧ w'.cell? ⟨S, 1 + h.slot, none⟩ = some (.pointer (some ⟨A, 0, none⟩)) ∧ w'.cell? ⟨S, 5, none⟩ = some (.int .i64 (h.long : Int)) ∧ True ∧ True) := fun w' hh => by
              rw [hS0] at hh
              exact ⟨Joins.cell_of_block hh 4, (cell_of_row _ _ (1 + h.slot) _ 141 (0, 0) hh).trans (hAc _ _), Joins.cell_of_block hh 5, trivial, trivial⟩
            clear hAc hS0
            have hSS := hSA
            by_cases hx1 : 32 * N < h.long
            · have E : Hid (ro = (none, 4)) := by have := RO.out; rw [if_pos (.inl hx1)] at this; exact this
              have hl1 : 32 * (N : Int) < (h.long : Int) := by omega
              clear hx1 RO
              refine wp_region_held (S := S0) (by kernel_rfl) ?_
              change wpAnyH _ _ _ _ _ _ _ _ (World.drew _)
              refine wpAnyH_take (i := 0) (v := .pointer (some ⟨S, 0, none⟩)) rfl (by kernel_rfl) (by kernel_rfl) (by kernel_rfl) (fun _ _ _ h => h) (.inl ⟨by rfl, by intro w hw; go_simp⟩) s0 ?_
              try simp only [Act.put, List.getElem_toArray, List.getElem_cons_zero, List.getElem_cons_succ, List.setIfInBounds_toArray, List.set_cons_zero, List.set_cons_succ]
              refine wpAnyH_take (i := 1) (v := .pointer (some ⟨S, 0, none⟩)) rfl (by kernel_rfl) (by kernel_rfl) (by kernel_rfl) (fun _ _ _ h => h) (.inl ⟨by rfl, by intro w hw; go_simp⟩) s0 ?_
              try simp only [Act.put, List.getElem_toArray, List.getElem_cons_zero, List.getElem_cons_succ, List.setIfInBounds_toArray, List.set_cons_zero, List.set_cons_succ]
              refine wpAnyH_take (i := 2) (v := .pointer (some ⟨S, 5, none⟩)) rfl (by kernel_rfl) (by kernel_rfl) (by kernel_rfl) (fun _ _ _ h => h) (.inl ⟨by rfl, by intro w hw; go_simp⟩) s0 ?_
              try simp only [Act.put, List.getElem_toArray, List.getElem_cons_zero, List.getElem_cons_succ, List.setIfInBounds_toArray, List.set_cons_zero, List.set_cons_succ]
              refine wpAnyH_take (i := 3) (v := .int .i64 (h.long : Int)) rfl (by kernel_rfl) (by kernel_rfl) (by kernel_rfl) (fun _ _ _ h => h) (.inl ⟨by rfl, by intro w hw; have h := hSS.out w hw; obtain ⟨q0, q1, q2, q3, q4⟩ := h; go_simp⟩) s0 ?_
              try simp only [Act.put, List.getElem_toArray, List.getElem_cons_zero, List.getElem_cons_succ, List.setIfInBounds_toArray, List.set_cons_zero, List.set_cons_succ]
              refine wpAnyH_take (i := 4) (v := .pointer (some ⟨S, 0, none⟩)) rfl (by kernel_rfl) (by kernel_rfl) (by kernel_rfl) (fun _ _ _ h => h) (.inl ⟨by rfl, by intro w hw; go_simp⟩) s0 ?_
              try simp only [Act.put, List.getElem_toArray, List.getElem_cons_zero, List.getElem_cons_succ, List.setIfInBounds_toArray, List.set_cons_zero, List.set_cons_succ]
              refine wpAnyH_take (i := 5) (v := .pointer (some ⟨S, 0, none⟩)) rfl (by kernel_rfl) (by kernel_rfl) (by kernel_rfl) (fun _ _ _ h => h) (.inl ⟨by rfl, by intro w hw; go_simp⟩) s0 ?_
              try simp only [Act.put, List.getElem_toArray, List.getElem_cons_zero, List.getElem_cons_succ, List.setIfInBounds_toArray, List.set_cons_zero, List.set_cons_succ]
              refine wpAnyH_take (i := 6) (v := .pointer (some ⟨S, 1, none⟩)) rfl (by kernel_rfl) (by kernel_rfl) (by kernel_rfl) (fun _ _ _ h => h) (.inl ⟨by rfl, by intro w hw; go_simp⟩) s0 ?_
              try simp only [Act.put, List.getElem_toArray, List.getElem_cons_zero, List.getElem_cons_succ, List.setIfInBounds_toArray, List.set_cons_zero, List.set_cons_succ]
              refine wpAnyH_take (i := 7) (v := .pointer (some ⟨S, 1, none⟩)) rfl (by kernel_rfl) (by kernel_rfl) (by kernel_rfl) (fun _ _ _ h => h) (.inl ⟨by rfl, by intro w hw; go_simp⟩) s0 ?_
              try simp only [Act.put, List.getElem_toArray, List.getElem_cons_zero, List.getElem_cons_succ, List.setIfInBounds_toArray, List.set_cons_zero, List.set_cons_succ]
              refine wpAnyH_take (i := 8) (v := .pointer (some ⟨A0, 0, none⟩)) rfl (by kernel_rfl) (by kernel_rfl) (by kernel_rfl) (fun _ _ _ h => h) (.inl ⟨by rfl, by intro w hw; have h := hSS.out w hw; obtain ⟨q0, q1, q2, q3, q4⟩ := h; go_simp⟩) s0 ?_
              try simp only [Act.put, List.getElem_toArray, List.getElem_cons_zero, List.getElem_cons_succ, List.setIfInBounds_toArray, List.set_cons_zero, List.set_cons_succ]
              refine wpAnyH_one (i := 9) (by kernel_rfl) rfl (by rfl) (fun Kc hK => ?_)
              go_simp
              refine ((SZ0.out).mono ?_)
              rintro en wz ⟨rfl, rfl⟩
              go_simp
              refine hK _ _ s0 ?_
              clear hK Kc
              try simp only [Act.put, List.getElem_toArray, List.getElem_cons_zero, List.getElem_cons_succ, List.setIfInBounds_toArray, List.set_cons_zero, List.set_cons_succ]
              refine wpAnyH_take (i := 10) (v := .bool true) rfl (by kernel_rfl) (by kernel_rfl) (by kernel_rfl) (fun _ _ _ h => h) (.inl ⟨by rfl, by intro w hw; go_simp; try simp [hl1]⟩) s0 ?_
              try simp only [Act.put, List.getElem_toArray, List.getElem_cons_zero, List.getElem_cons_succ, List.setIfInBounds_toArray, List.set_cons_zero, List.set_cons_succ]
              refine wpAnyH_take (i := 11) (v := .bool true) rfl (by kernel_rfl) (by kernel_rfl) (by kernel_rfl) (fun _ _ _ h => h) (.inl ⟨by rfl, by intro w hw; go_simp⟩) s0 ?_
              try simp only [Act.put, List.getElem_toArray, List.getElem_cons_zero, List.getElem_cons_succ, List.setIfInBounds_toArray, List.set_cons_zero, List.set_cons_succ]
              refine wpAnyH_take (i := 12) (v := undef) rfl (by kernel_rfl) (by kernel_rfl) (by kernel_rfl) (fun _ _ _ h => h) (.inr ⟨by rfl, rfl⟩) s0 ?_
              try simp only [Act.put, List.getElem_toArray, List.getElem_cons_zero, List.getElem_cons_succ, List.setIfInBounds_toArray, List.set_cons_zero, List.set_cons_succ]
              refine wpAnyH_take (i := 13) (v := undef) rfl (by kernel_rfl) (by kernel_rfl) (by kernel_rfl) (fun _ _ _ h => h) (.inr ⟨by rfl, rfl⟩) s0 ?_
              try simp only [Act.put, List.getElem_toArray, List.getElem_cons_zero, List.getElem_cons_succ, List.setIfInBounds_toArray, List.set_cons_zero, List.set_cons_succ]
              refine wpAnyH_take (i := 14) (v := undef) rfl (by kernel_rfl) (by kernel_rfl) (by kernel_rfl) (fun _ _ _ h => h) (.inr ⟨by rfl, rfl⟩) s0 ?_
              try simp only [Act.put, List.getElem_toArray, List.getElem_cons_zero, List.getElem_cons_succ, List.setIfInBounds_toArray, List.set_cons_zero, List.set_cons_succ]
              refine wpAnyH_take (i := 15) (v := undef) rfl (by kernel_rfl) (by kernel_rfl) (by kernel_rfl) (fun _ _ _ h => h) (.inr ⟨by rfl, rfl⟩) s0 ?_
              try simp only [Act.put, List.getElem_toArray, List.getElem_cons_zero, List.getElem_cons_succ, List.setIfInBounds_toArray, List.set_cons_zero, List.set_cons_succ]
              refine wpAnyH_take (i := 16) (v := undef) rfl (by kernel_rfl) (by kernel_rfl) (by kernel_rfl) (fun _ _ _ h => h) (.inr ⟨by rfl, rfl⟩) s0 ?_
              try simp only [Act.put, List.getElem_toArray, List.getElem_cons_zero, List.getElem_cons_succ, List.setIfInBounds_toArray, List.set_cons_zero, List.set_cons_succ]
              refine wpAnyH_take (i := 17) (v := undef) rfl (by kernel_rfl) (by kernel_rfl) (by kernel_rfl) (fun _ _ _ h => h) (.inr ⟨by rfl, rfl⟩) s0 ?_
              try simp only [Act.put, List.getElem_toArray, List.getElem_cons_zero, List.getElem_cons_succ, List.setIfInBounds_toArray, List.set_cons_zero, List.set_cons_succ]
              refine wpAnyH_take (i := 18) (v := undef) rfl (by kernel_rfl) (by kernel_rfl) (by kernel_rfl) (fun _ _ _ h => h) (.inr ⟨by rfl, rfl⟩) s0 ?_
              try simp only [Act.put, List.getElem_toArray, List.getElem_cons_zero, List.getElem_cons_succ, List.setIfInBounds_toArray, List.set_cons_zero, List.set_cons_succ]
              refine wpAnyH_take (i := 19) (v := undef) rfl (by kernel_rfl) (by kernel_rfl) (by kernel_rfl) (fun _ _ _ h => h) (.inr ⟨by rfl, rfl⟩) s0 ?_
              try simp only [Act.put, List.getElem_toArray, List.getElem_cons_zero, List.getElem_cons_succ, List.setIfInBounds_toArray, List.set_cons_zero, List.set_cons_succ]
              refine wpAnyH_take (i := 20) (v := undef) rfl (by kernel_rfl) (by kernel_rfl) (by kernel_rfl) (fun _ _ _ h => h) (.inr ⟨by rfl, rfl⟩) s0 ?_
              try simp only [Act.put, List.getElem_toArray, List.getElem_cons_zero, List.getElem_cons_succ, List.setIfInBounds_toArray, List.set_cons_zero, List.set_cons_succ]
              refine wpAnyH_take (i := 21) (v := undef) rfl (by kernel_rfl) (by kernel_rfl) (by kernel_rfl) (fun _ _ _ h => h) (.inr ⟨by rfl, rfl⟩) s0 ?_
              try simp only [Act.put, List.getElem_toArray, List.getElem_cons_zero, List.getElem_cons_succ, List.setIfInBounds_toArray, List.set_cons_zero, List.set_cons_succ]
              refine wpAnyH_take (i := 22) (v := .bool true) rfl (by kernel_rfl) (by kernel_rfl) (by kernel_rfl) (fun _ _ _ h => h) (.inl ⟨by rfl, by intro w hw; go_simp⟩) s0 ?_
              try simp only [Act.put, List.getElem_toArray, List.getElem_cons_zero, List.getElem_cons_succ, List.setIfInBounds_toArray, List.set_cons_zero, List.set_cons_succ]
              refine wpAnyH_done (by kernel_rfl) ?_ _
              clear s0 hSS hSA hSB
              go_wp2_with fail
              refine bodyPost_ret (v := .tuple #[.pointer none, .int .i64 4]) (by simp [results, Try.results78, go_sem]) rfl ?_
              exact ROpenOf.none 4 E.out OPW.out.bl.drew rfl
            have hl1 : ¬ 32 * (N : Int) < (h.long : Int) := by omega
            by_cases hx2 : 32 * L < h.used
            · have E : Hid (ro = (none, 4)) := by have := RO.out; rw [if_pos (.inr hx2)] at this; exact this
              have hl2 : 32 * (L : Int) < (h.used : Int) := by omega
              clear hx1 hx2 RO
              refine wp_region_held (S := S0) (by kernel_rfl) ?_
              change wpAnyH _ _ _ _ _ _ _ _ (World.drew _)
              refine wpAnyH_take (i := 0) (v := .pointer (some ⟨S, 0, none⟩)) rfl (by kernel_rfl) (by kernel_rfl) (by kernel_rfl) (fun _ _ _ h => h) (.inl ⟨by rfl, by intro w hw; go_simp⟩) s0 ?_
              try simp only [Act.put, List.getElem_toArray, List.getElem_cons_zero, List.getElem_cons_succ, List.setIfInBounds_toArray, List.set_cons_zero, List.set_cons_succ]
              refine wpAnyH_take (i := 1) (v := .pointer (some ⟨S, 0, none⟩)) rfl (by kernel_rfl) (by kernel_rfl) (by kernel_rfl) (fun _ _ _ h => h) (.inl ⟨by rfl, by intro w hw; go_simp⟩) s0 ?_
              try simp only [Act.put, List.getElem_toArray, List.getElem_cons_zero, List.getElem_cons_succ, List.setIfInBounds_toArray, List.set_cons_zero, List.set_cons_succ]
              refine wpAnyH_take (i := 2) (v := .pointer (some ⟨S, 5, none⟩)) rfl (by kernel_rfl) (by kernel_rfl) (by kernel_rfl) (fun _ _ _ h => h) (.inl ⟨by rfl, by intro w hw; go_simp⟩) s0 ?_
              try simp only [Act.put, List.getElem_toArray, List.getElem_cons_zero, List.getElem_cons_succ, List.setIfInBounds_toArray, List.set_cons_zero, List.set_cons_succ]
              refine wpAnyH_take (i := 3) (v := .int .i64 (h.long : Int)) rfl (by kernel_rfl) (by kernel_rfl) (by kernel_rfl) (fun _ _ _ h => h) (.inl ⟨by rfl, by intro w hw; have h := hSS.out w hw; obtain ⟨q0, q1, q2, q3, q4⟩ := h; go_simp⟩) s0 ?_
              try simp only [Act.put, List.getElem_toArray, List.getElem_cons_zero, List.getElem_cons_succ, List.setIfInBounds_toArray, List.set_cons_zero, List.set_cons_succ]
              refine wpAnyH_take (i := 4) (v := .pointer (some ⟨S, 0, none⟩)) rfl (by kernel_rfl) (by kernel_rfl) (by kernel_rfl) (fun _ _ _ h => h) (.inl ⟨by rfl, by intro w hw; go_simp⟩) s0 ?_
              try simp only [Act.put, List.getElem_toArray, List.getElem_cons_zero, List.getElem_cons_succ, List.setIfInBounds_toArray, List.set_cons_zero, List.set_cons_succ]
              refine wpAnyH_take (i := 5) (v := .pointer (some ⟨S, 0, none⟩)) rfl (by kernel_rfl) (by kernel_rfl) (by kernel_rfl) (fun _ _ _ h => h) (.inl ⟨by rfl, by intro w hw; go_simp⟩) s0 ?_
              try simp only [Act.put, List.getElem_toArray, List.getElem_cons_zero, List.getElem_cons_succ, List.setIfInBounds_toArray, List.set_cons_zero, List.set_cons_succ]
              refine wpAnyH_take (i := 6) (v := .pointer (some ⟨S, 1, none⟩)) rfl (by kernel_rfl) (by kernel_rfl) (by kernel_rfl) (fun _ _ _ h => h) (.inl ⟨by rfl, by intro w hw; go_simp⟩) s0 ?_
              try simp only [Act.put, List.getElem_toArray, List.getElem_cons_zero, List.getElem_cons_succ, List.setIfInBounds_toArray, List.set_cons_zero, List.set_cons_succ]
              refine wpAnyH_take (i := 7) (v := .pointer (some ⟨S, 1, none⟩)) rfl (by kernel_rfl) (by kernel_rfl) (by kernel_rfl) (fun _ _ _ h => h) (.inl ⟨by rfl, by intro w hw; go_simp⟩) s0 ?_
              try simp only [Act.put, List.getElem_toArray, List.getElem_cons_zero, List.getElem_cons_succ, List.setIfInBounds_toArray, List.set_cons_zero, List.set_cons_succ]
              refine wpAnyH_take (i := 8) (v := .pointer (some ⟨A0, 0, none⟩)) rfl (by kernel_rfl) (by kernel_rfl) (by kernel_rfl) (fun _ _ _ h => h) (.inl ⟨by rfl, by intro w hw; have h := hSS.out w hw; obtain ⟨q0, q1, q2, q3, q4⟩ := h; go_simp⟩) s0 ?_
              try simp only [Act.put, List.getElem_toArray, List.getElem_cons_zero, List.getElem_cons_succ, List.setIfInBounds_toArray, List.set_cons_zero, List.set_cons_succ]
              refine wpAnyH_one (i := 9) (by kernel_rfl) rfl (by rfl) (fun Kc hK => ?_)
              go_simp
              refine ((SZ0.out).mono ?_)
              rintro en wz ⟨rfl, rfl⟩
              go_simp
              refine hK _ _ s0 ?_
              clear hK Kc
              try simp only [Act.put, List.getElem_toArray, List.getElem_cons_zero, List.getElem_cons_succ, List.setIfInBounds_toArray, List.set_cons_zero, List.set_cons_succ]
              refine wpAnyH_take (i := 10) (v := .bool false) rfl (by kernel_rfl) (by kernel_rfl) (by kernel_rfl) (fun _ _ _ h => h) (.inl ⟨by rfl, by intro w hw; go_simp; try simp [hl1]⟩) s0 ?_
              try simp only [Act.put, List.getElem_toArray, List.getElem_cons_zero, List.getElem_cons_succ, List.setIfInBounds_toArray, List.set_cons_zero, List.set_cons_succ]
              refine wpAnyH_take (i := 11) (v := .bool false) rfl (by kernel_rfl) (by kernel_rfl) (by kernel_rfl) (fun _ _ _ h => h) (.inl ⟨by rfl, by intro w hw; go_simp⟩) s0 ?_
              try simp only [Act.put, List.getElem_toArray, List.getElem_cons_zero, List.getElem_cons_succ, List.setIfInBounds_toArray, List.set_cons_zero, List.set_cons_succ]
              refine wpAnyH_take (i := 12) (v := .pointer (some ⟨S, 0, none⟩)) rfl (by kernel_rfl) (by kernel_rfl) (by kernel_rfl) (fun _ _ _ h => h) (.inl ⟨by rfl, by intro w hw; go_simp⟩) s0 ?_
              try simp only [Act.put, List.getElem_toArray, List.getElem_cons_zero, List.getElem_cons_succ, List.setIfInBounds_toArray, List.set_cons_zero, List.set_cons_succ]
              refine wpAnyH_take (i := 13) (v := .pointer (some ⟨S, 0, none⟩)) rfl (by kernel_rfl) (by kernel_rfl) (by kernel_rfl) (fun _ _ _ h => h) (.inl ⟨by rfl, by intro w hw; go_simp⟩) s0 ?_
              try simp only [Act.put, List.getElem_toArray, List.getElem_cons_zero, List.getElem_cons_succ, List.setIfInBounds_toArray, List.set_cons_zero, List.set_cons_succ]
              refine wpAnyH_take (i := 14) (v := .pointer (some ⟨S, 6, none⟩)) rfl (by kernel_rfl) (by kernel_rfl) (by kernel_rfl) (fun _ _ _ h => h) (.inl ⟨by rfl, by intro w hw; go_simp⟩) s0 ?_
              try simp only [Act.put, List.getElem_toArray, List.getElem_cons_zero, List.getElem_cons_succ, List.setIfInBounds_toArray, List.set_cons_zero, List.set_cons_succ]
              refine wpAnyH_take (i := 15) (v := .int .i64 (h.used : Int)) rfl (by kernel_rfl) (by kernel_rfl) (by kernel_rfl) (fun _ _ _ h => h) (.inl ⟨by rfl, by intro w hw; have h := hSS.out w hw; obtain ⟨q0, q1, q2, q3, q4⟩ := h; go_simp⟩) s0 ?_
              try simp only [Act.put, List.getElem_toArray, List.getElem_cons_zero, List.getElem_cons_succ, List.setIfInBounds_toArray, List.set_cons_zero, List.set_cons_succ]
              refine wpAnyH_take (i := 16) (v := .pointer (some ⟨S, 0, none⟩)) rfl (by kernel_rfl) (by kernel_rfl) (by kernel_rfl) (fun _ _ _ h => h) (.inl ⟨by rfl, by intro w hw; go_simp⟩) s0 ?_
              try simp only [Act.put, List.getElem_toArray, List.getElem_cons_zero, List.getElem_cons_succ, List.setIfInBounds_toArray, List.set_cons_zero, List.set_cons_succ]
              refine wpAnyH_take (i := 17) (v := .pointer (some ⟨S, 0, none⟩)) rfl (by kernel_rfl) (by kernel_rfl) (by kernel_rfl) (fun _ _ _ h => h) (.inl ⟨by rfl, by intro w hw; go_simp⟩) s0 ?_
              try simp only [Act.put, List.getElem_toArray, List.getElem_cons_zero, List.getElem_cons_succ, List.setIfInBounds_toArray, List.set_cons_zero, List.set_cons_succ]
              refine wpAnyH_take (i := 18) (v := .pointer (some ⟨S, 3, none⟩)) rfl (by kernel_rfl) (by kernel_rfl) (by kernel_rfl) (fun _ _ _ h => h) (.inl ⟨by rfl, by intro w hw; go_simp⟩) s0 ?_
              try simp only [Act.put, List.getElem_toArray, List.getElem_cons_zero, List.getElem_cons_succ, List.setIfInBounds_toArray, List.set_cons_zero, List.set_cons_succ]
              refine wpAnyH_take (i := 19) (v := .pointer (some ⟨AL, 0, none⟩)) rfl (by kernel_rfl) (by kernel_rfl) (by kernel_rfl) (fun _ _ _ h => h) (.inl ⟨by rfl, by intro w hw; have h := hSS.out w hw; obtain ⟨q0, q1, q2, q3, q4⟩ := h; go_simp⟩) s0 ?_
              try simp only [Act.put, List.getElem_toArray, List.getElem_cons_zero, List.getElem_cons_succ, List.setIfInBounds_toArray, List.set_cons_zero, List.set_cons_succ]
              refine wpAnyH_one (i := 20) (by kernel_rfl) rfl (by rfl) (fun Kc hK => ?_)
              go_simp
              refine ((SZL.out).mono ?_)
              rintro en wz ⟨rfl, rfl⟩
              go_simp
              refine hK _ _ s0 ?_
              clear hK Kc
              try simp only [Act.put, List.getElem_toArray, List.getElem_cons_zero, List.getElem_cons_succ, List.setIfInBounds_toArray, List.set_cons_zero, List.set_cons_succ]
              refine wpAnyH_take (i := 21) (v := .bool true) rfl (by kernel_rfl) (by kernel_rfl) (by kernel_rfl) (fun _ _ _ h => h) (.inl ⟨by rfl, by intro w hw; go_simp; try simp [hl2]⟩) s0 ?_
              try simp only [Act.put, List.getElem_toArray, List.getElem_cons_zero, List.getElem_cons_succ, List.setIfInBounds_toArray, List.set_cons_zero, List.set_cons_succ]
              refine wpAnyH_take (i := 22) (v := .bool true) rfl (by kernel_rfl) (by kernel_rfl) (by kernel_rfl) (fun _ _ _ h => h) (.inl ⟨by rfl, by intro w hw; go_simp⟩) s0 ?_
              try simp only [Act.put, List.getElem_toArray, List.getElem_cons_zero, List.getElem_cons_succ, List.setIfInBounds_toArray, List.set_cons_zero, List.set_cons_succ]
              refine wpAnyH_done (by kernel_rfl) ?_ _
              clear s0 hSS hSA hSB
              go_wp2_with fail
              refine bodyPost_ret (v := .tuple #[.pointer none, .int .i64 4]) (by simp [results, Try.results78, go_sem]) rfl ?_
              exact ROpenOf.none 4 E.out OPW.out.bl.drew rfl
            have hl2 : ¬ 32 * (L : Int) < (h.used : Int) := by omega
            have RO2 : Hid (ro = if ge ≠ 0 then (none, ge) else if fe ≠ 0 then (none, fe) else (some ⟨N, L, h, cs, R, false⟩, 0)) := by have := RO.out; rw [if_neg (by omega)] at this; exact this
            have OK1 : Hid (fe = 0 → StOk ⟨N, L, h, cs, R, false⟩) := fun h0 => OK0.out cs R hx1 hx2 rfl (by rw [h0])
            clear hx1 hx2 RO OK0
            refine wp_region_held (S := S0) (by kernel_rfl) ?_
            change wpAnyH _ _ _ _ _ _ _ _ (World.drew _)
            refine wpAnyH_take (i := 0) (v := .pointer (some ⟨S, 0, none⟩)) rfl (by kernel_rfl) (by kernel_rfl) (by kernel_rfl) (fun _ _ _ h => h) (.inl ⟨by rfl, by intro w hw; go_simp⟩) s0 ?_
            try simp only [Act.put, List.getElem_toArray, List.getElem_cons_zero, List.getElem_cons_succ, List.setIfInBounds_toArray, List.set_cons_zero, List.set_cons_succ]
            refine wpAnyH_take (i := 1) (v := .pointer (some ⟨S, 0, none⟩)) rfl (by kernel_rfl) (by kernel_rfl) (by kernel_rfl) (fun _ _ _ h => h) (.inl ⟨by rfl, by intro w hw; go_simp⟩) s0 ?_
            try simp only [Act.put, List.getElem_toArray, List.getElem_cons_zero, List.getElem_cons_succ, List.setIfInBounds_toArray, List.set_cons_zero, List.set_cons_succ]
            refine wpAnyH_take (i := 2) (v := .pointer (some ⟨S, 5, none⟩)) rfl (by kernel_rfl) (by kernel_rfl) (by kernel_rfl) (fun _ _ _ h => h) (.inl ⟨by rfl, by intro w hw; go_simp⟩) s0 ?_
            try simp only [Act.put, List.getElem_toArray, List.getElem_cons_zero, List.getElem_cons_succ, List.setIfInBounds_toArray, List.set_cons_zero, List.set_cons_succ]
            refine wpAnyH_take (i := 3) (v := .int .i64 (h.long : Int)) rfl (by kernel_rfl) (by kernel_rfl) (by kernel_rfl) (fun _ _ _ h => h) (.inl ⟨by rfl, by intro w hw; have h := hSS.out w hw; obtain ⟨q0, q1, q2, q3, q4⟩ := h; go_simp⟩) s0 ?_
            try simp only [Act.put, List.getElem_toArray, List.getElem_cons_zero, List.getElem_cons_succ, List.setIfInBounds_toArray, List.set_cons_zero, List.set_cons_succ]
            refine wpAnyH_take (i := 4) (v := .pointer (some ⟨S, 0, none⟩)) rfl (by kernel_rfl) (by kernel_rfl) (by kernel_rfl) (fun _ _ _ h => h) (.inl ⟨by rfl, by intro w hw; go_simp⟩) s0 ?_
            try simp only [Act.put, List.getElem_toArray, List.getElem_cons_zero, List.getElem_cons_succ, List.setIfInBounds_toArray, List.set_cons_zero, List.set_cons_succ]
            refine wpAnyH_take (i := 5) (v := .pointer (some ⟨S, 0, none⟩)) rfl (by kernel_rfl) (by kernel_rfl) (by kernel_rfl) (fun _ _ _ h => h) (.inl ⟨by rfl, by intro w hw; go_simp⟩) s0 ?_
            try simp only [Act.put, List.getElem_toArray, List.getElem_cons_zero, List.getElem_cons_succ, List.setIfInBounds_toArray, List.set_cons_zero, List.set_cons_succ]
            refine wpAnyH_take (i := 6) (v := .pointer (some ⟨S, 1, none⟩)) rfl (by kernel_rfl) (by kernel_rfl) (by kernel_rfl) (fun _ _ _ h => h) (.inl ⟨by rfl, by intro w hw; go_simp⟩) s0 ?_
            try simp only [Act.put, List.getElem_toArray, List.getElem_cons_zero, List.getElem_cons_succ, List.setIfInBounds_toArray, List.set_cons_zero, List.set_cons_succ]
            refine wpAnyH_take (i := 7) (v := .pointer (some ⟨S, 1, none⟩)) rfl (by kernel_rfl) (by kernel_rfl) (by kernel_rfl) (fun _ _ _ h => h) (.inl ⟨by rfl, by intro w hw; go_simp⟩) s0 ?_
            try simp only [Act.put, List.getElem_toArray, List.getElem_cons_zero, List.getElem_cons_succ, List.setIfInBounds_toArray, List.set_cons_zero, List.set_cons_succ]
            refine wpAnyH_take (i := 8) (v := .pointer (some ⟨A0, 0, none⟩)) rfl (by kernel_rfl) (by kernel_rfl) (by kernel_rfl) (fun _ _ _ h => h) (.inl ⟨by rfl, by intro w hw; have h := hSS.out w hw; obtain ⟨q0, q1, q2, q3, q4⟩ := h; go_simp⟩) s0 ?_
            try simp only [Act.put, List.getElem_toArray, List.getElem_cons_zero, List.getElem_cons_succ, List.setIfInBounds_toArray, List.set_cons_zero, List.set_cons_succ]
            refine wpAnyH_one (i := 9) (by kernel_rfl) rfl (by rfl) (fun Kc hK => ?_)
            go_simp
            refine ((SZ0.out).mono ?_)
            rintro en wz ⟨rfl, rfl⟩
            go_simp
            refine hK _ _ s0 ?_
            clear hK Kc
            try simp only [Act.put, List.getElem_toArray, List.getElem_cons_zero, List.getElem_cons_succ, List.setIfInBounds_toArray, List.set_cons_zero, List.set_cons_succ]
            refine wpAnyH_take (i := 10) (v := .bool false) rfl (by kernel_rfl) (by kernel_rfl) (by kernel_rfl) (fun _ _ _ h => h) (.inl ⟨by rfl, by intro w hw; go_simp; try simp [hl1]⟩) s0 ?_
            try simp only [Act.put, List.getElem_toArray, List.getElem_cons_zero, List.getElem_cons_succ, List.setIfInBounds_toArray, List.set_cons_zero, List.set_cons_succ]
            refine wpAnyH_take (i := 11) (v := .bool false) rfl (by kernel_rfl) (by kernel_rfl) (by kernel_rfl) (fun _ _ _ h => h) (.inl ⟨by rfl, by intro w hw; go_simp⟩) s0 ?_
            try simp only [Act.put, List.getElem_toArray, List.getElem_cons_zero, List.getElem_cons_succ, List.setIfInBounds_toArray, List.set_cons_zero, List.set_cons_succ]
            refine wpAnyH_take (i := 12) (v := .pointer (some ⟨S, 0, none⟩)) rfl (by kernel_rfl) (by kernel_rfl) (by kernel_rfl) (fun _ _ _ h => h) (.inl ⟨by rfl, by intro w hw; go_simp⟩) s0 ?_
            try simp only [Act.put, List.getElem_toArray, List.getElem_cons_zero, List.getElem_cons_succ, List.setIfInBounds_toArray, List.set_cons_zero, List.set_cons_succ]
            refine wpAnyH_take (i := 13) (v := .pointer (some ⟨S, 0, none⟩)) rfl (by kernel_rfl) (by kernel_rfl) (by kernel_rfl) (fun _ _ _ h => h) (.inl ⟨by rfl, by intro w hw; go_simp⟩) s0 ?_
            try simp only [Act.put, List.getElem_toArray, List.getElem_cons_zero, List.getElem_cons_succ, List.setIfInBounds_toArray, List.set_cons_zero, List.set_cons_succ]
            refine wpAnyH_take (i := 14) (v := .pointer (some ⟨S, 6, none⟩)) rfl (by kernel_rfl) (by kernel_rfl) (by kernel_rfl) (fun _ _ _ h => h) (.inl ⟨by rfl, by intro w hw; go_simp⟩) s0 ?_
            try simp only [Act.put, List.getElem_toArray, List.getElem_cons_zero, List.getElem_cons_succ, List.setIfInBounds_toArray, List.set_cons_zero, List.set_cons_succ]
            refine wpAnyH_take (i := 15) (v := .int .i64 (h.used : Int)) rfl (by kernel_rfl) (by kernel_rfl) (by kernel_rfl) (fun _ _ _ h => h) (.inl ⟨by rfl, by intro w hw; have h := hSS.out w hw; obtain ⟨q0, q1, q2, q3, q4⟩ := h; go_simp⟩) s0 ?_
            try simp only [Act.put, List.getElem_toArray, List.getElem_cons_zero, List.getElem_cons_succ, List.setIfInBounds_toArray, List.set_cons_zero, List.set_cons_succ]
            refine wpAnyH_take (i := 16) (v := .pointer (some ⟨S, 0, none⟩)) rfl (by kernel_rfl) (by kernel_rfl) (by kernel_rfl) (fun _ _ _ h => h) (.inl ⟨by rfl, by intro w hw; go_simp⟩) s0 ?_
            try simp only [Act.put, List.getElem_toArray, List.getElem_cons_zero, List.getElem_cons_succ, List.setIfInBounds_toArray, List.set_cons_zero, List.set_cons_succ]
            refine wpAnyH_take (i := 17) (v := .pointer (some ⟨S, 0, none⟩)) rfl (by kernel_rfl) (by kernel_rfl) (by kernel_rfl) (fun _ _ _ h => h) (.inl ⟨by rfl, by intro w hw; go_simp⟩) s0 ?_
            try simp only [Act.put, List.getElem_toArray, List.getElem_cons_zero, List.getElem_cons_succ, List.setIfInBounds_toArray, List.set_cons_zero, List.set_cons_succ]
            refine wpAnyH_take (i := 18) (v := .pointer (some ⟨S, 3, none⟩)) rfl (by kernel_rfl) (by kernel_rfl) (by kernel_rfl) (fun _ _ _ h => h) (.inl ⟨by rfl, by intro w hw; go_simp⟩) s0 ?_
            try simp only [Act.put, List.getElem_toArray, List.getElem_cons_zero, List.getElem_cons_succ, List.setIfInBounds_toArray, List.set_cons_zero, List.set_cons_succ]
            refine wpAnyH_take (i := 19) (v := .pointer (some ⟨AL, 0, none⟩)) rfl (by kernel_rfl) (by kernel_rfl) (by kernel_rfl) (fun _ _ _ h => h) (.inl ⟨by rfl, by intro w hw; have h := hSS.out w hw; obtain ⟨q0, q1, q2, q3, q4⟩ := h; go_simp⟩) s0 ?_
            try simp only [Act.put, List.getElem_toArray, List.getElem_cons_zero, List.getElem_cons_succ, List.setIfInBounds_toArray, List.set_cons_zero, List.set_cons_succ]
            refine wpAnyH_one (i := 20) (by kernel_rfl) rfl (by rfl) (fun Kc hK => ?_)
            go_simp
            refine ((SZL.out).mono ?_)
            rintro en wz ⟨rfl, rfl⟩
            go_simp
            refine hK _ _ s0 ?_
            clear hK Kc
            try simp only [Act.put, List.getElem_toArray, List.getElem_cons_zero, List.getElem_cons_succ, List.setIfInBounds_toArray, List.set_cons_zero, List.set_cons_succ]
            refine wpAnyH_take (i := 21) (v := .bool false) rfl (by kernel_rfl) (by kernel_rfl) (by kernel_rfl) (fun _ _ _ h => h) (.inl ⟨by rfl, by intro w hw; go_simp; try simp [hl2]⟩) s0 ?_
            try simp only [Act.put, List.getElem_toArray, List.getElem_cons_zero, List.getElem_cons_succ, List.setIfInBounds_toArray, List.set_cons_zero, List.set_cons_succ]
            refine wpAnyH_take (i := 22) (v := .bool false) rfl (by kernel_rfl) (by kernel_rfl) (by kernel_rfl) (fun _ _ _ h => h) (.inl ⟨by rfl, by intro w hw; go_simp⟩) s0 ?_
            try simp only [Act.put, List.getElem_toArray, List.getElem_cons_zero, List.getElem_cons_succ, List.setIfInBounds_toArray, List.set_cons_zero, List.set_cons_succ]
            refine wpAnyH_done (by kernel_rfl) ?_ _
            clear hSS
            have hSS := hSB
            have hsl0 : (0 : Int) ≤ (h.slot : Int) := by omega
            have hsl2 : (h.slot : Int) < 2 := by omega
            clear SZ0 SZL s0
            have OPD0 := OPW.out.below (Below.refl _ w6).drew
            have hbd : Below w6.heap.size w6 w6.drew := (Below.refl _ w6).drew
            obtain ⟨wd, hwd⟩ : ∃ wd, w6.drew = wd := ⟨_, rfl⟩
            rw [hwd] at OPD0 hbd ⊢
            have OPD := Lib.hid OPD0
            have GTW := Lib.hid (GTZ.out wd.drew hbd.drew)
            have SBD : Hid (∀ W, Below wd.heap.size wd W → S0 W) := fun W hb => SB.out W (hbd.trans (hb.mono hbd.size))
            have s0 : S0 wd.drew := SBD.out _ (Below.refl _ wd).drew
            clear OPD0 hwd hbd GTZ SB
            clear hSA hSB
            go_wp2_with fail
            refine wp_region_held (S := S0) (by kernel_rfl) ?_
            change wpAnyH _ _ _ _ _ _ _ _ (World.drew _)
            refine wpAnyH_take (i := 0) (v := .pointer (some ⟨S, 0, none⟩)) rfl (by kernel_rfl) (by kernel_rfl) (by kernel_rfl) (fun _ _ _ h => h) (.inl ⟨by rfl, by intro w hw; go_simp⟩) s0 ?_
            try simp only [Act.put, List.getElem_toArray, List.getElem_cons_zero, List.getElem_cons_succ, List.setIfInBounds_toArray, List.set_cons_zero, List.set_cons_succ]
            refine wpAnyH_take (i := 1) (v := .pointer (some ⟨S, 0, none⟩)) rfl (by kernel_rfl) (by kernel_rfl) (by kernel_rfl) (fun _ _ _ h => h) (.inl ⟨by rfl, by intro w hw; go_simp⟩) s0 ?_
            try simp only [Act.put, List.getElem_toArray, List.getElem_cons_zero, List.getElem_cons_succ, List.setIfInBounds_toArray, List.set_cons_zero, List.set_cons_succ]
            refine wpAnyH_take (i := 2) (v := .pointer (some ⟨S, 0, none⟩)) rfl (by kernel_rfl) (by kernel_rfl) (by kernel_rfl) (fun _ _ _ h => h) (.inl ⟨by rfl, by intro w hw; go_simp⟩) s0 ?_
            try simp only [Act.put, List.getElem_toArray, List.getElem_cons_zero, List.getElem_cons_succ, List.setIfInBounds_toArray, List.set_cons_zero, List.set_cons_succ]
            refine wpAnyH_take (i := 3) (v := .pointer (some ⟨S, 4, none⟩)) rfl (by kernel_rfl) (by kernel_rfl) (by kernel_rfl) (fun _ _ _ h => h) (.inl ⟨by rfl, by intro w hw; go_simp⟩) s0 ?_
            try simp only [Act.put, List.getElem_toArray, List.getElem_cons_zero, List.getElem_cons_succ, List.setIfInBounds_toArray, List.set_cons_zero, List.set_cons_succ]
            refine wpAnyH_take (i := 4) (v := .int .i64 (h.slot : Int)) rfl (by kernel_rfl) (by kernel_rfl) (by kernel_rfl) (fun _ _ _ h => h) (.inl ⟨by rfl, by intro w hw; have h := hSS.out w hw; obtain ⟨q0, q1, q2, q3, q4⟩ := h; go_simp⟩) s0 ?_
            try simp only [Act.put, List.getElem_toArray, List.getElem_cons_zero, List.getElem_cons_succ, List.setIfInBounds_toArray, List.set_cons_zero, List.set_cons_succ]
            refine wpAnyH_take (i := 5) (v := .pointer (some ⟨S, 0, none⟩)) rfl (by kernel_rfl) (by kernel_rfl) (by kernel_rfl) (fun _ _ _ h => h) (.inl ⟨by rfl, by intro w hw; go_simp⟩) s0 ?_
            try simp only [Act.put, List.getElem_toArray, List.getElem_cons_zero, List.getElem_cons_succ, List.setIfInBounds_toArray, List.set_cons_zero, List.set_cons_succ]
            refine wpAnyH_take (i := 6) (v := .pointer (some ⟨S, 1, none⟩)) rfl (by kernel_rfl) (by kernel_rfl) (by kernel_rfl) (fun _ _ _ h => h) (.inl ⟨by rfl, by intro w hw; go_simp⟩) s0 ?_
            try simp only [Act.put, List.getElem_toArray, List.getElem_cons_zero, List.getElem_cons_succ, List.setIfInBounds_toArray, List.set_cons_zero, List.set_cons_succ]
            refine wpAnyH_take (i := 7) (v := .pointer (some ⟨S, 1 + h.slot, none⟩)) rfl (by kernel_rfl) (by kernel_rfl) (by kernel_rfl) (fun _ _ _ h => h) (.inl ⟨by rfl, by intro w hw; go_simp⟩) s0 ?_
            try simp only [Act.put, List.getElem_toArray, List.getElem_cons_zero, List.getElem_cons_succ, List.setIfInBounds_toArray, List.set_cons_zero, List.set_cons_succ]
            refine wpAnyH_take (i := 8) (v := .pointer (some ⟨A, 0, none⟩)) rfl (by kernel_rfl) (by kernel_rfl) (by kernel_rfl) (fun _ _ _ h => h) (.inl ⟨by rfl, by intro w hw; have h := hSS.out w hw; obtain ⟨q0, q1, q2, q3, q4⟩ := h; go_simp⟩) s0 ?_
            try simp only [Act.put, List.getElem_toArray, List.getElem_cons_zero, List.getElem_cons_succ, List.setIfInBounds_toArray, List.set_cons_zero, List.set_cons_succ]
            refine wpAnyH_take (i := 9) (v := .pointer (some ⟨S, 0, none⟩)) rfl (by kernel_rfl) (by kernel_rfl) (by kernel_rfl) (fun _ _ _ h => h) (.inl ⟨by rfl, by intro w hw; go_simp⟩) s0 ?_
            try simp only [Act.put, List.getElem_toArray, List.getElem_cons_zero, List.getElem_cons_succ, List.setIfInBounds_toArray, List.set_cons_zero, List.set_cons_succ]
            refine wpAnyH_take (i := 10) (v := .pointer (some ⟨S, 0, none⟩)) rfl (by kernel_rfl) (by kernel_rfl) (by kernel_rfl) (fun _ _ _ h => h) (.inl ⟨by rfl, by intro w hw; go_simp⟩) s0 ?_
            try simp only [Act.put, List.getElem_toArray, List.getElem_cons_zero, List.getElem_cons_succ, List.setIfInBounds_toArray, List.set_cons_zero, List.set_cons_succ]
            refine wpAnyH_take (i := 11) (v := .pointer (some ⟨S, 5, none⟩)) rfl (by kernel_rfl) (by kernel_rfl) (by kernel_rfl) (fun _ _ _ h => h) (.inl ⟨by rfl, by intro w hw; go_simp⟩) s0 ?_
            try simp only [Act.put, List.getElem_toArray, List.getElem_cons_zero, List.getElem_cons_succ, List.setIfInBounds_toArray, List.set_cons_zero, List.set_cons_succ]
            refine wpAnyH_take (i := 12) (v := .int .i64 (h.long : Int)) rfl (by kernel_rfl) (by kernel_rfl) (by kernel_rfl) (fun _ _ _ h => h) (.inl ⟨by rfl, by intro w hw; have h := hSS.out w hw; obtain ⟨q0, q1, q2, q3, q4⟩ := h; go_simp⟩) s0 ?_
            try simp only [Act.put, List.getElem_toArray, List.getElem_cons_zero, List.getElem_cons_succ, List.setIfInBounds_toArray, List.set_cons_zero, List.set_cons_succ]
            refine wpAnyH_one (i := 13) (by kernel_rfl) rfl (by rfl) (fun Kc hK => ?_)
            go_simp
            refine (GTW.out.mono ?_)
            rintro en w8 ⟨b8, v8, rfl, o8⟩
            have O8 : Hid (Below wd.heap.size wd w8 ∧ w8.ownsRow wd.heap.size 5 1 v8 cs.length (cs.map byteV)) := ⟨(Below.refl _ wd).drew.trans b8, o8⟩
            obtain ⟨a8, c8, rfl⟩ := row_form o8
            have s8 := SBD.out _ O8.out.1
            clear b8 o8
            go_simp
            refine hK _ _ s8 ?_
            clear hK Kc
            try simp only [Act.put, List.getElem_toArray, List.getElem_cons_zero, List.getElem_cons_succ, List.setIfInBounds_toArray, List.set_cons_zero, List.set_cons_succ]
            refine wpAnyH_take (i := 14) (v := .tuple #[.slice a8 cs.length c8, .int .i64 ge]) rfl (by kernel_rfl) (by kernel_rfl) (by kernel_rfl) (fun _ _ _ h => h) (.inl ⟨by rfl, by intro w hw; go_simp⟩) s8 ?_
            try simp only [Act.put, List.getElem_toArray, List.getElem_cons_zero, List.getElem_cons_succ, List.setIfInBounds_toArray, List.set_cons_zero, List.set_cons_succ]
            refine wpAnyH_take (i := 15) (v := .slice a8 cs.length c8) rfl (by kernel_rfl) (by kernel_rfl) (by kernel_rfl) (fun _ _ _ h => h) (.inl ⟨by rfl, by intro w hw; go_simp⟩) s8 ?_
            try simp only [Act.put, List.getElem_toArray, List.getElem_cons_zero, List.getElem_cons_succ, List.setIfInBounds_toArray, List.set_cons_zero, List.set_cons_succ]
            refine wpAnyH_take (i := 16) (v := .int .i64 ge) rfl (by kernel_rfl) (by kernel_rfl) (by kernel_rfl) (fun _ _ _ h => h) (.inl ⟨by rfl, by intro w hw; go_simp⟩) s8 ?_
            try simp only [Act.put, List.getElem_toArray, List.getElem_cons_zero, List.getElem_cons_succ, List.setIfInBounds_toArray, List.set_cons_zero, List.set_cons_succ]
            refine wpAnyH_take (i := 17) (v := .slice a8 cs.length c8) rfl (by kernel_rfl) (by kernel_rfl) (by kernel_rfl) (fun _ _ _ h => h) (.inl ⟨by rfl, by intro w hw; go_simp⟩) s8 ?_
            try simp only [Act.put, List.getElem_toArray, List.getElem_cons_zero, List.getElem_cons_succ, List.setIfInBounds_toArray, List.set_cons_zero, List.set_cons_succ]
            refine wpAnyH_take (i := 18) (v := .int .i64 ge) rfl (by kernel_rfl) (by kernel_rfl) (by kernel_rfl) (fun _ _ _ h => h) (.inl ⟨by rfl, by intro w hw; go_simp⟩) s8 ?_
            try simp only [Act.put, List.getElem_toArray, List.getElem_cons_zero, List.getElem_cons_succ, List.setIfInBounds_toArray, List.set_cons_zero, List.set_cons_succ]
            refine wpAnyH_done (by kernel_rfl) ?_ _
            clear hSS SBD s8 s0 GTW
            have OP8 := Lib.hid (OPD.out.below O8.out.1)
            by_cases hge : ge = 0
            rotate_left
            · have E : Hid (ro = (none, ge)) := by have := RO2.out; rw [if_pos hge] at this; exact this
              have hb' : ((ge : Int) != 0) = true := by rw [bne_iff_ne]; exact hge
              clear hge RO2 OK1
              go_wp2_with fail
              refine bodyPost_ret (v := .tuple #[.pointer none, .int .i64 ge]) (by simp [results, Try.results78, go_sem]) rfl ?_
              exact ROpenOf.none ge E.out OP8.out.bl rfl
            have RO3 : Hid (ro = if fe ≠ 0 then (none, fe) else (some ⟨N, L, h, cs, R, false⟩, 0)) := by have := RO2.out; rw [if_neg (by rw [hge]; decide)] at this; exact this
            subst hge
            clear RO2
            have FRW := Lib.hid (FRM.out w8.drew OP8.out.bl.drew AL (OP8.out.al.below (Below.refl _ w8).drew))
            obtain ⟨S1, hS1⟩ : ∃ S0 : World → Prop, S0 = fun w' => w'.heap[S]? = some (.cells (srcells B A0 A1 AL ⟨N, L, h, [], [], false⟩ (.slice none 0 0) (.slice none 0 0)) 141 (0, 0)) := ⟨_, rfl⟩
            have hSS : Hid (∀ w', S1 w' → w'.cell? ⟨S, 3, none⟩ = some (.pointer (some ⟨AL, 0, none⟩)) ∧ w'.cell? ⟨S, 6, none⟩ = some (.int .i64 (h.used : Int))) := fun w' hh => by
              rw [hS1] at hh
              exact ⟨Joins.cell_of_block hh 3, Joins.cell_of_block hh 6⟩
            have SB : Hid (∀ W, Below w8.heap.size w8 W → S1 W) := fun W hb => by rw [hS1]; exact (OP8.out.below hb).blk
            have s0 : S1 w8.drew := SB.out _ (Below.refl _ w8).drew
            clear hS1 FRM
            go_wp2_with fail
            refine wp_region_held (S := S1) (by kernel_rfl) ?_
            change wpAnyH _ _ _ _ _ _ _ _ (World.drew _)
            refine wpAnyH_take (i := 0) (v := .pointer (some ⟨S, 0, none⟩)) rfl (by kernel_rfl) (by kernel_rfl) (by kernel_rfl) (fun _ _ _ h => h) (.inl ⟨by rfl, by intro w hw; go_simp⟩) s0 ?_
            try simp only [Act.put, List.getElem_toArray, List.getElem_cons_zero, List.getElem_cons_succ, List.setIfInBounds_toArray, List.set_cons_zero, List.set_cons_succ]
            refine wpAnyH_take (i := 1) (v := .pointer (some ⟨S, 0, none⟩)) rfl (by kernel_rfl) (by kernel_rfl) (by kernel_rfl) (fun _ _ _ h => h) (.inl ⟨by rfl, by intro w hw; go_simp⟩) s0 ?_
            try simp only [Act.put, List.getElem_toArray, List.getElem_cons_zero, List.getElem_cons_succ, List.setIfInBounds_toArray, List.set_cons_zero, List.set_cons_succ]
            refine wpAnyH_take (i := 2) (v := .pointer (some ⟨S, 3, none⟩)) rfl (by kernel_rfl) (by kernel_rfl) (by kernel_rfl) (fun _ _ _ h => h) (.inl ⟨by rfl, by intro w hw; go_simp⟩) s0 ?_
            try simp only [Act.put, List.getElem_toArray, List.getElem_cons_zero, List.getElem_cons_succ, List.setIfInBounds_toArray, List.set_cons_zero, List.set_cons_succ]
            refine wpAnyH_take (i := 3) (v := .pointer (some ⟨AL, 0, none⟩)) rfl (by kernel_rfl) (by kernel_rfl) (by kernel_rfl) (fun _ _ _ h => h) (.inl ⟨by rfl, by intro w hw; have h := hSS.out w hw; obtain ⟨q0, q1⟩ := h; go_simp⟩) s0 ?_
            try simp only [Act.put, List.getElem_toArray, List.getElem_cons_zero, List.getElem_cons_succ, List.setIfInBounds_toArray, List.set_cons_zero, List.set_cons_succ]
            refine wpAnyH_take (i := 4) (v := .pointer (some ⟨S, 0, none⟩)) rfl (by kernel_rfl) (by kernel_rfl) (by kernel_rfl) (fun _ _ _ h => h) (.inl ⟨by rfl, by intro w hw; go_simp⟩) s0 ?_
            try simp only [Act.put, List.getElem_toArray, List.getElem_cons_zero, List.getElem_cons_succ, List.setIfInBounds_toArray, List.set_cons_zero, List.set_cons_succ]
            refine wpAnyH_take (i := 5) (v := .pointer (some ⟨S, 0, none⟩)) rfl (by kernel_rfl) (by kernel_rfl) (by kernel_rfl) (fun _ _ _ h => h) (.inl ⟨by rfl, by intro w hw; go_simp⟩) s0 ?_
            try simp only [Act.put, List.getElem_toArray, List.getElem_cons_zero, List.getElem_cons_succ, List.setIfInBounds_toArray, List.set_cons_zero, List.set_cons_succ]
            refine wpAnyH_take (i := 6) (v := .pointer (some ⟨S, 6, none⟩)) rfl (by kernel_rfl) (by kernel_rfl) (by kernel_rfl) (fun _ _ _ h => h) (.inl ⟨by rfl, by intro w hw; go_simp⟩) s0 ?_
            try simp only [Act.put, List.getElem_toArray, List.getElem_cons_zero, List.getElem_cons_succ, List.setIfInBounds_toArray, List.set_cons_zero, List.set_cons_succ]
            refine wpAnyH_take (i := 7) (v := .int .i64 (h.used : Int)) rfl (by kernel_rfl) (by kernel_rfl) (by kernel_rfl) (fun _ _ _ h => h) (.inl ⟨by rfl, by intro w hw; have h := hSS.out w hw; obtain ⟨q0, q1⟩ := h; go_simp⟩) s0 ?_
            try simp only [Act.put, List.getElem_toArray, List.getElem_cons_zero, List.getElem_cons_succ, List.setIfInBounds_toArray, List.set_cons_zero, List.set_cons_succ]
            refine wpAnyH_one (i := 8) (by kernel_rfl) rfl (by rfl) (fun Kc hK => ?_)
            go_simp
            refine (FRW.out.mono ?_)
            rintro en w9 ⟨b9, v9, rfl, o9⟩
            have O9 : Hid (Below w8.heap.size w8 w9 ∧ RowsOf w9 w8.heap.size v9 R) := ⟨(Below.refl _ w8).drew.trans b9, o9⟩
            obtain ⟨a9, c9, rfl⟩ := rows_form o9
            have s9 := SB.out _ O9.out.1
            clear b9 o9
            go_simp
            refine hK _ _ s9 ?_
            clear hK Kc
            try simp only [Act.put, List.getElem_toArray, List.getElem_cons_zero, List.getElem_cons_succ, List.setIfInBounds_toArray, List.set_cons_zero, List.set_cons_succ]
            refine wpAnyH_take (i := 9) (v := .tuple #[.slice a9 R.length c9, .int .i64 fe]) rfl (by kernel_rfl) (by kernel_rfl) (by kernel_rfl) (fun _ _ _ h => h) (.inl ⟨by rfl, by intro w hw; go_simp⟩) s9 ?_
            try simp only [Act.put, List.getElem_toArray, List.getElem_cons_zero, List.getElem_cons_succ, List.setIfInBounds_toArray, List.set_cons_zero, List.set_cons_succ]
            refine wpAnyH_take (i := 10) (v := .slice a9 R.length c9) rfl (by kernel_rfl) (by kernel_rfl) (by kernel_rfl) (fun _ _ _ h => h) (.inl ⟨by rfl, by intro w hw; go_simp⟩) s9 ?_
            try simp only [Act.put, List.getElem_toArray, List.getElem_cons_zero, List.getElem_cons_succ, List.setIfInBounds_toArray, List.set_cons_zero, List.set_cons_succ]
            refine wpAnyH_take (i := 11) (v := .int .i64 fe) rfl (by kernel_rfl) (by kernel_rfl) (by kernel_rfl) (fun _ _ _ h => h) (.inl ⟨by rfl, by intro w hw; go_simp⟩) s9 ?_
            try simp only [Act.put, List.getElem_toArray, List.getElem_cons_zero, List.getElem_cons_succ, List.setIfInBounds_toArray, List.set_cons_zero, List.set_cons_succ]
            refine wpAnyH_take (i := 12) (v := .slice a9 R.length c9) rfl (by kernel_rfl) (by kernel_rfl) (by kernel_rfl) (fun _ _ _ h => h) (.inl ⟨by rfl, by intro w hw; go_simp⟩) s9 ?_
            try simp only [Act.put, List.getElem_toArray, List.getElem_cons_zero, List.getElem_cons_succ, List.setIfInBounds_toArray, List.set_cons_zero, List.set_cons_succ]
            refine wpAnyH_take (i := 13) (v := .int .i64 fe) rfl (by kernel_rfl) (by kernel_rfl) (by kernel_rfl) (fun _ _ _ h => h) (.inl ⟨by rfl, by intro w hw; go_simp⟩) s9 ?_
            try simp only [Act.put, List.getElem_toArray, List.getElem_cons_zero, List.getElem_cons_succ, List.setIfInBounds_toArray, List.set_cons_zero, List.set_cons_succ]
            refine wpAnyH_done (by kernel_rfl) ?_ _
            clear hSS SB s9 s0 FRW
            have OP9 := Lib.hid (OP8.out.below O9.out.1)
            by_cases hfe : fe = 0
            rotate_left
            · have E : Hid (ro = (none, fe)) := by have := RO3.out; rw [if_pos hfe] at this; exact this
              have hb' : ((fe : Int) != 0) = true := by rw [bne_iff_ne]; exact hfe
              clear hfe RO3 OK1
              go_wp2_with fail
              refine bodyPost_ret (v := .tuple #[.pointer none, .int .i64 fe]) (by simp [results, Try.results78, go_sem]) rfl ?_
              exact ROpenOf.none fe E.out OP9.out.bl rfl
            have E : Hid (ro = (some ⟨N, L, h, cs, R, false⟩, 0)) := by have := RO3.out; rw [if_neg (by rw [hfe]; decide)] at this; exact this
            have k8 : w9.cell? ⟨S, 8, none⟩ = some (.slice none 0 0) := Joins.cell_of_block OP9.out.blk 8
            have kf8 : w9.frozen? ⟨S, 8, none⟩ = false := Joins.unfrozen_of_block OP9.out.blk 8
            have k9 : w9.cell? ⟨S, 9, none⟩ = some (.slice none 0 0) := Joins.cell_of_block OP9.out.blk 9
            have kf9 : w9.frozen? ⟨S, 9, none⟩ = false := Joins.unfrozen_of_block OP9.out.blk 9
            have FIN := Lib.hid (OPD.out.fin O8.out.1 O8.out.2 O9.out.1 O9.out.2 (OK1.out hfe))
            subst hfe
            clear RO3 OK1 O8 O9 OP8 OP9
            go_wp2_with fail
            refine bodyPost_ret (v := .tuple #[.pointer (some ⟨S, 0, none⟩), .int .i64 0]) (by simp [results, Try.results78, go_sem]) rfl ?_
            exact ⟨FIN.out.1, .inr ⟨_, S, E.out, rfl, FIN.out.2⟩⟩
end Go.Proofs.Ytopemjbakpahfaa

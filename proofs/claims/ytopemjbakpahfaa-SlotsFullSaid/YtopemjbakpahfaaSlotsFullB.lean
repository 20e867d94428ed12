/-
  Contracts and plain laws, part 45 (texts: T19). No condition but what each states.
-/
import Derived.Test.YtopemjbakpahfaaSlotsFullA
/-
  SlotsFull: the walk, for all sizes and numbers. No condition.
-/
namespace Go.Proofs.Ytopemjbakpahfaa
open Go.RowKit Disk Jour Crc Slot
set_option linter.unusedSimpArgs false
set_option linter.unusedVariables false
/-- A store, behind so many records of one length. -/
structure FullI (n0 : Nat) (w0 : World) (S B N M gb : Nat) (b : List UInt8) (k : Nat) (d : Dev) (s : St) (wr : World) : Prop where
  bl : Below n0 w0 wr
  run : Runs d s (70 * k)
  n : s.N = N
  l : s.L = 2
  used : s.h.used = k * M
  recs : s.recs.length = k
  le : k * M ≤ 64
  held : Held n0 (fun k => k = gb) wr S B d s
  blk : wr.heap[gb]? = some (.cells (b.map byteV).toArray 5 (0, 0))
theorem FullI.k10 {n0 : Nat} {w0 : World} {S B N M gb : Nat} {b : List UInt8} {k : Nat} {d : Dev} {s : St} {wr : World} (h : FullI n0 w0 S B N M gb b k d s wr) (hM : 6 ≤ M) : k ≤ 10 := by
  have h1 := h.le
  have h2 : k * 6 ≤ k * M := Nat.mul_le_mul_left k hM
  omega
theorem FullI.append {n0 : Nat} {w0 : World} {S B N M gb : Nat} {b : List UInt8} {k : Nat} {d : Dev} {s : St} {wr : World} (h : FullI n0 w0 S B N M gb b k d s wr) (hM : b.length + 6 = M) (hb : b.length ≤ 40) :
    ((k + 1) * M ≤ 64 → Calls Try.prog 71 #[.pointer (some ⟨S, 0, none⟩), .slice (some ⟨gb, 0, none⟩) b.length b.length] wr fun en w' => en = .returned (.int .i64 0) ∧ ∃ d' s', FullI n0 w0 S B N M gb b (k + 1) d' s' w') ∧
    (¬ (k + 1) * M ≤ 64 → Calls Try.prog 71 #[.pointer (some ⟨S, 0, none⟩), .slice (some ⟨gb, 0, none⟩) b.length b.length] wr fun en w' => en = .returned (.int .i64 2) ∧ FullI n0 w0 S B N M gb b k d s w') := by
  have hk := h.k10 (by omega)
  have hmul : (k + 1) * M = k * M + M := Nat.succ_mul k M
  have hu := h.used
  have hl := h.l
  have hlt := (Array.getElem?_eq_some_iff.1 h.blk).1
  obtain ⟨p1, p2, p3⟩ := runs_small h.run (by omega)
  have C := h.held.append (Nat.le_refl _) (fun e => by cases e) (rb_block h.blk) (fun g o e => by cases e; rfl) (by omega) p1 p2 p3
  constructor
  · intro hle
    obtain ⟨e, q, hr⟩ := h.run.append b (by omega) (by rw [hl]; omega)
    rw [q] at C
    refine C.mono ?_
    rintro en w' ⟨rfl, h5, b5, f5⟩
    exact ⟨rfl, e, apS s b, h.bl.trans b5, hr.mono (by omega), h.n, hl, by show s.h.used + (b.length + 6) = _; omega, by show (s.recs ++ [b]).length = _; simp [h.recs], hle, h5, (f5.block gb hlt (fun hh => hh rfl)).trans h.blk⟩
  · intro hle
    rw [h.run.full b (by omega) (by rw [hl]; omega)] at C
    refine C.mono ?_
    rintro en w' ⟨rfl, h5, b5, f5⟩
    exact ⟨rfl, h.bl.trans b5, h.run, h.n, hl, hu, h.recs, h.le, h5, (f5.block gb hlt (fun hh => hh rfl)).trans h.blk⟩
theorem FullI.below {n0 : Nat} {w0 : World} {S B N M gb : Nat} {b : List UInt8} {k : Nat} {d : Dev} {s : St} {wr w' : World} (h : FullI n0 w0 S B N M gb b k d s wr) (hb : Below wr.heap.size wr w') : FullI n0 w0 S B N M gb b k d s w' :=
  ⟨h.bl.trans (hb.mono h.held.sz), h.run, h.n, h.l, h.used, h.recs, h.le, h.held.below hb, (hb.block gb (Array.getElem?_eq_some_iff.1 h.blk).1).trans h.blk⟩
theorem quo_is {k M : Nat} (hM : 0 < M) (h1 : k * M ≤ 64) (h2 : ¬ (k + 1) * M ≤ 64) : 64 / M = k := by
  apply Nat.div_eq_of_lt_le
  · omega
  · omega
theorem FullI.big {n0 : Nat} {w0 : World} {S B N M gb : Nat} {b : List UInt8} {k : Nat} {d : Dev} {s : St} {wr : World} (h : FullI n0 w0 S B N M gb b k d s wr) (hM : 6 ≤ M) (hN : N ≤ 20) :
    Calls Try.prog 70 #[.pointer (some ⟨S, 0, none⟩), .slice (some ⟨wr.heap.size, 0, none⟩) (32 * N + 1) (32 * N + 1)] (wr.alloc (.cells (Array.replicate (32 * N + 1) (byteV 0)) 5)) fun en w' => en = .returned (.int .i64 2) ∧ FullI n0 w0 S B N M gb b k d s w' := by
  have hk := h.k10 hM
  have hlt := (Array.getElem?_eq_some_iff.1 h.blk).1
  obtain ⟨p1, p2, p3⟩ := runs_small h.run (by omega)
  obtain ⟨z, hz⟩ : ∃ z, z = List.replicate (32 * N + 1) (0 : UInt8) := ⟨_, rfl⟩
  have hzl : z.length = 32 * N + 1 := by rw [hz]; simp
  have hx : (wr.alloc (.cells (Array.replicate (32 * N + 1) (byteV 0)) 5)).heap[wr.heap.size]? = some (.cells (z.map byteV).toArray 5 (0, 0)) := by
    have := heap_alloc_new wr (.cells (Array.replicate (32 * N + 1) (byteV 0)) 5)
    rw [this, hz]; simp
  have bA := below_alloc wr (.cells (Array.replicate (32 * N + 1) (byteV 0)) 5)
  have H2 : Held n0 (fun k => k = gb ∨ k = wr.heap.size) (wr.alloc (.cells (Array.replicate (32 * N + 1) (byteV 0)) 5)) S B d s := h.held.ext bA (fun k hk => hk.imp_right (fun e => by subst e; simp))
  have C := H2.save (b := z) (cap := 32 * N + 1) (by omega) (rb_block hx) (.inr rfl) (by omega) p1 p2 p3
  rw [h.run.fullS z (by rw [h.n]; omega), hzl] at C
  refine C.mono ?_
  rintro en w' ⟨rfl, h5, b5, f5⟩
  exact ⟨rfl, (h.bl.trans (bA.mono h.held.sz)).trans b5, h.run, h.n, h.l, h.used, h.recs, h.le, h5.ext (Below.refl _ _) (fun k hk => .inl (.inl hk)), (f5.block gb (by simp; omega) (fun hh => hh (.inl rfl))).trans ((bA.block gb hlt).trans h.blk)⟩
theorem FullI.fits {n0 : Nat} {w0 : World} {S B N M gb : Nat} {b : List UInt8} {k : Nat} {d : Dev} {s : St} {wr : World} (h : FullI n0 w0 S B N M gb b k d s wr) (hM : 6 ≤ M) (j : Nat) (hj : j ≤ b.length) (hjN : j ≤ 32 * N) :
    Calls Try.prog 70 #[.pointer (some ⟨S, 0, none⟩), .slice (some ⟨gb, 0, none⟩) j b.length] wr fun en w' => en = .returned (.int .i64 0) ∧ Below n0 w0 w' ∧ ∃ G s', IsSt G w' S B s' ∧ s'.room = 64 ∧ s'.recs = [] := by
  have hk := h.k10 hM
  obtain ⟨p1, p2, p3⟩ := runs_small h.run (by omega)
  have hjl : (b.take j).length = j := by rw [List.length_take]; omega
  have hN := h.run.good.le
  have C := h.held.save (b := b.take j) (cap := b.length) (by omega) ((rb_block h.blk).take j) rfl (by rw [hjl]; rw [h.n] at hN; omega) p1 p2 p3
  obtain ⟨e, q, hr⟩ := h.run.save (b.take j) (by rw [h.n]; omega)
  rw [q, hjl] at C
  refine C.mono ?_
  rintro en w' ⟨rfl, h5, b5, f5⟩
  obtain ⟨G, hG⟩ := h5.st
  exact ⟨rfl, h.bl.trans b5, G, _, hG, by show 32 * (s.L : Int) - 0 = 64; rw [h.l]; rfl, rfl⟩
set_option maxRecDepth 100000 in
set_option maxHeartbeats 8000000 in
theorem full_law (size n : Int) (W : World) : Calls Try.prog 19 #[.int .i64 size, .int .i64 n] W (Yes W) := by
  by_cases hout : size < 1 ∨ 20 < size ∨ n < 0 ∨ 40 < n
  · go_enter Try.func19, Try.ntmps19
    go_wp2_with fail
    refine (ssmall_any _).mono ?_
    rintro en w1 ⟨rfl, B1⟩
    have BB1 := Lib.hid B1
    clear B1
    go_wp2_with fail
    refine (new_any w1 _).mono ?_
    rintro en w2 ⟨B, rfl, b2, hB, D2⟩
    have B2 := Lib.hid (BB1.out.trans (b2.mono BB1.out.size))
    clear b2 D2 BB1
    by_cases c1 : size < 1
    · clear hout
      go_wp2_with fail
      go_ret
      exact ⟨rfl, B2.out⟩
    by_cases c2 : 20 < size
    · clear hout
      go_wp2_with fail
      go_ret
      exact ⟨rfl, B2.out⟩
    by_cases c3 : n < 0
    · clear hout
      go_wp2_with fail
      go_ret
      exact ⟨rfl, B2.out⟩
    have c4 : 40 < n := by omega
    clear hout
    go_wp2_with fail
    go_ret
    exact ⟨rfl, B2.out⟩
  obtain ⟨N, rfl⟩ : ∃ N : Nat, size = (N : Int) := ⟨size.toNat, by omega⟩
  obtain ⟨m, rfl⟩ : ∃ m : Nat, n = (m : Int) := ⟨n.toNat, by omega⟩
  have c1 : ¬ (N : Int) < 1 := by omega
  have c2 : ¬ 20 < (N : Int) := by omega
  have c3 : ¬ (m : Int) < 0 := by omega
  have c4 : ¬ 40 < (m : Int) := by omega
  have hN1 : 1 ≤ N := by omega
  have R0 := Lib.hid (Runs.new (N := N) (K := 2 * N + 3) hN1 (by omega) (by omega))
  have OP := Lib.hid ((good_new (N := N) (K := 2 * N + 3) hN1 (by omega) (by omega)).opens (size := (N : Int)) rfl)
  have hsz : sizeOfDev (2 * (N : Int) + 3) = 2 * N + 3 := by unfold sizeOfDev; omega
  have SZ := Lib.hid hsz
  clear hout hsz
  go_enter Try.func19, Try.ntmps19
  go_wp2_with fail
  refine (ssmall_any _).mono ?_
  rintro en w1 ⟨rfl, B1⟩
  have s1 := B1.size
  have BB1 := Lib.hid B1
  clear B1
  go_wp2_with fail
  refine (new_any w1 _).mono ?_
  rintro en w2 ⟨B, rfl, b2, hB, D2⟩
  rw [SZ.out] at D2
  have B2 := Lib.hid (BB1.out.trans (b2.mono BB1.out.size))
  have DD := Lib.hid D2
  clear b2 D2 BB1
  go_wp2_with fail
  refine (open_any DD.out (by simp [Dev.new]; omega) (by simp [Dev.new]) (N : Int) (by omega)).mono ?_
  intro en w3 h3
  obtain ⟨b3, S, rfl, hst⟩ := open_is h3 OP.out
  have H3 : Hid (Held W.heap.size (fun _ => False) w3 S B (Dev.new (2 * N + 3)) (st0 N (2 * N + 3))) := Held.start DD.out (fun k hk => by have := hk.1; omega) B2.out.size b3 hst (fun _ h => h.elim)
  have B3 := Lib.hid (B2.out.trans (b3.mono B2.out.size))
  clear h3 b3 hst DD B2 OP
  have hmk := run_make_bytes w3 m (by omega)
  go_wp2_with fail
  have I0 : Hid (FullI W.heap.size W S B N (m + 6) w3.heap.size (List.replicate m 0) 0 (Dev.new (2 * N + 3)) (st0 N (2 * N + 3)) (w3.alloc (.cells ((List.replicate m (0 : UInt8)).map byteV).toArray 5))) :=
    ⟨B3.out.alloc B3.out.size _, R0.out, rfl, by show 2 * N + 3 - 1 - 2 * N = 2; omega, by simp [st0, hd0], rfl, by omega, H3.out.made (below_alloc w3 _) (Nat.le_refl _) (heap_alloc_new w3 _), heap_alloc_new w3 _⟩
  obtain ⟨gb, hgb⟩ : ∃ gb, w3.heap.size = gb := ⟨_, rfl⟩
  obtain ⟨b, hb⟩ : ∃ b, List.replicate m (0 : UInt8) = b := ⟨_, rfl⟩
  have hbl : b.length = m := by rw [← hb]; simp
  have HZ := Lib.hid hb
  obtain ⟨w4, hw4⟩ : ∃ w4, w3.alloc (.cells ((List.replicate m (0 : UInt8)).map byteV).toArray 5) = w4 := ⟨_, rfl⟩
  rw [hw4, hgb, hb] at I0
  simp only [List.map_replicate, List.toArray_replicate] at hw4
  rw [hw4, hgb]
  subst hbl
  have hb40 : b.length ≤ 40 := by omega
  clear hw4 hgb hb hmk H3 B3 R0 SZ s1
  obtain ⟨M, hM⟩ : ∃ M, b.length + 6 = M := ⟨_, rfl⟩
  rw [hM] at I0
  have HM : Hid (b.length + 6 = M) := hM
  have hMi : (b.length : Int) + 6 = (M : Int) := by omega
  have hM6 : 6 ≤ M := by omega
  have HMI := Lib.hid hMi
  clear hM hMi
  go_loopw [10, 11] (fun cv iv wr => ∃ (k : Nat) (d : Dev) (s : St), cv = .int .i64 (k : Int) ∧ iv = .int .i64 (k : Int) ∧ FullI W.heap.size W S B N M gb b k d s wr) (fun _ iv _ => 80 - (intOf iv).toNat)
  case atStart => exact ⟨0, _, _, rfl, rfl, I0.out⟩
  case round =>
    obtain ⟨k, d, s, rfl, rfl, hI⟩ := hrel
    clear I0
    have hk10 := hI.k10 hM6
    have hk80 : (k : Int) < 80 := by omega
    obtain ⟨ap1, ap2⟩ := hI.append HM.out hb40
    by_cases hle : (k + 1) * M ≤ 64
    · have CL := Lib.hid (ap1 hle)
      clear hI ap1 ap2 hle
      go_wp2_with fail
      refine CL.out.mono ?_
      rintro en w5 ⟨rfl, d', s', h5⟩
      have H5 := Lib.hid h5
      clear h5 CL
      go_wp2_with fail
      go_roundw
      case rel => exact ⟨k + 1, d', s', rfl, rfl, H5.out⟩
      case measure => simp only [intOf]; omega
    have CL := Lib.hid (ap2 hle)
    have HQ := Lib.hid (quo_is (by omega : 0 < M) hI.le hle)
    have HLE : Hid (¬ (k + 1) * M ≤ 64) := hle
    clear hI ap1 ap2 hle
    go_wp2_with fail
    refine CL.out.mono ?_
    rintro en w5 ⟨rfl, h5⟩
    have H5 := Lib.hid h5
    obtain ⟨F, hD⟩ := h5.held.dev
    have D5 := Lib.hid hD
    clear h5 CL hD
    go_wp2_with fail
    refine (stats_any D5.out).mono ?_
    rintro en w6 ⟨rfl, b6⟩
    have H6 := Lib.hid (H5.out.below b6)
    have CL := Lib.hid ((H6.out.append HM.out hb40).2 HLE.out)
    clear b6 H5 D5
    go_wp2_with fail
    refine CL.out.mono ?_
    rintro en w7 ⟨rfl, h7⟩
    have H7 := Lib.hid h7
    obtain ⟨F, hD⟩ := h7.held.dev
    have D7 := Lib.hid hD
    clear h7 CL hD H6
    go_wp2_with fail
    refine (stats_any D7.out).mono ?_
    rintro en w8 ⟨rfl, b8⟩
    have H8 := Lib.hid (H7.out.below b8)
    obtain ⟨G, hT⟩ := (H7.out.below b8).held.st
    have T8 := Lib.hid hT
    clear b8 H7 D7 hT
    go_wp2_with fail
    refine (records_any T8.out).mono ?_
    rintro en w9 ⟨b9, v9, rfl, r9⟩
    obtain ⟨c9, k9, rfl, _, _, _⟩ := RR.of_rows r9
    rw [H8.out.recs]
    have H9 := Lib.hid (H8.out.below b9)
    have T9 := Lib.hid (T8.out.below b9)
    clear b9 r9 H8 T8
    have hqi : 64 / ((b.length : Int) + 6) = (k : Int) := by
      rw [HMI.out]
      show ((64 / M : Nat) : Int) = (k : Int)
      rw [HQ.out]
    have hkm : (k : Int) * ((b.length : Int) + 6) = ((k * M : Nat) : Int) := by rw [HMI.out]; simp
    have hkl : (k : Int) * ((b.length : Int) + 6) ≤ 64 := by have := H9.out.le; omega
    have hk0 : 0 ≤ (k : Int) * ((b.length : Int) + 6) := by omega
    have hroom : s.room = 64 - (k : Int) * ((b.length : Int) + 6) := by unfold St.room; rw [H9.out.l, H9.out.used]; omega
    have HROOM := Lib.hid hroom
    clear hkm hroom
    go_wp2_with fail
    refine (sroom_any T9.out).mono ?_
    rintro en w10 ⟨rfl, b10⟩
    rw [HROOM.out]
    have H10 := Lib.hid (H9.out.below b10)
    clear b10 H9 T9 HROOM
    have hmk := run_make_bytes w10 (32 * N + 1) (by omega)
    rw [show ((32 * N + 1 : Nat) : Int) = 32 * (N : Int) + 1 by omega] at hmk
    go_wp2_with fail
    refine (H10.out.big hM6 (by omega)).mono ?_
    rintro en w11 ⟨rfl, h11⟩
    have H11 := Lib.hid h11
    clear h11 H10 hmk
    obtain ⟨j, hj1, hj2, hj3⟩ : ∃ j : Nat, j ≤ b.length ∧ j ≤ 32 * N ∧ (if (b.length : Int) ≤ 32 * (N : Int) then j = b.length else j = 32 * N) := by
      by_cases h : (b.length : Int) ≤ 32 * (N : Int)
      · exact ⟨b.length, Nat.le_refl _, by omega, by rw [if_pos h]⟩
      · exact ⟨32 * N, by omega, Nat.le_refl _, by rw [if_neg h]⟩
    have CL := Lib.hid (H11.out.fits hM6 j hj1 hj2)
    by_cases hmn : (b.length : Int) ≤ 32 * (N : Int)
    · rw [if_pos hmn] at hj3
      subst hj3
      go_wp2_with fail
      refine CL.out.mono ?_
      rintro en w12 ⟨rfl, b12, G2, s2, t12, hr2, hs2⟩
      have T12 := Lib.hid t12
      have B12 := Lib.hid b12
      have HR2 := Lib.hid hr2
      have HS2 := Lib.hid hs2
      clear t12 b12 hr2 hs2 CL H11
      go_wp2_with fail
      refine (sroom_any T12.out).mono ?_
      rintro en w13 ⟨rfl, b13⟩
      rw [HR2.out]
      have T13 := Lib.hid (T12.out.below b13)
      have B13 := Lib.hid (B12.out.trans (b13.mono B12.out.size))
      clear b13 T12 B12
      go_wp2_with fail
      refine (records_any T13.out).mono ?_
      rintro en w14 ⟨b14, v14, rfl, r14⟩
      rw [HS2.out] at r14
      obtain ⟨c14, k14, rfl, _, _, _⟩ := RR.of_rows r14
      have B14 := Lib.hid (B13.out.trans (b14.mono B13.out.size))
      clear b14 r14 T13 B13
      go_wp2
      go_ret
      exact ⟨rfl, B14.out⟩
    · rw [if_neg hmn] at hj3
      subst hj3
      go_wp2_with fail
      refine CL.out.mono ?_
      rintro en w12 ⟨rfl, b12, G2, s2, t12, hr2, hs2⟩
      have T12 := Lib.hid t12
      have B12 := Lib.hid b12
      have HR2 := Lib.hid hr2
      have HS2 := Lib.hid hs2
      clear t12 b12 hr2 hs2 CL H11
      go_wp2_with fail
      refine (sroom_any T12.out).mono ?_
      rintro en w13 ⟨rfl, b13⟩
      rw [HR2.out]
      have T13 := Lib.hid (T12.out.below b13)
      have B13 := Lib.hid (B12.out.trans (b13.mono B12.out.size))
      clear b13 T12 B12
      go_wp2_with fail
      refine (records_any T13.out).mono ?_
      rintro en w14 ⟨b14, v14, rfl, r14⟩
      rw [HS2.out] at r14
      obtain ⟨c14, k14, rfl, _, _, _⟩ := RR.of_rows r14
      have B14 := Lib.hid (B13.out.trans (b14.mono B13.out.size))
      clear b14 r14 T13 B13
      go_wp2
      go_ret
      exact ⟨rfl, B14.out⟩
end Go.Proofs.Ytopemjbakpahfaa

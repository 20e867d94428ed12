/-
  Contracts and plain laws, part 38 (texts: S14). No condition but what each states.
-/
import Derived.Test.YtopemjbakpahfaaSn37
/-
  Opening a store: the walk. No condition but that the numbers are small.
-/
namespace Go.Proofs.Ytopemjbakpahfaa
open Go.RowKit Disk Jour Crc Slot
set_option linter.unusedSimpArgs false
set_option linter.unusedVariables false
theorem rows_form {w : World} {base : Nat} {v : Value} {L : List (List UInt8)} (h : RowsOf w base v L) : ∃ a c, v = .slice a L.length c := by
  obtain ⟨vs, h1, h2, _⟩ := h
  rw [h2] at h1
  exact row_form h1
set_option maxRecDepth 100000 in
set_option maxHeartbeats 8000000 in
theorem open_any {F : Nat → Prop} {w : World} {B : Nat} {d : Dev} (hd : IsDev F w B d) (hK : d.kept.length ≤ 1024) (hp : d.pend.length ≤ 100000) (size : Int) (hs1 : -1000000 ≤ size) :
    Calls Try.prog 68 #[.pointer (some ⟨B, 0, none⟩), .int .i64 size] w (OpenOf w B (sopen d size)) := by
  by_cases hargs : size < 1 ∨ 1024 < size ∨ (d.kept.length : Int) < 2 * size + 2
  · rw [sopen_arg hargs]
    have SC := Lib.hid (sectors_any hd)
    have FN : Hid (OpenOf w B (none, 1) (.returned (.tuple #[.pointer none, .int .i64 1])) w) := OpenOf.none 1 rfl (Below.refl _ _) rfl
    by_cases c1 : size < 1
    · clear hargs
      go_enter Try.func68, Try.ntmps68
      go_wp2_with fail
      refine bodyPost_ret (v := .tuple #[.pointer none, .int .i64 1]) (by simp [results, Try.results68, go_sem]) rfl ?_
      exact FN.out
    · by_cases c2 : 1024 < size
      · clear hargs
        go_enter Try.func68, Try.ntmps68
        go_wp2_with fail
        refine bodyPost_ret (v := .tuple #[.pointer none, .int .i64 1]) (by simp [results, Try.results68, go_sem]) rfl ?_
        exact FN.out
      · have c3 : (d.kept.length : Int) < 2 * size + 2 := by omega
        clear hargs
        go_enter Try.func68, Try.ntmps68
        go_wp2_with fail
        refine SC.out.mono ?_
        rintro en w1 ⟨rfl, rfl⟩
        go_wp2_with fail
        refine bodyPost_ret (v := .tuple #[.pointer none, .int .i64 1]) (by simp [results, Try.results68, go_sem]) rfl ?_
        exact FN.out
  obtain ⟨N, rfl⟩ : ∃ N : Nat, size = (N : Int) := ⟨size.toNat, by omega⟩
  have hN1 : 1 ≤ N := by omega
  have hN2 : 2 * N + 2 ≤ d.kept.length := by omega
  rw [sopen_n hN1 (by omega) hN2]
  have c1 : ¬ (N : Int) < 1 := by omega
  have c2 : ¬ 1024 < (N : Int) := by omega
  have c3 : ¬ (d.kept.length : Int) < 2 * (N : Int) + 2 := by omega
  have SC := Lib.hid (sectors_any hd)
  have OL := of_any hd hK (1 + 2 * (N : Int)) 1024 (by omega)
  rw [asize_log hN2 hK, show (1 + 2 * (N : Int)).toNat = 1 + 2 * N by omega] at OL
  have OF := Lib.hid OL
  have OS : Hid (∀ k : Nat, k < 2 → ∀ w1, Below w.heap.size w w1 → Calls Try.prog 52 #[.pointer (some ⟨B, 0, none⟩), .int .i64 (1 + (k : Int) * (N : Int)), .int .i64 (N : Int)] w1 (OfOf w1 B (1 + k * N) N)) := fun k hk w1 hb => by
    have h0 : (k : Int) * (N : Int) ≤ 1024 := by rcases (by omega : k = 0 ∨ k = 1) with rfl | rfl <;> omega
    have h1 := of_any (hd.below hb) hK (1 + (k : Int) * (N : Int)) (N : Int) (by omega)
    rw [asize_slot hN2 hk, show (1 + (k : Int) * (N : Int)).toNat = 1 + k * N by rcases (by omega : k = 0 ∨ k = 1) with rfl | rfl <;> omega] at h1
    exact h1
  clear OL hargs
  have HD := Lib.hid hd
  clear hd
  go_enter Try.func68, Try.ntmps68
  go_wp2_with fail
  refine SC.out.mono ?_
  rintro en w1 ⟨rfl, rfl⟩
  go_wp2_with fail
  refine OF.out.mono ?_
  rintro en w1 ⟨AL, rfl, b1, lAL, IL⟩
  have B1 := Lib.hid b1
  have IL0 := Lib.hid IL
  clear IL b1
  go_wp2_with fail
  have HW1 : Hid (w1.heap.size = w1.heap.size) := rfl
  obtain ⟨w2, hw2⟩ : ∃ w2, w1.alloc (.cells (scells B AL none none) 134) = w2 := ⟨_, rfl⟩
  have b2 : Below w1.heap.size w1 w2 := by rw [← hw2]; exact below_alloc w1 _
  have hx2 : w2.heap[w1.heap.size]? = some (.cells (scells B AL none none) 134 (0, 0)) := by rw [← hw2]; exact heap_alloc_new w1 _
  have B2 := Lib.hid (B1.out.trans (b2.mono B1.out.size))
  have IL2 := Lib.hid (IL0.out.below b2)
  have lAL2 : AL < w1.heap.size := IL0.out.lt
  have lS : w.heap.size ≤ w1.heap.size := B1.out.size
  have lS2 : w1.heap.size < w2.heap.size := (Array.getElem?_eq_some_iff.1 hx2).1
  have I0 : Hid (SlotsI w w2 w1.heap.size B AL N 0 w2) := ⟨Frm.refl _ _, none, none, hx2, fun h => by omega, fun h => by omega⟩
  change Code.wp _ _ _ _ (w1.alloc (.cells (scells B AL none none) 134))
  rw [hw2]
  generalize w1.heap.size = S at *
  clear hw2 b2 hx2 IL0 OF SC
  have O0 : Hid (∀ wr, SlotsI w w2 S B AL N 0 wr → Calls Try.prog 52 #[.pointer (some ⟨B, 0, none⟩), .int .i64 1, .int .i64 (N : Int)] wr (fun en w3 => ∃ A, en = .returned (.pointer (some ⟨A, 0, none⟩)) ∧ SlotsI w w2 S B AL N 0 w3 ∧ SlotsI w w2 S B AL N 1 (w3.setCell ⟨S, 1, none⟩ (.pointer (some ⟨A, 0, none⟩))))) := fun wr hI => by
    have hb : Below w.heap.size w wr := B2.out.trans (hI.frm.below (fun k hk => by omega) (by omega))
    have := OS.out 0 (by omega) wr hb
    rw [show (1 : Int) + ((0 : Nat) : Int) * (N : Int) = 1 by omega] at this
    refine this.mono ?_
    rintro en w3 ⟨A, rfl, b3, lA, hA⟩
    exact ⟨A, rfl, hI.sub b3, hI.step (by omega) (by omega) b3 hA lA⟩
  have O1 : Hid (∀ wr, SlotsI w w2 S B AL N 1 wr → Calls Try.prog 52 #[.pointer (some ⟨B, 0, none⟩), .int .i64 (1 + (N : Int)), .int .i64 (N : Int)] wr (fun en w3 => ∃ A, en = .returned (.pointer (some ⟨A, 0, none⟩)) ∧ SlotsI w w2 S B AL N 1 w3 ∧ SlotsI w w2 S B AL N 2 (w3.setCell ⟨S, 2, none⟩ (.pointer (some ⟨A, 0, none⟩))))) := fun wr hI => by
    have hb : Below w.heap.size w wr := B2.out.trans (hI.frm.below (fun k hk => by omega) (by omega))
    have := OS.out 1 (by omega) wr hb
    rw [show (1 : Int) + ((1 : Nat) : Int) * (N : Int) = 1 + (N : Int) by omega] at this
    refine this.mono ?_
    rintro en w3 ⟨A, rfl, b3, lA, hA⟩
    exact ⟨A, rfl, hI.sub b3, hI.step (by omega) (by omega) b3 hA lA⟩
  clear OS
  go_loopw [38] (fun iv wr => ∃ k : Nat, iv = .int .i64 (k : Int) ∧ k ≤ 2 ∧ SlotsI w w2 S B AL N k wr) (fun iv _ => 2 - (intOf iv).toNat)
  case atStart => exact ⟨0, rfl, by omega, I0.out⟩
  case round =>
    obtain ⟨k, rfl, hk, hI⟩ := hrel
    rcases (by omega : k = 0 ∨ k = 1 ∨ k = 2) with rfl | rfl | rfl
    · skip
      have II := Lib.hid hI
      obtain ⟨x0, x1, hb, _, _⟩ := hI.ex
      have OC := Lib.hid (O0.out wr.drew (hI.sub (Below.refl _ wr).drew))
      clear hI
      go_wp2_with fail
      refine wp_region_any (by kernel_rfl) ?_
      change wpAny _ _ _ _ _ _ _ (World.drew _)
      refine wpAny_take (i := 0) (v := .pointer (some ⟨S, 0, none⟩)) rfl (by kernel_rfl) (by kernel_rfl) (by kernel_rfl) (fun _ _ _ h => h) (Or.inl ⟨by rfl, by intro w; go_simp⟩) ?_
      try simp only [Act.put, List.getElem_toArray, List.getElem_cons_zero, List.getElem_cons_succ, List.setIfInBounds_toArray, List.set_cons_zero, List.set_cons_succ]
      refine wpAny_take (i := 1) (v := .int .i64 0) rfl (by kernel_rfl) (by kernel_rfl) (by kernel_rfl) (fun _ _ _ h => h) (Or.inl ⟨by rfl, by intro w; go_simp⟩) ?_
      try simp only [Act.put, List.getElem_toArray, List.getElem_cons_zero, List.getElem_cons_succ, List.setIfInBounds_toArray, List.set_cons_zero, List.set_cons_succ]
      refine wpAny_take (i := 2) (v := .pointer (some ⟨B, 0, none⟩)) rfl (by kernel_rfl) (by kernel_rfl) (by kernel_rfl) (fun _ _ _ h => h) (Or.inl ⟨by rfl, by intro w; go_simp⟩) ?_
      try simp only [Act.put, List.getElem_toArray, List.getElem_cons_zero, List.getElem_cons_succ, List.setIfInBounds_toArray, List.set_cons_zero, List.set_cons_succ]
      refine wpAny_take (i := 3) (v := .int .i64 0) rfl (by kernel_rfl) (by kernel_rfl) (by kernel_rfl) (fun _ _ _ h => h) (Or.inl ⟨by rfl, by intro w; go_simp⟩) ?_
      try simp only [Act.put, List.getElem_toArray, List.getElem_cons_zero, List.getElem_cons_succ, List.setIfInBounds_toArray, List.set_cons_zero, List.set_cons_succ]
      refine wpAny_take (i := 4) (v := .int .i64 (N : Int)) rfl (by kernel_rfl) (by kernel_rfl) (by kernel_rfl) (fun _ _ _ h => h) (Or.inl ⟨by rfl, by intro w; go_simp⟩) ?_
      try simp only [Act.put, List.getElem_toArray, List.getElem_cons_zero, List.getElem_cons_succ, List.setIfInBounds_toArray, List.set_cons_zero, List.set_cons_succ]
      refine wpAny_take (i := 5) (v := .int .i64 0) rfl (by kernel_rfl) (by kernel_rfl) (by kernel_rfl) (fun _ _ _ h => h) (Or.inl ⟨by rfl, by intro w; go_simp; first | done | decide | (rw [IntKind.wrap_i64]; omega)⟩) ?_
      try simp only [Act.put, List.getElem_toArray, List.getElem_cons_zero, List.getElem_cons_succ, List.setIfInBounds_toArray, List.set_cons_zero, List.set_cons_succ]
      refine wpAny_take (i := 6) (v := .int .i64 1) rfl (by kernel_rfl) (by kernel_rfl) (by kernel_rfl) (fun _ _ _ h => h) (Or.inl ⟨by rfl, by intro w; go_simp; first | done | decide | (rw [IntKind.wrap_i64]; omega)⟩) ?_
      try simp only [Act.put, List.getElem_toArray, List.getElem_cons_zero, List.getElem_cons_succ, List.setIfInBounds_toArray, List.set_cons_zero, List.set_cons_succ]
      refine wpAny_take (i := 7) (v := .int .i64 (N : Int)) rfl (by kernel_rfl) (by kernel_rfl) (by kernel_rfl) (fun _ _ _ h => h) (Or.inl ⟨by rfl, by intro w; go_simp⟩) ?_
      try simp only [Act.put, List.getElem_toArray, List.getElem_cons_zero, List.getElem_cons_succ, List.setIfInBounds_toArray, List.set_cons_zero, List.set_cons_succ]
      refine wpAny_take (i := 9) (v := .pointer (some ⟨S, 0, none⟩)) rfl (by kernel_rfl) (by kernel_rfl) (by kernel_rfl) (fun _ _ _ h => h) (Or.inl ⟨by rfl, by intro w; go_simp⟩) ?_
      try simp only [Act.put, List.getElem_toArray, List.getElem_cons_zero, List.getElem_cons_succ, List.setIfInBounds_toArray, List.set_cons_zero, List.set_cons_succ]
      refine wpAny_take (i := 10) (v := .pointer (some ⟨S, 1, none⟩)) rfl (by kernel_rfl) (by kernel_rfl) (by kernel_rfl) (fun _ _ _ h => h) (Or.inl ⟨by rfl, by intro w; go_simp⟩) ?_
      try simp only [Act.put, List.getElem_toArray, List.getElem_cons_zero, List.getElem_cons_succ, List.setIfInBounds_toArray, List.set_cons_zero, List.set_cons_succ]
      refine wpAny_ready (rs := [8]) (by kernel_rfl) (by simp) ?_
      refine AllReady.cons rfl (fun Kc hK => ?_) AllReady.nil
      rw [if_pos (by rfl)]
      go_simp
      refine (OC.out).mono ?_
      rintro en w3 ⟨A, rfl, i3, i4⟩
      go_simp
      refine hK _ _ ?_
      clear hK Kc
      try simp only [Act.put, List.getElem_toArray, List.getElem_cons_zero, List.getElem_cons_succ, List.setIfInBounds_toArray, List.set_cons_zero, List.set_cons_succ]
      refine wpAny_take (i := 11) (v := .pointer (some ⟨S, 1, none⟩)) rfl (by kernel_rfl) (by kernel_rfl) (by kernel_rfl) (fun _ _ _ h => h) (Or.inl ⟨by rfl, by intro w; go_simp⟩) ?_
      try simp only [Act.put, List.getElem_toArray, List.getElem_cons_zero, List.getElem_cons_succ, List.setIfInBounds_toArray, List.set_cons_zero, List.set_cons_succ]
      refine wpAny_ready (rs := [12]) (by kernel_rfl) (by simp) ?_
      refine AllReady.cons rfl (fun Kc hK => ?_) AllReady.nil
      rw [if_pos (by rfl)]
      obtain ⟨y0, y1, hb3, _, _⟩ := i3.ex
      have k1 : w3.cell? ⟨S, 1, none⟩ = some (.pointer y0) := Joins.cell_of_block hb3 1
      have kf1 : w3.frozen? ⟨S, 1, none⟩ = false := Joins.unfrozen_of_block hb3 1
      have I4 := Lib.hid i4
      clear i3 i4 hb3
      go_simp
      refine hK _ _ ?_
      clear hK Kc
      try simp only [Act.put, List.getElem_toArray, List.getElem_cons_zero, List.getElem_cons_succ, List.setIfInBounds_toArray, List.set_cons_zero, List.set_cons_succ]
      refine wpAny_done (by kernel_rfl) ?_ _
      go_wp2_with fail
      go_roundw
      case rel => exact ⟨1, rfl, by omega, I4.out⟩
      case measure => simp [intOf]
    · skip
      have II := Lib.hid hI
      obtain ⟨x0, x1, hb, _, _⟩ := hI.ex
      have OC := Lib.hid (O1.out wr.drew (hI.sub (Below.refl _ wr).drew))
      clear hI
      go_wp2_with fail
      refine wp_region_any (by kernel_rfl) ?_
      change wpAny _ _ _ _ _ _ _ (World.drew _)
      refine wpAny_take (i := 0) (v := .pointer (some ⟨S, 0, none⟩)) rfl (by kernel_rfl) (by kernel_rfl) (by kernel_rfl) (fun _ _ _ h => h) (Or.inl ⟨by rfl, by intro w; go_simp⟩) ?_
      try simp only [Act.put, List.getElem_toArray, List.getElem_cons_zero, List.getElem_cons_succ, List.setIfInBounds_toArray, List.set_cons_zero, List.set_cons_succ]
      refine wpAny_take (i := 1) (v := .int .i64 1) rfl (by kernel_rfl) (by kernel_rfl) (by kernel_rfl) (fun _ _ _ h => h) (Or.inl ⟨by rfl, by intro w; go_simp⟩) ?_
      try simp only [Act.put, List.getElem_toArray, List.getElem_cons_zero, List.getElem_cons_succ, List.setIfInBounds_toArray, List.set_cons_zero, List.set_cons_succ]
      refine wpAny_take (i := 2) (v := .pointer (some ⟨B, 0, none⟩)) rfl (by kernel_rfl) (by kernel_rfl) (by kernel_rfl) (fun _ _ _ h => h) (Or.inl ⟨by rfl, by intro w; go_simp⟩) ?_
      try simp only [Act.put, List.getElem_toArray, List.getElem_cons_zero, List.getElem_cons_succ, List.setIfInBounds_toArray, List.set_cons_zero, List.set_cons_succ]
      refine wpAny_take (i := 3) (v := .int .i64 1) rfl (by kernel_rfl) (by kernel_rfl) (by kernel_rfl) (fun _ _ _ h => h) (Or.inl ⟨by rfl, by intro w; go_simp⟩) ?_
      try simp only [Act.put, List.getElem_toArray, List.getElem_cons_zero, List.getElem_cons_succ, List.setIfInBounds_toArray, List.set_cons_zero, List.set_cons_succ]
      refine wpAny_take (i := 4) (v := .int .i64 (N : Int)) rfl (by kernel_rfl) (by kernel_rfl) (by kernel_rfl) (fun _ _ _ h => h) (Or.inl ⟨by rfl, by intro w; go_simp⟩) ?_
      try simp only [Act.put, List.getElem_toArray, List.getElem_cons_zero, List.getElem_cons_succ, List.setIfInBounds_toArray, List.set_cons_zero, List.set_cons_succ]
      refine wpAny_take (i := 5) (v := .int .i64 (N : Int)) rfl (by kernel_rfl) (by kernel_rfl) (by kernel_rfl) (fun _ _ _ h => h) (Or.inl ⟨by rfl, by intro w; go_simp; first | done | decide | (rw [IntKind.wrap_i64]; omega)⟩) ?_
      try simp only [Act.put, List.getElem_toArray, List.getElem_cons_zero, List.getElem_cons_succ, List.setIfInBounds_toArray, List.set_cons_zero, List.set_cons_succ]
      refine wpAny_take (i := 6) (v := .int .i64 (1 + (N : Int))) rfl (by kernel_rfl) (by kernel_rfl) (by kernel_rfl) (fun _ _ _ h => h) (Or.inl ⟨by rfl, by intro w; go_simp; first | done | decide | (rw [IntKind.wrap_i64]; omega)⟩) ?_
      try simp only [Act.put, List.getElem_toArray, List.getElem_cons_zero, List.getElem_cons_succ, List.setIfInBounds_toArray, List.set_cons_zero, List.set_cons_succ]
      refine wpAny_take (i := 7) (v := .int .i64 (N : Int)) rfl (by kernel_rfl) (by kernel_rfl) (by kernel_rfl) (fun _ _ _ h => h) (Or.inl ⟨by rfl, by intro w; go_simp⟩) ?_
      try simp only [Act.put, List.getElem_toArray, List.getElem_cons_zero, List.getElem_cons_succ, List.setIfInBounds_toArray, List.set_cons_zero, List.set_cons_succ]
      refine wpAny_take (i := 9) (v := .pointer (some ⟨S, 0, none⟩)) rfl (by kernel_rfl) (by kernel_rfl) (by kernel_rfl) (fun _ _ _ h => h) (Or.inl ⟨by rfl, by intro w; go_simp⟩) ?_
      try simp only [Act.put, List.getElem_toArray, List.getElem_cons_zero, List.getElem_cons_succ, List.setIfInBounds_toArray, List.set_cons_zero, List.set_cons_succ]
      refine wpAny_take (i := 10) (v := .pointer (some ⟨S, 1, none⟩)) rfl (by kernel_rfl) (by kernel_rfl) (by kernel_rfl) (fun _ _ _ h => h) (Or.inl ⟨by rfl, by intro w; go_simp⟩) ?_
      try simp only [Act.put, List.getElem_toArray, List.getElem_cons_zero, List.getElem_cons_succ, List.setIfInBounds_toArray, List.set_cons_zero, List.set_cons_succ]
      refine wpAny_ready (rs := [8]) (by kernel_rfl) (by simp) ?_
      refine AllReady.cons rfl (fun Kc hK => ?_) AllReady.nil
      rw [if_pos (by rfl)]
      go_simp
      refine (OC.out).mono ?_
      rintro en w3 ⟨A, rfl, i3, i4⟩
      go_simp
      refine hK _ _ ?_
      clear hK Kc
      try simp only [Act.put, List.getElem_toArray, List.getElem_cons_zero, List.getElem_cons_succ, List.setIfInBounds_toArray, List.set_cons_zero, List.set_cons_succ]
      refine wpAny_take (i := 11) (v := .pointer (some ⟨S, 2, none⟩)) rfl (by kernel_rfl) (by kernel_rfl) (by kernel_rfl) (fun _ _ _ h => h) (Or.inl ⟨by rfl, by intro w; go_simp⟩) ?_
      try simp only [Act.put, List.getElem_toArray, List.getElem_cons_zero, List.getElem_cons_succ, List.setIfInBounds_toArray, List.set_cons_zero, List.set_cons_succ]
      refine wpAny_ready (rs := [12]) (by kernel_rfl) (by simp) ?_
      refine AllReady.cons rfl (fun Kc hK => ?_) AllReady.nil
      rw [if_pos (by rfl)]
      obtain ⟨y0, y1, hb3, _, _⟩ := i3.ex
      have k1 : w3.cell? ⟨S, 2, none⟩ = some (.pointer y1) := Joins.cell_of_block hb3 2
      have kf1 : w3.frozen? ⟨S, 2, none⟩ = false := Joins.unfrozen_of_block hb3 2
      have I4 := Lib.hid i4
      clear i3 i4 hb3
      go_simp
      refine hK _ _ ?_
      clear hK Kc
      try simp only [Act.put, List.getElem_toArray, List.getElem_cons_zero, List.getElem_cons_succ, List.setIfInBounds_toArray, List.set_cons_zero, List.set_cons_succ]
      refine wpAny_done (by kernel_rfl) ?_ _
      go_wp2_with fail
      go_roundw
      case rel => exact ⟨2, rfl, by omega, I4.out⟩
      case measure => simp [intOf]
    · obtain ⟨hf, x0, x1, hx, hx0, hx1⟩ := hI
      obtain ⟨A0, rfl, i0, l0⟩ := hx0 (by omega)
      obtain ⟨A1, rfl, i1, l1⟩ := hx1 (by omega)
      have il := IL2.out.frm hf (show ¬ AL = S by omega)
      have bw : Below w.heap.size w wr := B2.out.trans (hf.below (fun k hk => by omega) (by omega))
      have RD := Lib.hid (read_any (HD.out.below bw) 0 hp)
      have GT : Hid (∀ W, Below w.heap.size w W → ∀ (A first : Nat) (n : Nat), IsArea W A B first N → first ≤ 1024 → Calls Try.prog 55 #[.pointer (some ⟨A, 0, none⟩), .int .i64 0, .int .i64 (n : Int)] W (GetOf W (jget d first N 0 n))) := fun W hb A first n hA hf => get_any (HD.out.below hb) hA 0 n hp (.inr hf)
      have FR : Hid (∀ W, Below w.heap.size w W → ∀ (A first L : Nat) (n : Nat), IsArea W A B first L → first ≤ 1024 → Calls Try.prog 64 #[.pointer (some ⟨A, 0, none⟩), .int .i64 (n : Int)] W (FramesOf W (jframes d first L n))) := fun W hb A first L n hA hf => frames_any55 (HD.out.below hb) hA n hp (.inr hf)
      have HF := Lib.hid hf
      have HX := Lib.hid hx
      have HI0 := Lib.hid i0
      have HI1 := Lib.hid i1
      have HIL := Lib.hid il
      have BW := Lib.hid bw
      have SO : Hid (sopenN d N = if (d.read 0).2 ≠ 0 then (none, (d.read 0).2) else match hread (d.read 0).1 with
        | none => (none, 4)
        | some h => sload d N (d.kept.length - 1 - 2 * N) h) := rfl
      generalize sopenN d N = ro at *
      generalize d.read 0 = rd at *
      obtain ⟨rb, re⟩ := rd
      clear hf hx i0 i1 il bw hx0 hx1 O0 O1 I0 IL2
      go_wp2_with fail
      refine RD.out.mono ?_
      rintro en w4 ⟨b4, v4, rfl, s4⟩
      obtain ⟨a4, cap4, rfl, lc4, l32, rb4⟩ := s4.rb
      dsimp only at SO lc4 l32 rb4 ⊢
      by_cases hre : re = 0
      rotate_left
      · have E : Hid (ro = (none, re)) := by have := SO.out; rw [if_pos hre] at this; exact this
        have hb' : ((re : Int) != 0) = true := by rw [bne_iff_ne]; exact hre
        have BB := Lib.hid (BW.out.trans (b4.mono BW.out.size))
        clear SO hre b4 s4 rb4
        go_wp2_with fail
        refine bodyPost_ret (v := .tuple #[.pointer none, .int .i64 re]) (by simp [results, Try.results68, go_sem]) rfl ?_
        exact OpenOf.none re E.out BB.out rfl
      subst hre
      have SO2 : Hid (ro = match hread rb with
        | none => (none, 4)
        | some h => sload d N (d.kept.length - 1 - 2 * N) h) := by have := SO.out; rw [if_neg (by decide)] at this; exact this
      have HR := Lib.hid (hread_any rb a4 cap4 w4 (by omega) lc4 rb4)
      have B4 := Lib.hid (BW.out.trans (b4.mono BW.out.size))
      have HX4 := Lib.hid ((b4.block S (Array.getElem?_eq_some_iff.1 HX.out).1).trans HX.out)
      have i04 := Lib.hid (HI0.out.below b4)
      have i14 := Lib.hid (HI1.out.below b4)
      have il4 := Lib.hid (HIL.out.below b4)
      clear SO b4 s4 rb4 HX HI0 HI1 HIL HF RD
      go_wp2_with fail
      refine HR.out.mono ?_
      rintro en w5 ⟨b5, rfl⟩
      have B5 := Lib.hid (B4.out.trans (b5.mono B4.out.size))
      have HX5 := Lib.hid ((b5.block S (Array.getElem?_eq_some_iff.1 HX4.out).1).trans HX4.out)
      have i05 := Lib.hid (i04.out.below b5)
      have i15 := Lib.hid (i14.out.below b5)
      have il5 := Lib.hid (il4.out.below b5)
      have hS5 : S < w5.heap.size := (Array.getElem?_eq_some_iff.1 HX5.out).1
      clear b5 HX4 i04 i14 il4 HR
      cases hrd : hread rb with
      | none =>
        have E : Hid (ro = (none, 4)) := by have := SO2.out; rw [hrd] at this; exact this
        clear SO2 hrd
        simp only [Option.getD_none, Option.isSome_none, hdV, hd0]
        go_wp2_with fail
        obtain ⟨S0, hS0⟩ : ∃ S0 : World → Prop, S0 = fun _ => True := ⟨_, rfl⟩
        have s0 : ∀ w, S0 w := fun w => by rw [hS0]; trivial
        clear hS0
        refine wp_region_held (S := S0) (by kernel_rfl) ?_
        change wpAnyH _ _ _ _ _ _ _ _ (World.drew _)
        refine wpAnyH_take (i := 0) (v := .bool false) rfl (by kernel_rfl) (by kernel_rfl) (by kernel_rfl) (fun _ _ _ h => h) (.inl ⟨by rfl, by intro w hw; go_simp⟩) (s0 _) ?_
        try simp only [Act.put, List.getElem_toArray, List.getElem_cons_zero, List.getElem_cons_succ, List.setIfInBounds_toArray, List.set_cons_zero, List.set_cons_succ]
        refine wpAnyH_take (i := 1) (v := .bool true) rfl (by kernel_rfl) (by kernel_rfl) (by kernel_rfl) (fun _ _ _ h => h) (.inl ⟨by rfl, by intro w hw; go_simp⟩) (s0 _) ?_
        try simp only [Act.put, List.getElem_toArray, List.getElem_cons_zero, List.getElem_cons_succ, List.setIfInBounds_toArray, List.set_cons_zero, List.set_cons_succ]
        refine wpAnyH_take (i := 2) (v := .bool true) rfl (by kernel_rfl) (by kernel_rfl) (by kernel_rfl) (fun _ _ _ h => h) (.inl ⟨by rfl, by intro w hw; go_simp⟩) (s0 _) ?_
        try simp only [Act.put, List.getElem_toArray, List.getElem_cons_zero, List.getElem_cons_succ, List.setIfInBounds_toArray, List.set_cons_zero, List.set_cons_succ]
        refine wpAnyH_take (i := 3) (v := undef) rfl (by kernel_rfl) (by kernel_rfl) (by kernel_rfl) (fun _ _ _ h => h) (.inr ⟨by rfl, rfl⟩) (s0 _) ?_
        try simp only [Act.put, List.getElem_toArray, List.getElem_cons_zero, List.getElem_cons_succ, List.setIfInBounds_toArray, List.set_cons_zero, List.set_cons_succ]
        refine wpAnyH_take (i := 4) (v := undef) rfl (by kernel_rfl) (by kernel_rfl) (by kernel_rfl) (fun _ _ _ h => h) (.inr ⟨by rfl, rfl⟩) (s0 _) ?_
        try simp only [Act.put, List.getElem_toArray, List.getElem_cons_zero, List.getElem_cons_succ, List.setIfInBounds_toArray, List.set_cons_zero, List.set_cons_succ]
        refine wpAnyH_take (i := 5) (v := undef) rfl (by kernel_rfl) (by kernel_rfl) (by kernel_rfl) (fun _ _ _ h => h) (.inr ⟨by rfl, rfl⟩) (s0 _) ?_
        try simp only [Act.put, List.getElem_toArray, List.getElem_cons_zero, List.getElem_cons_succ, List.setIfInBounds_toArray, List.set_cons_zero, List.set_cons_succ]
        refine wpAnyH_take (i := 6) (v := undef) rfl (by kernel_rfl) (by kernel_rfl) (by kernel_rfl) (fun _ _ _ h => h) (.inr ⟨by rfl, rfl⟩) (s0 _) ?_
        try simp only [Act.put, List.getElem_toArray, List.getElem_cons_zero, List.getElem_cons_succ, List.setIfInBounds_toArray, List.set_cons_zero, List.set_cons_succ]
        refine wpAnyH_take (i := 7) (v := undef) rfl (by kernel_rfl) (by kernel_rfl) (by kernel_rfl) (fun _ _ _ h => h) (.inr ⟨by rfl, rfl⟩) (s0 _) ?_
        try simp only [Act.put, List.getElem_toArray, List.getElem_cons_zero, List.getElem_cons_succ, List.setIfInBounds_toArray, List.set_cons_zero, List.set_cons_succ]
        refine wpAnyH_take (i := 8) (v := undef) rfl (by kernel_rfl) (by kernel_rfl) (by kernel_rfl) (fun _ _ _ h => h) (.inr ⟨by rfl, rfl⟩) (s0 _) ?_
        try simp only [Act.put, List.getElem_toArray, List.getElem_cons_zero, List.getElem_cons_succ, List.setIfInBounds_toArray, List.set_cons_zero, List.set_cons_succ]
        refine wpAnyH_take (i := 9) (v := undef) rfl (by kernel_rfl) (by kernel_rfl) (by kernel_rfl) (fun _ _ _ h => h) (.inr ⟨by rfl, rfl⟩) (s0 _) ?_
        try simp only [Act.put, List.getElem_toArray, List.getElem_cons_zero, List.getElem_cons_succ, List.setIfInBounds_toArray, List.set_cons_zero, List.set_cons_succ]
        refine wpAnyH_take (i := 10) (v := undef) rfl (by kernel_rfl) (by kernel_rfl) (by kernel_rfl) (fun _ _ _ h => h) (.inr ⟨by rfl, rfl⟩) (s0 _) ?_
        try simp only [Act.put, List.getElem_toArray, List.getElem_cons_zero, List.getElem_cons_succ, List.setIfInBounds_toArray, List.set_cons_zero, List.set_cons_succ]
        refine wpAnyH_take (i := 11) (v := undef) rfl (by kernel_rfl) (by kernel_rfl) (by kernel_rfl) (fun _ _ _ h => h) (.inr ⟨by rfl, rfl⟩) (s0 _) ?_
        try simp only [Act.put, List.getElem_toArray, List.getElem_cons_zero, List.getElem_cons_succ, List.setIfInBounds_toArray, List.set_cons_zero, List.set_cons_succ]
        refine wpAnyH_take (i := 12) (v := .bool true) rfl (by kernel_rfl) (by kernel_rfl) (by kernel_rfl) (fun _ _ _ h => h) (.inl ⟨by rfl, by intro w hw; go_simp⟩) (s0 _) ?_
        try simp only [Act.put, List.getElem_toArray, List.getElem_cons_zero, List.getElem_cons_succ, List.setIfInBounds_toArray, List.set_cons_zero, List.set_cons_succ]
        refine wpAnyH_take (i := 13) (v := .bool true) rfl (by kernel_rfl) (by kernel_rfl) (by kernel_rfl) (fun _ _ _ h => h) (.inl ⟨by rfl, by intro w hw; go_simp⟩) (s0 _) ?_
        try simp only [Act.put, List.getElem_toArray, List.getElem_cons_zero, List.getElem_cons_succ, List.setIfInBounds_toArray, List.set_cons_zero, List.set_cons_succ]
        refine wpAnyH_take (i := 14) (v := undef) rfl (by kernel_rfl) (by kernel_rfl) (by kernel_rfl) (fun _ _ _ h => h) (.inr ⟨by rfl, rfl⟩) (s0 _) ?_
        try simp only [Act.put, List.getElem_toArray, List.getElem_cons_zero, List.getElem_cons_succ, List.setIfInBounds_toArray, List.set_cons_zero, List.set_cons_succ]
        refine wpAnyH_take (i := 15) (v := undef) rfl (by kernel_rfl) (by kernel_rfl) (by kernel_rfl) (fun _ _ _ h => h) (.inr ⟨by rfl, rfl⟩) (s0 _) ?_
        try simp only [Act.put, List.getElem_toArray, List.getElem_cons_zero, List.getElem_cons_succ, List.setIfInBounds_toArray, List.set_cons_zero, List.set_cons_succ]
        refine wpAnyH_take (i := 16) (v := undef) rfl (by kernel_rfl) (by kernel_rfl) (by kernel_rfl) (fun _ _ _ h => h) (.inr ⟨by rfl, rfl⟩) (s0 _) ?_
        try simp only [Act.put, List.getElem_toArray, List.getElem_cons_zero, List.getElem_cons_succ, List.setIfInBounds_toArray, List.set_cons_zero, List.set_cons_succ]
        refine wpAnyH_take (i := 17) (v := undef) rfl (by kernel_rfl) (by kernel_rfl) (by kernel_rfl) (fun _ _ _ h => h) (.inr ⟨by rfl, rfl⟩) (s0 _) ?_
        try simp only [Act.put, List.getElem_toArray, List.getElem_cons_zero, List.getElem_cons_succ, List.setIfInBounds_toArray, List.set_cons_zero, List.set_cons_succ]
        refine wpAnyH_take (i := 18) (v := undef) rfl (by kernel_rfl) (by kernel_rfl) (by kernel_rfl) (fun _ _ _ h => h) (.inr ⟨by rfl, rfl⟩) (s0 _) ?_
        try simp only [Act.put, List.getElem_toArray, List.getElem_cons_zero, List.getElem_cons_succ, List.setIfInBounds_toArray, List.set_cons_zero, List.set_cons_succ]
        refine wpAnyH_take (i := 19) (v := undef) rfl (by kernel_rfl) (by kernel_rfl) (by kernel_rfl) (fun _ _ _ h => h) (.inr ⟨by rfl, rfl⟩) (s0 _) ?_
        try simp only [Act.put, List.getElem_toArray, List.getElem_cons_zero, List.getElem_cons_succ, List.setIfInBounds_toArray, List.set_cons_zero, List.set_cons_succ]
        refine wpAnyH_take (i := 20) (v := undef) rfl (by kernel_rfl) (by kernel_rfl) (by kernel_rfl) (fun _ _ _ h => h) (.inr ⟨by rfl, rfl⟩) (s0 _) ?_
        try simp only [Act.put, List.getElem_toArray, List.getElem_cons_zero, List.getElem_cons_succ, List.setIfInBounds_toArray, List.set_cons_zero, List.set_cons_succ]
        refine wpAnyH_take (i := 21) (v := undef) rfl (by kernel_rfl) (by kernel_rfl) (by kernel_rfl) (fun _ _ _ h => h) (.inr ⟨by rfl, rfl⟩) (s0 _) ?_
        try simp only [Act.put, List.getElem_toArray, List.getElem_cons_zero, List.getElem_cons_succ, List.setIfInBounds_toArray, List.set_cons_zero, List.set_cons_succ]
        refine wpAnyH_take (i := 22) (v := .bool true) rfl (by kernel_rfl) (by kernel_rfl) (by kernel_rfl) (fun _ _ _ h => h) (.inl ⟨by rfl, by intro w hw; go_simp⟩) (s0 _) ?_
        try simp only [Act.put, List.getElem_toArray, List.getElem_cons_zero, List.getElem_cons_succ, List.setIfInBounds_toArray, List.set_cons_zero, List.set_cons_succ]
        refine wpAnyH_done (by kernel_rfl) ?_ _
        clear s0
        go_wp2_with fail
        refine bodyPost_ret (v := .tuple #[.pointer none, .int .i64 4]) (by simp [results, Try.results68, go_sem]) rfl ?_
        exact OpenOf.none 4 E.out (B5.out.alloc B5.out.size _).drew rfl
      | some h =>
        have SO3 : Hid (ro = sload d N (d.kept.length - 1 - 2 * N) h) := by have := SO2.out; rw [hrd] at this; exact this
        have HRD := Lib.hid hrd
        obtain ⟨hs2, hlo, hus, htu⟩ := hread_bound hrd
        clear SO2 hrd
        have SL : Hid (sload d N (d.kept.length - 1 - 2 * N) h = if 32 * N < h.long ∨ 32 * (d.kept.length - 1 - 2 * N) < h.used then (none, 4)
          else if (jget d (1 + h.slot * N) N 0 h.long).2 ≠ 0 then (none, (jget d (1 + h.slot * N) N 0 h.long).2)
          else if (jframes d (1 + 2 * N) (d.kept.length - 1 - 2 * N) h.used).2 ≠ 0 then (none, (jframes d (1 + 2 * N) (d.kept.length - 1 - 2 * N) h.used).2)
          else (some ⟨N, d.kept.length - 1 - 2 * N, h, (jget d (1 + h.slot * N) N 0 h.long).1, (jframes d (1 + 2 * N) (d.kept.length - 1 - 2 * N) h.used).1, false⟩, 0)) := rfl
        have OK0 : Hid (∀ cs R, ¬ 32 * N < h.long → ¬ 32 * (d.kept.length - 1 - 2 * N) < h.used → (jget d (1 + h.slot * N) N 0 h.long).1 = cs → jframes d (1 + 2 * N) (d.kept.length - 1 - 2 * N) h.used = (R, 0) → StOk ⟨N, d.kept.length - 1 - 2 * N, h, cs, R, false⟩) := fun cs R k1 k2 k3 k4 => sload_stok HRD.out k1 k2 hN1 (by omega) k3 k4
        have HLI : Hid (((d.kept.length - 1 - 2 * N : Nat) : Int) = (d.kept.length : Int) - 1 - 2 * N) := by show _ = _; omega
        have GET := fun W hb => GT.out W hb
        have FRM : Hid (∀ W, Below w.heap.size w W → ∀ (A : Nat), IsArea W A B (1 + 2 * N) (d.kept.length - 1 - 2 * N) → Calls Try.prog 64 #[.pointer (some ⟨A, 0, none⟩), .int .i64 (h.used : Int)] W (FramesOf W (jframes d (1 + 2 * N) (d.kept.length - 1 - 2 * N) h.used))) := fun W hb A hA => FR.out W hb A _ _ _ hA (by omega)
        have GTA : Hid (∀ W, Below w.heap.size w W → ∀ (A : Nat), IsArea W A B (1 + h.slot * N) N → Calls Try.prog 55 #[.pointer (some ⟨A, 0, none⟩), .int .i64 0, .int .i64 (h.long : Int)] W (GetOf W (jget d (1 + h.slot * N) N 0 h.long))) := fun W hb A hA => GT.out W hb A _ _ hA (by rcases (by omega : h.slot = 0 ∨ h.slot = 1) with h' | h' <;> rw [h'] <;> omega)
        have O6 := Lib.hid (OpS.start (h := h) B5.out HX5.out i05.out i15.out il5.out l0 l1 lAL lS)
        have RO := Lib.hid (SO3.out.trans SL.out)
        generalize jget d (1 + h.slot * N) N 0 h.long = gr at *
        generalize jframes d (1 + 2 * N) (d.kept.length - 1 - 2 * N) h.used = fr at *
        generalize d.kept.length - 1 - 2 * N = L at *
        obtain ⟨cs, ge⟩ := gr
        obtain ⟨R, fe⟩ := fr
        dsimp only at OK0 RO
        clear SO3 HRD GT FR GET SL HX5 i05 i15 il5 BW B4
        simp only [Option.getD_some, Option.isSome_some, hdV]
        go_wp2_with fail
        change Code.wp _ _ _ _ (w5.alloc (.cells (hcells h) 132))
        obtain ⟨w6, hw6⟩ : ∃ w6, w5.alloc (.cells (hcells h) 132) = w6 := ⟨_, rfl⟩
        rw [hw6] at O6 ⊢
        have SZ0 := Lib.hid (size_any (O6.out.a0.below (Below.refl _ w6).drew))
        have SZL := Lib.hid (size_any (O6.out.al.below (Below.refl _ w6).drew))
        obtain ⟨S0, hS0⟩ : ∃ S0 : World → Prop, S0 = fun w' => w'.heap[S]? = some (.cells (stcells B A0 A1 AL ⟨N, L, hd0, [], [], false⟩ (.slice none 0 0) (.slice none 0 0)) 134 (0, 0)) ∧ w'.heap[w5.heap.size]? = some (.cells (hcells h) 132 (0, 0)) := ⟨_, rfl⟩
        have hSS : Hid (∀ w', S0 w' → w'.cell? ⟨S, 1, none⟩ = some (.pointer (some ⟨A0, 0, none⟩)) ∧ w'.cell? ⟨S, 3, none⟩ = some (.pointer (some ⟨AL, 0, none⟩)) ∧ w'.cell? ⟨w5.heap.size, 1, none⟩ = some (.int .i64 (h.long : Int)) ∧ w'.cell? ⟨w5.heap.size, 2, none⟩ = some (.int .i64 (h.used : Int)) ∧ True) := fun w' hh => by
          rw [hS0] at hh
          obtain ⟨a, c⟩ := hh
          exact ⟨Joins.cell_of_block a 1, Joins.cell_of_block a 3, Joins.cell_of_block c 1, Joins.cell_of_block c 2, trivial⟩
        have s0 : S0 w6.drew := by rw [hS0]; exact ⟨O6.out.blk, O6.out.bx⟩
        clear hS0 hw6
        by_cases hx1 : 32 * N < h.long
        · have E : Hid (ro = (none, 4)) := by have := RO.out; rw [if_pos (.inl hx1)] at this; exact this
          have hl1 : 32 * (N : Int) < (h.long : Int) := by omega
          clear hx1 RO
          refine wp_region_held (S := S0) (by kernel_rfl) ?_
          change wpAnyH _ _ _ _ _ _ _ _ (World.drew _)
          refine wpAnyH_take (i := 0) (v := .bool true) rfl (by kernel_rfl) (by kernel_rfl) (by kernel_rfl) (fun _ _ _ h => h) (.inl ⟨by rfl, by intro w hw; go_simp⟩) s0 ?_
          try simp only [Act.put, List.getElem_toArray, List.getElem_cons_zero, List.getElem_cons_succ, List.setIfInBounds_toArray, List.set_cons_zero, List.set_cons_succ]
          refine wpAnyH_take (i := 1) (v := .bool false) rfl (by kernel_rfl) (by kernel_rfl) (by kernel_rfl) (fun _ _ _ h => h) (.inl ⟨by rfl, by intro w hw; go_simp⟩) s0 ?_
          try simp only [Act.put, List.getElem_toArray, List.getElem_cons_zero, List.getElem_cons_succ, List.setIfInBounds_toArray, List.set_cons_zero, List.set_cons_succ]
          refine wpAnyH_take (i := 2) (v := .bool false) rfl (by kernel_rfl) (by kernel_rfl) (by kernel_rfl) (fun _ _ _ h => h) (.inl ⟨by rfl, by intro w hw; go_simp⟩) s0 ?_
          try simp only [Act.put, List.getElem_toArray, List.getElem_cons_zero, List.getElem_cons_succ, List.setIfInBounds_toArray, List.set_cons_zero, List.set_cons_succ]
          refine wpAnyH_take (i := 3) (v := .pointer (some ⟨w5.heap.size, 1, none⟩)) rfl (by kernel_rfl) (by kernel_rfl) (by kernel_rfl) (fun _ _ _ h => h) (.inl ⟨by rfl, by intro w hw; go_simp⟩) s0 ?_
          try simp only [Act.put, List.getElem_toArray, List.getElem_cons_zero, List.getElem_cons_succ, List.setIfInBounds_toArray, List.set_cons_zero, List.set_cons_succ]
          refine wpAnyH_take (i := 4) (v := .int .i64 (h.long : Int)) rfl (by kernel_rfl) (by kernel_rfl) (by kernel_rfl) (fun _ _ _ h => h) (.inl ⟨by rfl, by intro w hw; have h := hSS.out w hw; obtain ⟨q0, q1, q2, q3, q4⟩ := h; go_simp⟩) s0 ?_
          try simp only [Act.put, List.getElem_toArray, List.getElem_cons_zero, List.getElem_cons_succ, List.setIfInBounds_toArray, List.set_cons_zero, List.set_cons_succ]
          refine wpAnyH_take (i := 5) (v := .pointer (some ⟨S, 0, none⟩)) rfl (by kernel_rfl) (by kernel_rfl) (by kernel_rfl) (fun _ _ _ h => h) (.inl ⟨by rfl, by intro w hw; go_simp⟩) s0 ?_
          try simp only [Act.put, List.getElem_toArray, List.getElem_cons_zero, List.getElem_cons_succ, List.setIfInBounds_toArray, List.set_cons_zero, List.set_cons_succ]
          refine wpAnyH_take (i := 6) (v := .pointer (some ⟨S, 0, none⟩)) rfl (by kernel_rfl) (by kernel_rfl) (by kernel_rfl) (fun _ _ _ h => h) (.inl ⟨by rfl, by intro w hw; go_simp⟩) s0 ?_
          try simp only [Act.put, List.getElem_toArray, List.getElem_cons_zero, List.getElem_cons_succ, List.setIfInBounds_toArray, List.set_cons_zero, List.set_cons_succ]
          refine wpAnyH_take (i := 7) (v := .pointer (some ⟨S, 1, none⟩)) rfl (by kernel_rfl) (by kernel_rfl) (by kernel_rfl) (fun _ _ _ h => h) (.inl ⟨by rfl, by intro w hw; go_simp⟩) s0 ?_
          try simp only [Act.put, List.getElem_toArray, List.getElem_cons_zero, List.getElem_cons_succ, List.setIfInBounds_toArray, List.set_cons_zero, List.set_cons_succ]
          refine wpAnyH_take (i := 8) (v := .pointer (some ⟨S, 1, none⟩)) rfl (by kernel_rfl) (by kernel_rfl) (by kernel_rfl) (fun _ _ _ h => h) (.inl ⟨by rfl, by intro w hw; go_simp⟩) s0 ?_
          try simp only [Act.put, List.getElem_toArray, List.getElem_cons_zero, List.getElem_cons_succ, List.setIfInBounds_toArray, List.set_cons_zero, List.set_cons_succ]
          refine wpAnyH_take (i := 9) (v := .pointer (some ⟨A0, 0, none⟩)) rfl (by kernel_rfl) (by kernel_rfl) (by kernel_rfl) (fun _ _ _ h => h) (.inl ⟨by rfl, by intro w hw; have h := hSS.out w hw; obtain ⟨q0, q1, q2, q3, q4⟩ := h; go_simp⟩) s0 ?_
          try simp only [Act.put, List.getElem_toArray, List.getElem_cons_zero, List.getElem_cons_succ, List.setIfInBounds_toArray, List.set_cons_zero, List.set_cons_succ]
          refine wpAnyH_one (i := 10) (by kernel_rfl) rfl (by rfl) (fun Kc hK => ?_)
          go_simp
          refine ((SZ0.out).mono ?_)
          rintro en wz ⟨rfl, rfl⟩
          go_simp
          refine hK _ _ s0 ?_
          clear hK Kc
          try simp only [Act.put, List.getElem_toArray, List.getElem_cons_zero, List.getElem_cons_succ, List.setIfInBounds_toArray, List.set_cons_zero, List.set_cons_succ]
          refine wpAnyH_take (i := 11) (v := .bool true) rfl (by kernel_rfl) (by kernel_rfl) (by kernel_rfl) (fun _ _ _ h => h) (.inl ⟨by rfl, by intro w hw; go_simp; try simp [hl1]⟩) s0 ?_
          try simp only [Act.put, List.getElem_toArray, List.getElem_cons_zero, List.getElem_cons_succ, List.setIfInBounds_toArray, List.set_cons_zero, List.set_cons_succ]
          refine wpAnyH_take (i := 12) (v := .bool true) rfl (by kernel_rfl) (by kernel_rfl) (by kernel_rfl) (fun _ _ _ h => h) (.inl ⟨by rfl, by intro w hw; go_simp⟩) s0 ?_
          try simp only [Act.put, List.getElem_toArray, List.getElem_cons_zero, List.getElem_cons_succ, List.setIfInBounds_toArray, List.set_cons_zero, List.set_cons_succ]
          refine wpAnyH_take (i := 13) (v := .bool true) rfl (by kernel_rfl) (by kernel_rfl) (by kernel_rfl) (fun _ _ _ h => h) (.inl ⟨by rfl, by intro w hw; go_simp⟩) s0 ?_
          try simp only [Act.put, List.getElem_toArray, List.getElem_cons_zero, List.getElem_cons_succ, List.setIfInBounds_toArray, List.set_cons_zero, List.set_cons_succ]
          refine wpAnyH_take (i := 14) (v := undef) rfl (by kernel_rfl) (by kernel_rfl) (by kernel_rfl) (fun _ _ _ h => h) (.inr ⟨by rfl, rfl⟩) s0 ?_
          try simp only [Act.put, List.getElem_toArray, List.getElem_cons_zero, List.getElem_cons_succ, List.setIfInBounds_toArray, List.set_cons_zero, List.set_cons_succ]
          refine wpAnyH_take (i := 15) (v := undef) rfl (by kernel_rfl) (by kernel_rfl) (by kernel_rfl) (fun _ _ _ h => h) (.inr ⟨by rfl, rfl⟩) s0 ?_
          try simp only [Act.put, List.getElem_toArray, List.getElem_cons_zero, List.getElem_cons_succ, List.setIfInBounds_toArray, List.set_cons_zero, List.set_cons_succ]
          refine wpAnyH_take (i := 16) (v := undef) rfl (by kernel_rfl) (by kernel_rfl) (by kernel_rfl) (fun _ _ _ h => h) (.inr ⟨by rfl, rfl⟩) s0 ?_
          try simp only [Act.put, List.getElem_toArray, List.getElem_cons_zero, List.getElem_cons_succ, List.setIfInBounds_toArray, List.set_cons_zero, List.set_cons_succ]
          refine wpAnyH_take (i := 17) (v := undef) rfl (by kernel_rfl) (by kernel_rfl) (by kernel_rfl) (fun _ _ _ h => h) (.inr ⟨by rfl, rfl⟩) s0 ?_
          try simp only [Act.put, List.getElem_toArray, List.getElem_cons_zero, List.getElem_cons_succ, List.setIfInBounds_toArray, List.set_cons_zero, List.set_cons_succ]
          refine wpAnyH_take (i := 18) (v := undef) rfl (by kernel_rfl) (by kernel_rfl) (by kernel_rfl) (fun _ _ _ h => h) (.inr ⟨by rfl, rfl⟩) s0 ?_
          try simp only [Act.put, List.getElem_toArray, List.getElem_cons_zero, List.getElem_cons_succ, List.setIfInBounds_toArray, List.set_cons_zero, List.set_cons_succ]
          refine wpAnyH_take (i := 19) (v := undef) rfl (by kernel_rfl) (by kernel_rfl) (by kernel_rfl) (fun _ _ _ h => h) (.inr ⟨by rfl, rfl⟩) s0 ?_
          try simp only [Act.put, List.getElem_toArray, List.getElem_cons_zero, List.getElem_cons_succ, List.setIfInBounds_toArray, List.set_cons_zero, List.set_cons_succ]
          refine wpAnyH_take (i := 20) (v := undef) rfl (by kernel_rfl) (by kernel_rfl) (by kernel_rfl) (fun _ _ _ h => h) (.inr ⟨by rfl, rfl⟩) s0 ?_
          try simp only [Act.put, List.getElem_toArray, List.getElem_cons_zero, List.getElem_cons_succ, List.setIfInBounds_toArray, List.set_cons_zero, List.set_cons_succ]
          refine wpAnyH_take (i := 21) (v := undef) rfl (by kernel_rfl) (by kernel_rfl) (by kernel_rfl) (fun _ _ _ h => h) (.inr ⟨by rfl, rfl⟩) s0 ?_
          try simp only [Act.put, List.getElem_toArray, List.getElem_cons_zero, List.getElem_cons_succ, List.setIfInBounds_toArray, List.set_cons_zero, List.set_cons_succ]
          refine wpAnyH_take (i := 22) (v := .bool true) rfl (by kernel_rfl) (by kernel_rfl) (by kernel_rfl) (fun _ _ _ h => h) (.inl ⟨by rfl, by intro w hw; go_simp⟩) s0 ?_
          try simp only [Act.put, List.getElem_toArray, List.getElem_cons_zero, List.getElem_cons_succ, List.setIfInBounds_toArray, List.set_cons_zero, List.set_cons_succ]
          refine wpAnyH_done (by kernel_rfl) ?_ _
          clear s0 hSS
          go_wp2_with fail
          refine bodyPost_ret (v := .tuple #[.pointer none, .int .i64 4]) (by simp [results, Try.results68, go_sem]) rfl ?_
          exact OpenOf.none 4 E.out O6.out.bl.drew rfl
        have hl1 : ¬ 32 * (N : Int) < (h.long : Int) := by omega
        by_cases hx2 : 32 * L < h.used
        · have E : Hid (ro = (none, 4)) := by have := RO.out; rw [if_pos (.inr hx2)] at this; exact this
          have hl2 : 32 * (L : Int) < (h.used : Int) := by omega
          clear hx1 hx2 RO
          refine wp_region_held (S := S0) (by kernel_rfl) ?_
          change wpAnyH _ _ _ _ _ _ _ _ (World.drew _)
          refine wpAnyH_take (i := 0) (v := .bool true) rfl (by kernel_rfl) (by kernel_rfl) (by kernel_rfl) (fun _ _ _ h => h) (.inl ⟨by rfl, by intro w hw; go_simp⟩) s0 ?_
          try simp only [Act.put, List.getElem_toArray, List.getElem_cons_zero, List.getElem_cons_succ, List.setIfInBounds_toArray, List.set_cons_zero, List.set_cons_succ]
          refine wpAnyH_take (i := 1) (v := .bool false) rfl (by kernel_rfl) (by kernel_rfl) (by kernel_rfl) (fun _ _ _ h => h) (.inl ⟨by rfl, by intro w hw; go_simp⟩) s0 ?_
          try simp only [Act.put, List.getElem_toArray, List.getElem_cons_zero, List.getElem_cons_succ, List.setIfInBounds_toArray, List.set_cons_zero, List.set_cons_succ]
          refine wpAnyH_take (i := 2) (v := .bool false) rfl (by kernel_rfl) (by kernel_rfl) (by kernel_rfl) (fun _ _ _ h => h) (.inl ⟨by rfl, by intro w hw; go_simp⟩) s0 ?_
          try simp only [Act.put, List.getElem_toArray, List.getElem_cons_zero, List.getElem_cons_succ, List.setIfInBounds_toArray, List.set_cons_zero, List.set_cons_succ]
          refine wpAnyH_take (i := 3) (v := .pointer (some ⟨w5.heap.size, 1, none⟩)) rfl (by kernel_rfl) (by kernel_rfl) (by kernel_rfl) (fun _ _ _ h => h) (.inl ⟨by rfl, by intro w hw; go_simp⟩) s0 ?_
          try simp only [Act.put, List.getElem_toArray, List.getElem_cons_zero, List.getElem_cons_succ, List.setIfInBounds_toArray, List.set_cons_zero, List.set_cons_succ]
          refine wpAnyH_take (i := 4) (v := .int .i64 (h.long : Int)) rfl (by kernel_rfl) (by kernel_rfl) (by kernel_rfl) (fun _ _ _ h => h) (.inl ⟨by rfl, by intro w hw; have h := hSS.out w hw; obtain ⟨q0, q1, q2, q3, q4⟩ := h; go_simp⟩) s0 ?_
          try simp only [Act.put, List.getElem_toArray, List.getElem_cons_zero, List.getElem_cons_succ, List.setIfInBounds_toArray, List.set_cons_zero, List.set_cons_succ]
          refine wpAnyH_take (i := 5) (v := .pointer (some ⟨S, 0, none⟩)) rfl (by kernel_rfl) (by kernel_rfl) (by kernel_rfl) (fun _ _ _ h => h) (.inl ⟨by rfl, by intro w hw; go_simp⟩) s0 ?_
          try simp only [Act.put, List.getElem_toArray, List.getElem_cons_zero, List.getElem_cons_succ, List.setIfInBounds_toArray, List.set_cons_zero, List.set_cons_succ]
          refine wpAnyH_take (i := 6) (v := .pointer (some ⟨S, 0, none⟩)) rfl (by kernel_rfl) (by kernel_rfl) (by kernel_rfl) (fun _ _ _ h => h) (.inl ⟨by rfl, by intro w hw; go_simp⟩) s0 ?_
          try simp only [Act.put, List.getElem_toArray, List.getElem_cons_zero, List.getElem_cons_succ, List.setIfInBounds_toArray, List.set_cons_zero, List.set_cons_succ]
          refine wpAnyH_take (i := 7) (v := .pointer (some ⟨S, 1, none⟩)) rfl (by kernel_rfl) (by kernel_rfl) (by kernel_rfl) (fun _ _ _ h => h) (.inl ⟨by rfl, by intro w hw; go_simp⟩) s0 ?_
          try simp only [Act.put, List.getElem_toArray, List.getElem_cons_zero, List.getElem_cons_succ, List.setIfInBounds_toArray, List.set_cons_zero, List.set_cons_succ]
          refine wpAnyH_take (i := 8) (v := .pointer (some ⟨S, 1, none⟩)) rfl (by kernel_rfl) (by kernel_rfl) (by kernel_rfl) (fun _ _ _ h => h) (.inl ⟨by rfl, by intro w hw; go_simp⟩) s0 ?_
          try simp only [Act.put, List.getElem_toArray, List.getElem_cons_zero, List.getElem_cons_succ, List.setIfInBounds_toArray, List.set_cons_zero, List.set_cons_succ]
          refine wpAnyH_take (i := 9) (v := .pointer (some ⟨A0, 0, none⟩)) rfl (by kernel_rfl) (by kernel_rfl) (by kernel_rfl) (fun _ _ _ h => h) (.inl ⟨by rfl, by intro w hw; have h := hSS.out w hw; obtain ⟨q0, q1, q2, q3, q4⟩ := h; go_simp⟩) s0 ?_
          try simp only [Act.put, List.getElem_toArray, List.getElem_cons_zero, List.getElem_cons_succ, List.setIfInBounds_toArray, List.set_cons_zero, List.set_cons_succ]
          refine wpAnyH_one (i := 10) (by kernel_rfl) rfl (by rfl) (fun Kc hK => ?_)
          go_simp
          refine ((SZ0.out).mono ?_)
          rintro en wz ⟨rfl, rfl⟩
          go_simp
          refine hK _ _ s0 ?_
          clear hK Kc
          try simp only [Act.put, List.getElem_toArray, List.getElem_cons_zero, List.getElem_cons_succ, List.setIfInBounds_toArray, List.set_cons_zero, List.set_cons_succ]
          refine wpAnyH_take (i := 11) (v := .bool false) rfl (by kernel_rfl) (by kernel_rfl) (by kernel_rfl) (fun _ _ _ h => h) (.inl ⟨by rfl, by intro w hw; go_simp; try simp [hl1]⟩) s0 ?_
          try simp only [Act.put, List.getElem_toArray, List.getElem_cons_zero, List.getElem_cons_succ, List.setIfInBounds_toArray, List.set_cons_zero, List.set_cons_succ]
          refine wpAnyH_take (i := 12) (v := .bool false) rfl (by kernel_rfl) (by kernel_rfl) (by kernel_rfl) (fun _ _ _ h => h) (.inl ⟨by rfl, by intro w hw; go_simp⟩) s0 ?_
          try simp only [Act.put, List.getElem_toArray, List.getElem_cons_zero, List.getElem_cons_succ, List.setIfInBounds_toArray, List.set_cons_zero, List.set_cons_succ]
          refine wpAnyH_take (i := 13) (v := .bool false) rfl (by kernel_rfl) (by kernel_rfl) (by kernel_rfl) (fun _ _ _ h => h) (.inl ⟨by rfl, by intro w hw; go_simp⟩) s0 ?_
          try simp only [Act.put, List.getElem_toArray, List.getElem_cons_zero, List.getElem_cons_succ, List.setIfInBounds_toArray, List.set_cons_zero, List.set_cons_succ]
          refine wpAnyH_take (i := 14) (v := .pointer (some ⟨w5.heap.size, 2, none⟩)) rfl (by kernel_rfl) (by kernel_rfl) (by kernel_rfl) (fun _ _ _ h => h) (.inl ⟨by rfl, by intro w hw; go_simp⟩) s0 ?_
          try simp only [Act.put, List.getElem_toArray, List.getElem_cons_zero, List.getElem_cons_succ, List.setIfInBounds_toArray, List.set_cons_zero, List.set_cons_succ]
          refine wpAnyH_take (i := 15) (v := .int .i64 (h.used : Int)) rfl (by kernel_rfl) (by kernel_rfl) (by kernel_rfl) (fun _ _ _ h => h) (.inl ⟨by rfl, by intro w hw; have h := hSS.out w hw; obtain ⟨q0, q1, q2, q3, q4⟩ := h; go_simp⟩) s0 ?_
          try simp only [Act.put, List.getElem_toArray, List.getElem_cons_zero, List.getElem_cons_succ, List.setIfInBounds_toArray, List.set_cons_zero, List.set_cons_succ]
          refine wpAnyH_take (i := 16) (v := .pointer (some ⟨S, 0, none⟩)) rfl (by kernel_rfl) (by kernel_rfl) (by kernel_rfl) (fun _ _ _ h => h) (.inl ⟨by rfl, by intro w hw; go_simp⟩) s0 ?_
          try simp only [Act.put, List.getElem_toArray, List.getElem_cons_zero, List.getElem_cons_succ, List.setIfInBounds_toArray, List.set_cons_zero, List.set_cons_succ]
          refine wpAnyH_take (i := 17) (v := .pointer (some ⟨S, 0, none⟩)) rfl (by kernel_rfl) (by kernel_rfl) (by kernel_rfl) (fun _ _ _ h => h) (.inl ⟨by rfl, by intro w hw; go_simp⟩) s0 ?_
          try simp only [Act.put, List.getElem_toArray, List.getElem_cons_zero, List.getElem_cons_succ, List.setIfInBounds_toArray, List.set_cons_zero, List.set_cons_succ]
          refine wpAnyH_take (i := 18) (v := .pointer (some ⟨S, 3, none⟩)) rfl (by kernel_rfl) (by kernel_rfl) (by kernel_rfl) (fun _ _ _ h => h) (.inl ⟨by rfl, by intro w hw; go_simp⟩) s0 ?_
          try simp only [Act.put, List.getElem_toArray, List.getElem_cons_zero, List.getElem_cons_succ, List.setIfInBounds_toArray, List.set_cons_zero, List.set_cons_succ]
          refine wpAnyH_take (i := 19) (v := .pointer (some ⟨AL, 0, none⟩)) rfl (by kernel_rfl) (by kernel_rfl) (by kernel_rfl) (fun _ _ _ h => h) (.inl ⟨by rfl, by intro w hw; have h := hSS.out w hw; obtain ⟨q0, q1, q2, q3, q4⟩ := h; go_simp⟩) s0 ?_
          try simp only [Act.put, List.getElem_toArray, List.getElem_cons_zero, List.getElem_cons_succ, List.setIfInBounds_toArray, List.set_cons_zero, List.set_cons_succ]
          refine wpAnyH_one (i := 20) (by kernel_rfl) rfl (by rfl) (fun Kc hK => ?_)
          go_simp
          refine ((SZL.out).mono ?_)
          rintro en wz ⟨rfl, rfl⟩
          go_simp
          refine hK _ _ s0 ?_
          clear hK Kc
          try simp only [Act.put, List.getElem_toArray, List.getElem_cons_zero, List.getElem_cons_succ, List.setIfInBounds_toArray, List.set_cons_zero, List.set_cons_succ]
          refine wpAnyH_take (i := 21) (v := .bool true) rfl (by kernel_rfl) (by kernel_rfl) (by kernel_rfl) (fun _ _ _ h => h) (.inl ⟨by rfl, by intro w hw; go_simp; try simp [hl2]⟩) s0 ?_
          try simp only [Act.put, List.getElem_toArray, List.getElem_cons_zero, List.getElem_cons_succ, List.setIfInBounds_toArray, List.set_cons_zero, List.set_cons_succ]
          refine wpAnyH_take (i := 22) (v := .bool true) rfl (by kernel_rfl) (by kernel_rfl) (by kernel_rfl) (fun _ _ _ h => h) (.inl ⟨by rfl, by intro w hw; go_simp⟩) s0 ?_
          try simp only [Act.put, List.getElem_toArray, List.getElem_cons_zero, List.getElem_cons_succ, List.setIfInBounds_toArray, List.set_cons_zero, List.set_cons_succ]
          refine wpAnyH_done (by kernel_rfl) ?_ _
          clear s0 hSS
          go_wp2_with fail
          refine bodyPost_ret (v := .tuple #[.pointer none, .int .i64 4]) (by simp [results, Try.results68, go_sem]) rfl ?_
          exact OpenOf.none 4 E.out O6.out.bl.drew rfl
        have hl2 : ¬ 32 * (L : Int) < (h.used : Int) := by omega
        have RO2 : Hid (ro = if ge ≠ 0 then (none, ge) else if fe ≠ 0 then (none, fe) else (some ⟨N, L, h, cs, R, false⟩, 0)) := by have := RO.out; rw [if_neg (by omega)] at this; exact this
        have OK1 : Hid (fe = 0 → StOk ⟨N, L, h, cs, R, false⟩) := fun h0 => OK0.out cs R hx1 hx2 rfl (by rw [h0])
        clear hx1 hx2 RO OK0
        refine wp_region_held (S := S0) (by kernel_rfl) ?_
        change wpAnyH _ _ _ _ _ _ _ _ (World.drew _)
        refine wpAnyH_take (i := 0) (v := .bool true) rfl (by kernel_rfl) (by kernel_rfl) (by kernel_rfl) (fun _ _ _ h => h) (.inl ⟨by rfl, by intro w hw; go_simp⟩) s0 ?_
        try simp only [Act.put, List.getElem_toArray, List.getElem_cons_zero, List.getElem_cons_succ, List.setIfInBounds_toArray, List.set_cons_zero, List.set_cons_succ]
        refine wpAnyH_take (i := 1) (v := .bool false) rfl (by kernel_rfl) (by kernel_rfl) (by kernel_rfl) (fun _ _ _ h => h) (.inl ⟨by rfl, by intro w hw; go_simp⟩) s0 ?_
        try simp only [Act.put, List.getElem_toArray, List.getElem_cons_zero, List.getElem_cons_succ, List.setIfInBounds_toArray, List.set_cons_zero, List.set_cons_succ]
        refine wpAnyH_take (i := 2) (v := .bool false) rfl (by kernel_rfl) (by kernel_rfl) (by kernel_rfl) (fun _ _ _ h => h) (.inl ⟨by rfl, by intro w hw; go_simp⟩) s0 ?_
        try simp only [Act.put, List.getElem_toArray, List.getElem_cons_zero, List.getElem_cons_succ, List.setIfInBounds_toArray, List.set_cons_zero, List.set_cons_succ]
        refine wpAnyH_take (i := 3) (v := .pointer (some ⟨w5.heap.size, 1, none⟩)) rfl (by kernel_rfl) (by kernel_rfl) (by kernel_rfl) (fun _ _ _ h => h) (.inl ⟨by rfl, by intro w hw; go_simp⟩) s0 ?_
        try simp only [Act.put, List.getElem_toArray, List.getElem_cons_zero, List.getElem_cons_succ, List.setIfInBounds_toArray, List.set_cons_zero, List.set_cons_succ]
        refine wpAnyH_take (i := 4) (v := .int .i64 (h.long : Int)) rfl (by kernel_rfl) (by kernel_rfl) (by kernel_rfl) (fun _ _ _ h => h) (.inl ⟨by rfl, by intro w hw; have h := hSS.out w hw; obtain ⟨q0, q1, q2, q3, q4⟩ := h; go_simp⟩) s0 ?_
        try simp only [Act.put, List.getElem_toArray, List.getElem_cons_zero, List.getElem_cons_succ, List.setIfInBounds_toArray, List.set_cons_zero, List.set_cons_succ]
        refine wpAnyH_take (i := 5) (v := .pointer (some ⟨S, 0, none⟩)) rfl (by kernel_rfl) (by kernel_rfl) (by kernel_rfl) (fun _ _ _ h => h) (.inl ⟨by rfl, by intro w hw; go_simp⟩) s0 ?_
        try simp only [Act.put, List.getElem_toArray, List.getElem_cons_zero, List.getElem_cons_succ, List.setIfInBounds_toArray, List.set_cons_zero, List.set_cons_succ]
        refine wpAnyH_take (i := 6) (v := .pointer (some ⟨S, 0, none⟩)) rfl (by kernel_rfl) (by kernel_rfl) (by kernel_rfl) (fun _ _ _ h => h) (.inl ⟨by rfl, by intro w hw; go_simp⟩) s0 ?_
        try simp only [Act.put, List.getElem_toArray, List.getElem_cons_zero, List.getElem_cons_succ, List.setIfInBounds_toArray, List.set_cons_zero, List.set_cons_succ]
        refine wpAnyH_take (i := 7) (v := .pointer (some ⟨S, 1, none⟩)) rfl (by kernel_rfl) (by kernel_rfl) (by kernel_rfl) (fun _ _ _ h => h) (.inl ⟨by rfl, by intro w hw; go_simp⟩) s0 ?_
        try simp only [Act.put, List.getElem_toArray, List.getElem_cons_zero, List.getElem_cons_succ, List.setIfInBounds_toArray, List.set_cons_zero, List.set_cons_succ]
        refine wpAnyH_take (i := 8) (v := .pointer (some ⟨S, 1, none⟩)) rfl (by kernel_rfl) (by kernel_rfl) (by kernel_rfl) (fun _ _ _ h => h) (.inl ⟨by rfl, by intro w hw; go_simp⟩) s0 ?_
        try simp only [Act.put, List.getElem_toArray, List.getElem_cons_zero, List.getElem_cons_succ, List.setIfInBounds_toArray, List.set_cons_zero, List.set_cons_succ]
        refine wpAnyH_take (i := 9) (v := .pointer (some ⟨A0, 0, none⟩)) rfl (by kernel_rfl) (by kernel_rfl) (by kernel_rfl) (fun _ _ _ h => h) (.inl ⟨by rfl, by intro w hw; have h := hSS.out w hw; obtain ⟨q0, q1, q2, q3, q4⟩ := h; go_simp⟩) s0 ?_
        try simp only [Act.put, List.getElem_toArray, List.getElem_cons_zero, List.getElem_cons_succ, List.setIfInBounds_toArray, List.set_cons_zero, List.set_cons_succ]
        refine wpAnyH_one (i := 10) (by kernel_rfl) rfl (by rfl) (fun Kc hK => ?_)
        go_simp
        refine ((SZ0.out).mono ?_)
        rintro en wz ⟨rfl, rfl⟩
        go_simp
        refine hK _ _ s0 ?_
        clear hK Kc
        try simp only [Act.put, List.getElem_toArray, List.getElem_cons_zero, List.getElem_cons_succ, List.setIfInBounds_toArray, List.set_cons_zero, List.set_cons_succ]
        refine wpAnyH_take (i := 11) (v := .bool false) rfl (by kernel_rfl) (by kernel_rfl) (by kernel_rfl) (fun _ _ _ h => h) (.inl ⟨by rfl, by intro w hw; go_simp; try simp [hl1]⟩) s0 ?_
        try simp only [Act.put, List.getElem_toArray, List.getElem_cons_zero, List.getElem_cons_succ, List.setIfInBounds_toArray, List.set_cons_zero, List.set_cons_succ]
        refine wpAnyH_take (i := 12) (v := .bool false) rfl (by kernel_rfl) (by kernel_rfl) (by kernel_rfl) (fun _ _ _ h => h) (.inl ⟨by rfl, by intro w hw; go_simp⟩) s0 ?_
        try simp only [Act.put, List.getElem_toArray, List.getElem_cons_zero, List.getElem_cons_succ, List.setIfInBounds_toArray, List.set_cons_zero, List.set_cons_succ]
        refine wpAnyH_take (i := 13) (v := .bool false) rfl (by kernel_rfl) (by kernel_rfl) (by kernel_rfl) (fun _ _ _ h => h) (.inl ⟨by rfl, by intro w hw; go_simp⟩) s0 ?_
        try simp only [Act.put, List.getElem_toArray, List.getElem_cons_zero, List.getElem_cons_succ, List.setIfInBounds_toArray, List.set_cons_zero, List.set_cons_succ]
        refine wpAnyH_take (i := 14) (v := .pointer (some ⟨w5.heap.size, 2, none⟩)) rfl (by kernel_rfl) (by kernel_rfl) (by kernel_rfl) (fun _ _ _ h => h) (.inl ⟨by rfl, by intro w hw; go_simp⟩) s0 ?_
        try simp only [Act.put, List.getElem_toArray, List.getElem_cons_zero, List.getElem_cons_succ, List.setIfInBounds_toArray, List.set_cons_zero, List.set_cons_succ]
        refine wpAnyH_take (i := 15) (v := .int .i64 (h.used : Int)) rfl (by kernel_rfl) (by kernel_rfl) (by kernel_rfl) (fun _ _ _ h => h) (.inl ⟨by rfl, by intro w hw; have h := hSS.out w hw; obtain ⟨q0, q1, q2, q3, q4⟩ := h; go_simp⟩) s0 ?_
        try simp only [Act.put, List.getElem_toArray, List.getElem_cons_zero, List.getElem_cons_succ, List.setIfInBounds_toArray, List.set_cons_zero, List.set_cons_succ]
        refine wpAnyH_take (i := 16) (v := .pointer (some ⟨S, 0, none⟩)) rfl (by kernel_rfl) (by kernel_rfl) (by kernel_rfl) (fun _ _ _ h => h) (.inl ⟨by rfl, by intro w hw; go_simp⟩) s0 ?_
        try simp only [Act.put, List.getElem_toArray, List.getElem_cons_zero, List.getElem_cons_succ, List.setIfInBounds_toArray, List.set_cons_zero, List.set_cons_succ]
        refine wpAnyH_take (i := 17) (v := .pointer (some ⟨S, 0, none⟩)) rfl (by kernel_rfl) (by kernel_rfl) (by kernel_rfl) (fun _ _ _ h => h) (.inl ⟨by rfl, by intro w hw; go_simp⟩) s0 ?_
        try simp only [Act.put, List.getElem_toArray, List.getElem_cons_zero, List.getElem_cons_succ, List.setIfInBounds_toArray, List.set_cons_zero, List.set_cons_succ]
        refine wpAnyH_take (i := 18) (v := .pointer (some ⟨S, 3, none⟩)) rfl (by kernel_rfl) (by kernel_rfl) (by kernel_rfl) (fun _ _ _ h => h) (.inl ⟨by rfl, by intro w hw; go_simp⟩) s0 ?_
        try simp only [Act.put, List.getElem_toArray, List.getElem_cons_zero, List.getElem_cons_succ, List.setIfInBounds_toArray, List.set_cons_zero, List.set_cons_succ]
        refine wpAnyH_take (i := 19) (v := .pointer (some ⟨AL, 0, none⟩)) rfl (by kernel_rfl) (by kernel_rfl) (by kernel_rfl) (fun _ _ _ h => h) (.inl ⟨by rfl, by intro w hw; have h := hSS.out w hw; obtain ⟨q0, q1, q2, q3, q4⟩ := h; go_simp⟩) s0 ?_
        try simp only [Act.put, List.getElem_toArray, List.getElem_cons_zero, List.getElem_cons_succ, List.setIfInBounds_toArray, List.set_cons_zero, List.set_cons_succ]
        refine wpAnyH_one (i := 20) (by kernel_rfl) rfl (by rfl) (fun Kc hK => ?_)
        go_simp
        refine ((SZL.out).mono ?_)
        rintro en wz ⟨rfl, rfl⟩
        go_simp
        refine hK _ _ s0 ?_
        clear hK Kc
        try simp only [Act.put, List.getElem_toArray, List.getElem_cons_zero, List.getElem_cons_succ, List.setIfInBounds_toArray, List.set_cons_zero, List.set_cons_succ]
        refine wpAnyH_take (i := 21) (v := .bool false) rfl (by kernel_rfl) (by kernel_rfl) (by kernel_rfl) (fun _ _ _ h => h) (.inl ⟨by rfl, by intro w hw; go_simp; try simp [hl2]⟩) s0 ?_
        try simp only [Act.put, List.getElem_toArray, List.getElem_cons_zero, List.getElem_cons_succ, List.setIfInBounds_toArray, List.set_cons_zero, List.set_cons_succ]
        refine wpAnyH_take (i := 22) (v := .bool false) rfl (by kernel_rfl) (by kernel_rfl) (by kernel_rfl) (fun _ _ _ h => h) (.inl ⟨by rfl, by intro w hw; go_simp⟩) s0 ?_
        try simp only [Act.put, List.getElem_toArray, List.getElem_cons_zero, List.getElem_cons_succ, List.setIfInBounds_toArray, List.set_cons_zero, List.set_cons_succ]
        refine wpAnyH_done (by kernel_rfl) ?_ _
        have OD0 := O6.out.below (Below.refl _ w6).drew
        clear s0 hSS SZ0 SZL
        obtain ⟨wd, hwd⟩ : ∃ wd, w6.drew = wd := ⟨_, rfl⟩
        rw [hwd] at OD0 ⊢
        have OD := Lib.hid OD0
        clear OD0 hwd O6
        have k0 : wd.cell? ⟨S, 4, none⟩ = some (.int .i64 0) := Joins.cell_of_block OD.out.blk 4
        have kf0 : wd.frozen? ⟨S, 4, none⟩ = false := Joins.unfrozen_of_block OD.out.blk 4
        have k1 : wd.cell? ⟨S, 5, none⟩ = some (.int .i64 0) := Joins.cell_of_block OD.out.blk 5
        have kf1 : wd.frozen? ⟨S, 5, none⟩ = false := Joins.unfrozen_of_block OD.out.blk 5
        have k2 : wd.cell? ⟨S, 6, none⟩ = some (.int .i64 0) := Joins.cell_of_block OD.out.blk 6
        have kf2 : wd.frozen? ⟨S, 6, none⟩ = false := Joins.unfrozen_of_block OD.out.blk 6
        have k3 : wd.cell? ⟨S, 7, none⟩ = some (.int .i64 0) := Joins.cell_of_block OD.out.blk 7
        have kf3 : wd.frozen? ⟨S, 7, none⟩ = false := Joins.unfrozen_of_block OD.out.blk 7
        have m0 : wd.cell? ⟨w5.heap.size, 0, none⟩ = some (.int .i64 (h.slot : Int)) := Joins.cell_of_block OD.out.bx 0
        have m1 : wd.cell? ⟨w5.heap.size, 1, none⟩ = some (.int .i64 (h.long : Int)) := Joins.cell_of_block OD.out.bx 1
        have m2 : wd.cell? ⟨w5.heap.size, 2, none⟩ = some (.int .i64 (h.used : Int)) := Joins.cell_of_block OD.out.bx 2
        have m3 : wd.cell? ⟨w5.heap.size, 3, none⟩ = some (.int .i64 (h.turn : Int)) := Joins.cell_of_block OD.out.bx 3
        have hS1 : S ≠ w5.heap.size := by omega
        have hS2 : w5.heap.size ≠ S := by omega
        go_wp2_with fail
        have O7 := Lib.hid OD.out.setHead
        obtain ⟨w7, hw7⟩ : ∃ w7, (((wd.setCell ⟨S, 4, none⟩ (.int .i64 (h.slot : Int))).setCell ⟨S, 5, none⟩ (.int .i64 (h.long : Int))).setCell ⟨S, 6, none⟩ (.int .i64 (h.used : Int))).setCell ⟨S, 7, none⟩ (.int .i64 (h.turn : Int)) = w7 := ⟨_, rfl⟩
        rw [hw7] at O7 ⊢
        clear hw7 k0 k1 k2 k3 kf0 kf1 kf2 kf3 m0 m1 m2 m3 OD
        obtain ⟨A, hA, hIA, hAc⟩ : ∃ A, w.heap.size ≤ A ∧ IsArea w7 A B (1 + h.slot * N) N ∧ ∀ vc vr, (stcells B A0 A1 AL ⟨N, L, h, [], [], false⟩ vc vr)[1 + h.slot]? = some (.pointer (some ⟨A, 0, none⟩)) := by
          rcases (by omega : h.slot = 0 ∨ h.slot = 1) with h' | h'
          · exact ⟨A0, l0, by rw [h', Nat.zero_mul]; exact O7.out.a0, fun _ _ => by rw [h']; rfl⟩
          · exact ⟨A1, l1, by rw [h', Nat.one_mul]; exact O7.out.a1, fun _ _ => by rw [h']; rfl⟩
        have GT7 := Lib.hid (GTA.out w7.drew O7.out.bl.drew A (hIA.below (Below.refl _ w7).drew))
        obtain ⟨S0, hS0⟩ : ∃ S0 : World → Prop, S0 = fun w' => w'.cell? ⟨S, 1 + h.slot, none⟩ = some (.pointer (some ⟨A, 0, none⟩)) ∧ w'.heap[w5.heap.size]? = some (.cells (hcells h) 132 (0, 0)) := ⟨_, rfl⟩
        have hSS : Hid (∀ w', S0 w' → w'.cell? ⟨S, 1 + h.slot, none⟩ = some (.pointer (some ⟨A, 0, none⟩)) ∧ w'.cell? ⟨w5.heap.size, 0, none⟩ = some (.int .i64 (h.slot : Int)) ∧ w'.cell? ⟨w5.heap.size, 1, none⟩ = some (.int .i64 (h.long : Int))) := fun w' hh => by
          rw [hS0] at hh
          obtain ⟨a, c⟩ := hh
          exact ⟨a, Joins.cell_of_block c 0, Joins.cell_of_block c 1⟩
        have SK : Hid (∀ W vc (cs : List UInt8), OpS w W S B A0 A1 AL N L w5.heap.size h h vc (.slice none 0 0) cs → S0 W) := fun W vc cs o => by
          rw [hS0]
          exact ⟨(cell_of_row _ _ (1 + h.slot) _ 134 (0, 0) o.blk).trans (hAc _ _), o.bx⟩
        have SB : Hid (∀ W, Below w7.heap.size w7 W → S0 W) := fun W hb => SK.out _ _ _ (O7.out.below hb)
        have s0 : S0 w7.drew := SB.out _ (Below.refl _ w7).drew
        have hsl0 : (0 : Int) ≤ (h.slot : Int) := by omega
        have hsl2 : (h.slot : Int) < 2 := by omega
        clear hS0 hIA hAc GTA
        refine wp_region_held (S := S0) (by kernel_rfl) ?_
        change wpAnyH _ _ _ _ _ _ _ _ (World.drew _)
        refine wpAnyH_take (i := 0) (v := .pointer (some ⟨S, 0, none⟩)) rfl (by kernel_rfl) (by kernel_rfl) (by kernel_rfl) (fun _ _ _ h => h) (.inl ⟨by rfl, by intro w hw; go_simp⟩) s0 ?_
        try simp only [Act.put, List.getElem_toArray, List.getElem_cons_zero, List.getElem_cons_succ, List.setIfInBounds_toArray, List.set_cons_zero, List.set_cons_succ]
        refine wpAnyH_take (i := 1) (v := .pointer (some ⟨S, 0, none⟩)) rfl (by kernel_rfl) (by kernel_rfl) (by kernel_rfl) (fun _ _ _ h => h) (.inl ⟨by rfl, by intro w hw; go_simp⟩) s0 ?_
        try simp only [Act.put, List.getElem_toArray, List.getElem_cons_zero, List.getElem_cons_succ, List.setIfInBounds_toArray, List.set_cons_zero, List.set_cons_succ]
        refine wpAnyH_take (i := 2) (v := .pointer (some ⟨w5.heap.size, 0, none⟩)) rfl (by kernel_rfl) (by kernel_rfl) (by kernel_rfl) (fun _ _ _ h => h) (.inl ⟨by rfl, by intro w hw; go_simp⟩) s0 ?_
        try simp only [Act.put, List.getElem_toArray, List.getElem_cons_zero, List.getElem_cons_succ, List.setIfInBounds_toArray, List.set_cons_zero, List.set_cons_succ]
        refine wpAnyH_take (i := 3) (v := .int .i64 (h.slot : Int)) rfl (by kernel_rfl) (by kernel_rfl) (by kernel_rfl) (fun _ _ _ h => h) (.inl ⟨by rfl, by intro w hw; have h := hSS.out w hw; obtain ⟨q0, q1, q2⟩ := h; go_simp⟩) s0 ?_
        try simp only [Act.put, List.getElem_toArray, List.getElem_cons_zero, List.getElem_cons_succ, List.setIfInBounds_toArray, List.set_cons_zero, List.set_cons_succ]
        refine wpAnyH_take (i := 4) (v := .pointer (some ⟨S, 0, none⟩)) rfl (by kernel_rfl) (by kernel_rfl) (by kernel_rfl) (fun _ _ _ h => h) (.inl ⟨by rfl, by intro w hw; go_simp⟩) s0 ?_
        try simp only [Act.put, List.getElem_toArray, List.getElem_cons_zero, List.getElem_cons_succ, List.setIfInBounds_toArray, List.set_cons_zero, List.set_cons_succ]
        refine wpAnyH_take (i := 5) (v := .pointer (some ⟨S, 1, none⟩)) rfl (by kernel_rfl) (by kernel_rfl) (by kernel_rfl) (fun _ _ _ h => h) (.inl ⟨by rfl, by intro w hw; go_simp⟩) s0 ?_
        try simp only [Act.put, List.getElem_toArray, List.getElem_cons_zero, List.getElem_cons_succ, List.setIfInBounds_toArray, List.set_cons_zero, List.set_cons_succ]
        refine wpAnyH_take (i := 6) (v := .pointer (some ⟨S, 1 + h.slot, none⟩)) rfl (by kernel_rfl) (by kernel_rfl) (by kernel_rfl) (fun _ _ _ h => h) (.inl ⟨by rfl, by intro w hw; go_simp⟩) s0 ?_
        try simp only [Act.put, List.getElem_toArray, List.getElem_cons_zero, List.getElem_cons_succ, List.setIfInBounds_toArray, List.set_cons_zero, List.set_cons_succ]
        refine wpAnyH_take (i := 7) (v := .pointer (some ⟨A, 0, none⟩)) rfl (by kernel_rfl) (by kernel_rfl) (by kernel_rfl) (fun _ _ _ h => h) (.inl ⟨by rfl, by intro w hw; have h := hSS.out w hw; obtain ⟨q0, q1, q2⟩ := h; go_simp⟩) s0 ?_
        try simp only [Act.put, List.getElem_toArray, List.getElem_cons_zero, List.getElem_cons_succ, List.setIfInBounds_toArray, List.set_cons_zero, List.set_cons_succ]
        refine wpAnyH_take (i := 8) (v := .pointer (some ⟨w5.heap.size, 1, none⟩)) rfl (by kernel_rfl) (by kernel_rfl) (by kernel_rfl) (fun _ _ _ h => h) (.inl ⟨by rfl, by intro w hw; go_simp⟩) s0 ?_
        try simp only [Act.put, List.getElem_toArray, List.getElem_cons_zero, List.getElem_cons_succ, List.setIfInBounds_toArray, List.set_cons_zero, List.set_cons_succ]
        refine wpAnyH_take (i := 9) (v := .int .i64 (h.long : Int)) rfl (by kernel_rfl) (by kernel_rfl) (by kernel_rfl) (fun _ _ _ h => h) (.inl ⟨by rfl, by intro w hw; have h := hSS.out w hw; obtain ⟨q0, q1, q2⟩ := h; go_simp⟩) s0 ?_
        try simp only [Act.put, List.getElem_toArray, List.getElem_cons_zero, List.getElem_cons_succ, List.setIfInBounds_toArray, List.set_cons_zero, List.set_cons_succ]
        refine wpAnyH_one (i := 10) (by kernel_rfl) rfl (by rfl) (fun Kc hK => ?_)
        go_simp
        refine (GT7.out.mono ?_)
        rintro en w8 ⟨b8, v8, rfl, o8⟩
        obtain ⟨a8, c8, rfl⟩ := row_form o8
        have s8 := SB.out _ ((Below.refl _ w7).drew.trans b8)
        go_simp
        refine hK _ _ s8 ?_
        clear hK Kc
        try simp only [Act.put, List.getElem_toArray, List.getElem_cons_zero, List.getElem_cons_succ, List.setIfInBounds_toArray, List.set_cons_zero, List.set_cons_succ]
        refine wpAnyH_take (i := 11) (v := .tuple #[.slice a8 cs.length c8, .int .i64 ge]) rfl (by kernel_rfl) (by kernel_rfl) (by kernel_rfl) (fun _ _ _ h => h) (.inl ⟨by rfl, by intro w hw; go_simp⟩) s8 ?_
        try simp only [Act.put, List.getElem_toArray, List.getElem_cons_zero, List.getElem_cons_succ, List.setIfInBounds_toArray, List.set_cons_zero, List.set_cons_succ]
        refine wpAnyH_take (i := 12) (v := .slice a8 cs.length c8) rfl (by kernel_rfl) (by kernel_rfl) (by kernel_rfl) (fun _ _ _ h => h) (.inl ⟨by rfl, by intro w hw; go_simp⟩) s8 ?_
        try simp only [Act.put, List.getElem_toArray, List.getElem_cons_zero, List.getElem_cons_succ, List.setIfInBounds_toArray, List.set_cons_zero, List.set_cons_succ]
        refine wpAnyH_take (i := 13) (v := .int .i64 ge) rfl (by kernel_rfl) (by kernel_rfl) (by kernel_rfl) (fun _ _ _ h => h) (.inl ⟨by rfl, by intro w hw; go_simp⟩) s8 ?_
        try simp only [Act.put, List.getElem_toArray, List.getElem_cons_zero, List.getElem_cons_succ, List.setIfInBounds_toArray, List.set_cons_zero, List.set_cons_succ]
        refine wpAnyH_take (i := 14) (v := .pointer (some ⟨S, 0, none⟩)) rfl (by kernel_rfl) (by kernel_rfl) (by kernel_rfl) (fun _ _ _ h => h) (.inl ⟨by rfl, by intro w hw; go_simp⟩) s8 ?_
        try simp only [Act.put, List.getElem_toArray, List.getElem_cons_zero, List.getElem_cons_succ, List.setIfInBounds_toArray, List.set_cons_zero, List.set_cons_succ]
        refine wpAnyH_take (i := 15) (v := .pointer (some ⟨S, 8, none⟩)) rfl (by kernel_rfl) (by kernel_rfl) (by kernel_rfl) (fun _ _ _ h => h) (.inl ⟨by rfl, by intro w hw; go_simp⟩) s8 ?_
        try simp only [Act.put, List.getElem_toArray, List.getElem_cons_zero, List.getElem_cons_succ, List.setIfInBounds_toArray, List.set_cons_zero, List.set_cons_succ]
        refine wpAnyH_one (i := 16) (by kernel_rfl) rfl (by rfl) (fun Kc hK => ?_)
        have x8 := (b8.block S (Array.getElem?_eq_some_iff.1 (show w7.drew.heap[S]? = _ from O7.out.blk)).1).trans (show w7.drew.heap[S]? = _ from O7.out.blk)
        have k8 : w8.cell? ⟨S, 8, none⟩ = some (.slice none 0 0) := Joins.cell_of_block x8 8
        have kf8 : w8.frozen? ⟨S, 8, none⟩ = false := Joins.unfrozen_of_block x8 8
        have O9 := Lib.hid (O7.out.setCheck (cs := cs) ((Below.refl _ w7).drew.trans b8) o8)
        have s9 := SK.out _ _ _ O9.out
        clear x8
        go_simp
        refine hK _ _ s9 ?_
        clear hK Kc
        try simp only [Act.put, List.getElem_toArray, List.getElem_cons_zero, List.getElem_cons_succ, List.setIfInBounds_toArray, List.set_cons_zero, List.set_cons_succ]
        refine wpAnyH_take (i := 17) (v := .int .i64 ge) rfl (by kernel_rfl) (by kernel_rfl) (by kernel_rfl) (fun _ _ _ h => h) (.inl ⟨by rfl, by intro w hw; go_simp⟩) s9 ?_
        try simp only [Act.put, List.getElem_toArray, List.getElem_cons_zero, List.getElem_cons_succ, List.setIfInBounds_toArray, List.set_cons_zero, List.set_cons_succ]
        refine wpAnyH_done (by kernel_rfl) ?_ _
        have O9' : OpS w (w8.setCell ⟨S, 8, none⟩ (.slice a8 cs.length c8)) S B A0 A1 AL N L w5.heap.size h h (.slice a8 cs.length c8) (.slice none 0 0) cs := O9.out
        clear O9 s9 s8 SK SB s0 hSS k8 kf8 o8 b8 GT7
        obtain ⟨w9, hw9⟩ : ∃ w9, w8.setCell ⟨S, 8, none⟩ (.slice a8 cs.length c8) = w9 := ⟨_, rfl⟩
        change Exit.then _ _ _ _ (w8.setCell ⟨S, 8, none⟩ (.slice a8 cs.length c8))
        rw [hw9] at O9' ⊢
        have O9 := Lib.hid O9'
        clear O9' hw9 O7
        by_cases hge : ge = 0
        rotate_left
        · have E : Hid (ro = (none, ge)) := by have := RO2.out; rw [if_pos hge] at this; exact this
          have hb' : ((ge : Int) != 0) = true := by rw [bne_iff_ne]; exact hge
          clear hge RO2 OK1
          go_wp2_with fail
          refine bodyPost_ret (v := .tuple #[.pointer none, .int .i64 ge]) (by simp [results, Try.results68, go_sem]) rfl ?_
          exact OpenOf.none ge E.out O9.out.bl rfl
        have RO3 : Hid (ro = if fe ≠ 0 then (none, fe) else (some ⟨N, L, h, cs, R, false⟩, 0)) := by have := RO2.out; rw [if_neg (by rw [hge]; decide)] at this; exact this
        subst hge
        clear RO2
        have FR9 := Lib.hid (FRM.out w9.drew O9.out.bl.drew AL (O9.out.al.below (Below.refl _ w9).drew))
        obtain ⟨S0, hS0⟩ : ∃ S0 : World → Prop, S0 = fun w' => w'.cell? ⟨S, 3, none⟩ = some (.pointer (some ⟨AL, 0, none⟩)) ∧ w'.heap[w5.heap.size]? = some (.cells (hcells h) 132 (0, 0)) := ⟨_, rfl⟩
        have hSS : Hid (∀ w', S0 w' → w'.cell? ⟨S, 3, none⟩ = some (.pointer (some ⟨AL, 0, none⟩)) ∧ w'.cell? ⟨w5.heap.size, 2, none⟩ = some (.int .i64 (h.used : Int))) := fun w' hh => by
          rw [hS0] at hh
          obtain ⟨a, c⟩ := hh
          exact ⟨a, Joins.cell_of_block c 2⟩
        have SB : Hid (∀ W, Below w9.heap.size w9 W → S0 W) := fun W hb => by
          rw [hS0]
          exact ⟨Joins.cell_of_block (O9.out.below hb).blk 3, (O9.out.below hb).bx⟩
        have SK : Hid (∀ W, Below w9.heap.size w9 W → ∀ v, S0 (W.setCell ⟨S, 9, none⟩ v)) := fun W hb v => by
          have o := O9.out.below hb
          have q := o.frm (x' := h) (vr' := v) (Frm.setCell (F := fun k => k = S) W 9 v rfl) (Joins.block_setCell o.blk v)
          rw [hS0]
          exact ⟨Joins.cell_of_block q.blk 3, q.bx⟩
        have s0 : S0 w9.drew := SB.out _ (Below.refl _ w9).drew
        have FN : Hid (∀ (w10 : World) (v : Value), fe = 0 → Below w9.drew.heap.size w9.drew w10 → RowsOf w10 w9.drew.heap.size v R → OpenOf w B ro (.returned (.tuple #[.pointer (some ⟨S, 0, none⟩), .int .i64 0])) (w10.setCell ⟨S, 9, none⟩ v)) := fun w10 v hz hb hr => by
          obtain ⟨q1, q2⟩ := O9.out.fin ((Below.refl _ w9).drew.trans hb) hr (OK1.out hz)
          have E := RO3.out
          rw [if_neg (by rw [hz]; decide)] at E
          exact ⟨q1, .inr ⟨_, S, E, rfl, q2⟩⟩
        have FE : Hid (∀ (w10 : World) (v : Value), fe ≠ 0 → Below w9.drew.heap.size w9.drew w10 → OpenOf w B ro (.returned (.tuple #[.pointer none, .int .i64 fe])) (w10.setCell ⟨S, 9, none⟩ v)) := fun w10 v hz hb => by
          have E := RO3.out
          rw [if_pos hz] at E
          have o := O9.out.below ((Below.refl _ w9).drew.trans hb)
          exact OpenOf.none fe E (o.bl.setCell (p := ⟨S, 9, none⟩) o.ls v) rfl
        clear hS0 FRM OK1 RO3
        go_wp2_with fail
        refine wp_region_held (S := S0) (by kernel_rfl) ?_
        change wpAnyH _ _ _ _ _ _ _ _ (World.drew _)
        refine wpAnyH_take (i := 0) (v := .pointer (some ⟨S, 0, none⟩)) rfl (by kernel_rfl) (by kernel_rfl) (by kernel_rfl) (fun _ _ _ h => h) (.inl ⟨by rfl, by intro w hw; go_simp⟩) s0 ?_
        try simp only [Act.put, List.getElem_toArray, List.getElem_cons_zero, List.getElem_cons_succ, List.setIfInBounds_toArray, List.set_cons_zero, List.set_cons_succ]
        refine wpAnyH_take (i := 1) (v := .pointer (some ⟨S, 0, none⟩)) rfl (by kernel_rfl) (by kernel_rfl) (by kernel_rfl) (fun _ _ _ h => h) (.inl ⟨by rfl, by intro w hw; go_simp⟩) s0 ?_
        try simp only [Act.put, List.getElem_toArray, List.getElem_cons_zero, List.getElem_cons_succ, List.setIfInBounds_toArray, List.set_cons_zero, List.set_cons_succ]
        refine wpAnyH_take (i := 2) (v := .pointer (some ⟨S, 0, none⟩)) rfl (by kernel_rfl) (by kernel_rfl) (by kernel_rfl) (fun _ _ _ h => h) (.inl ⟨by rfl, by intro w hw; go_simp⟩) s0 ?_
        try simp only [Act.put, List.getElem_toArray, List.getElem_cons_zero, List.getElem_cons_succ, List.setIfInBounds_toArray, List.set_cons_zero, List.set_cons_succ]
        refine wpAnyH_take (i := 3) (v := .pointer (some ⟨S, 3, none⟩)) rfl (by kernel_rfl) (by kernel_rfl) (by kernel_rfl) (fun _ _ _ h => h) (.inl ⟨by rfl, by intro w hw; go_simp⟩) s0 ?_
        try simp only [Act.put, List.getElem_toArray, List.getElem_cons_zero, List.getElem_cons_succ, List.setIfInBounds_toArray, List.set_cons_zero, List.set_cons_succ]
        refine wpAnyH_take (i := 4) (v := .pointer (some ⟨AL, 0, none⟩)) rfl (by kernel_rfl) (by kernel_rfl) (by kernel_rfl) (fun _ _ _ h => h) (.inl ⟨by rfl, by intro w hw; have h := hSS.out w hw; obtain ⟨q0, q1⟩ := h; go_simp⟩) s0 ?_
        try simp only [Act.put, List.getElem_toArray, List.getElem_cons_zero, List.getElem_cons_succ, List.setIfInBounds_toArray, List.set_cons_zero, List.set_cons_succ]
        refine wpAnyH_take (i := 5) (v := .pointer (some ⟨w5.heap.size, 2, none⟩)) rfl (by kernel_rfl) (by kernel_rfl) (by kernel_rfl) (fun _ _ _ h => h) (.inl ⟨by rfl, by intro w hw; go_simp⟩) s0 ?_
        try simp only [Act.put, List.getElem_toArray, List.getElem_cons_zero, List.getElem_cons_succ, List.setIfInBounds_toArray, List.set_cons_zero, List.set_cons_succ]
        refine wpAnyH_take (i := 6) (v := .int .i64 (h.used : Int)) rfl (by kernel_rfl) (by kernel_rfl) (by kernel_rfl) (fun _ _ _ h => h) (.inl ⟨by rfl, by intro w hw; have h := hSS.out w hw; obtain ⟨q0, q1⟩ := h; go_simp⟩) s0 ?_
        try simp only [Act.put, List.getElem_toArray, List.getElem_cons_zero, List.getElem_cons_succ, List.setIfInBounds_toArray, List.set_cons_zero, List.set_cons_succ]
        refine wpAnyH_one (i := 7) (by kernel_rfl) rfl (by rfl) (fun Kc hK => ?_)
        go_simp
        refine (FR9.out.mono ?_)
        rintro en w10 ⟨b10, v10, rfl, o10⟩
        obtain ⟨a10, c10, rfl⟩ := rows_form o10
        have s10 := SB.out _ ((Below.refl _ w9).drew.trans b10)
        go_simp
        refine hK _ _ s10 ?_
        clear hK Kc
        try simp only [Act.put, List.getElem_toArray, List.getElem_cons_zero, List.getElem_cons_succ, List.setIfInBounds_toArray, List.set_cons_zero, List.set_cons_succ]
        refine wpAnyH_take (i := 8) (v := .tuple #[.slice a10 R.length c10, .int .i64 fe]) rfl (by kernel_rfl) (by kernel_rfl) (by kernel_rfl) (fun _ _ _ h => h) (.inl ⟨by rfl, by intro w hw; go_simp⟩) s10 ?_
        try simp only [Act.put, List.getElem_toArray, List.getElem_cons_zero, List.getElem_cons_succ, List.setIfInBounds_toArray, List.set_cons_zero, List.set_cons_succ]
        refine wpAnyH_take (i := 9) (v := .slice a10 R.length c10) rfl (by kernel_rfl) (by kernel_rfl) (by kernel_rfl) (fun _ _ _ h => h) (.inl ⟨by rfl, by intro w hw; go_simp⟩) s10 ?_
        try simp only [Act.put, List.getElem_toArray, List.getElem_cons_zero, List.getElem_cons_succ, List.setIfInBounds_toArray, List.set_cons_zero, List.set_cons_succ]
        refine wpAnyH_take (i := 10) (v := .int .i64 fe) rfl (by kernel_rfl) (by kernel_rfl) (by kernel_rfl) (fun _ _ _ h => h) (.inl ⟨by rfl, by intro w hw; go_simp⟩) s10 ?_
        try simp only [Act.put, List.getElem_toArray, List.getElem_cons_zero, List.getElem_cons_succ, List.setIfInBounds_toArray, List.set_cons_zero, List.set_cons_succ]
        refine wpAnyH_take (i := 11) (v := .pointer (some ⟨S, 0, none⟩)) rfl (by kernel_rfl) (by kernel_rfl) (by kernel_rfl) (fun _ _ _ h => h) (.inl ⟨by rfl, by intro w hw; go_simp⟩) s10 ?_
        try simp only [Act.put, List.getElem_toArray, List.getElem_cons_zero, List.getElem_cons_succ, List.setIfInBounds_toArray, List.set_cons_zero, List.set_cons_succ]
        refine wpAnyH_take (i := 12) (v := .pointer (some ⟨S, 9, none⟩)) rfl (by kernel_rfl) (by kernel_rfl) (by kernel_rfl) (fun _ _ _ h => h) (.inl ⟨by rfl, by intro w hw; go_simp⟩) s10 ?_
        try simp only [Act.put, List.getElem_toArray, List.getElem_cons_zero, List.getElem_cons_succ, List.setIfInBounds_toArray, List.set_cons_zero, List.set_cons_succ]
        refine wpAnyH_one (i := 13) (by kernel_rfl) rfl (by rfl) (fun Kc hK => ?_)
        have x10 := (b10.block S (Array.getElem?_eq_some_iff.1 (show w9.drew.heap[S]? = _ from O9.out.blk)).1).trans (show w9.drew.heap[S]? = _ from O9.out.blk)
        have k9 : w10.cell? ⟨S, 9, none⟩ = some (.slice none 0 0) := Joins.cell_of_block x10 9
        have kf9 : w10.frozen? ⟨S, 9, none⟩ = false := Joins.unfrozen_of_block x10 9
        have s11 := SK.out _ ((Below.refl _ w9).drew.trans b10) (.slice a10 R.length c10)
        clear x10
        go_simp
        refine hK _ _ s11 ?_
        clear hK Kc
        try simp only [Act.put, List.getElem_toArray, List.getElem_cons_zero, List.getElem_cons_succ, List.setIfInBounds_toArray, List.set_cons_zero, List.set_cons_succ]
        refine wpAnyH_take (i := 14) (v := .int .i64 fe) rfl (by kernel_rfl) (by kernel_rfl) (by kernel_rfl) (fun _ _ _ h => h) (.inl ⟨by rfl, by intro w hw; go_simp⟩) s11 ?_
        try simp only [Act.put, List.getElem_toArray, List.getElem_cons_zero, List.getElem_cons_succ, List.setIfInBounds_toArray, List.set_cons_zero, List.set_cons_succ]
        refine wpAnyH_done (by kernel_rfl) ?_ _
        by_cases hfe : fe = 0
        · have FIN := Lib.hid (FN.out w10 (.slice a10 R.length c10) hfe b10 o10)
          subst hfe
          clear FN FE s11 s10 SK SB s0 hSS FR9 o10 b10 k9 kf9
          go_wp2_with fail
          refine bodyPost_ret (v := .tuple #[.pointer (some ⟨S, 0, none⟩), .int .i64 0]) (by simp [results, Try.results68, go_sem]) rfl ?_
          exact FIN.out
        · have FIN := Lib.hid (FE.out w10 (.slice a10 R.length c10) hfe b10)
          have hb' : ((fe : Int) != 0) = true := by rw [bne_iff_ne]; exact hfe
          clear FN FE s11 s10 SK SB s0 hSS FR9 o10 b10 hfe k9 kf9
          go_wp2_with fail
          refine bodyPost_ret (v := .tuple #[.pointer none, .int .i64 fe]) (by simp [results, Try.results68, go_sem]) rfl ?_
          exact FIN.out
end Go.Proofs.Ytopemjbakpahfaa

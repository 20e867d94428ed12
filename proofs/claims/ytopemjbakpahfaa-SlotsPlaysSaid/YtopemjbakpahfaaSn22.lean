/-
  Contracts and plain laws, part 22 (texts: RA0). No condition but what each states.
-/
import Derived.Test.YtopemjbakpahfaaSn21
/-
  The reference's area in memory: Size, Fits, Of. No condition.
-/
namespace Go.Proofs.Ytopemjbakpahfaa
open Go.RowKit Disk Jour
set_option linter.unusedSimpArgs false
set_option linter.unusedVariables false
def racells (B : Nat) (first : Int) (N : Nat) : Array Value := #[.pointer (some ⟨B, 0, none⟩), .int .i64 first, .int .i64 (N : Int)]
structure IsRArea (w : World) (A B : Nat) (first : Int) (N : Nat) : Prop where
  blk : w.heap[A]? = some (.cells (racells B first N) 129 (0, 0))
  n : N ≤ 1024
  first : first ≤ 9223372036854775807
theorem IsRArea.lt {w : World} {A B : Nat} {first : Int} {N : Nat} (h : IsRArea w A B first N) : A < w.heap.size := (Array.getElem?_eq_some_iff.1 h.blk).1
theorem IsRArea.same {w w' : World} {A B : Nat} {first : Int} {N : Nat} (h : IsRArea w A B first N) (e : w'.heap[A]? = w.heap[A]?) : IsRArea w' A B first N := ⟨e.trans h.blk, h.n, h.first⟩
theorem IsRArea.below {w w' : World} {A B : Nat} {first : Int} {N : Nat} (h : IsRArea w A B first N) (hb : Below w.heap.size w w') : IsRArea w' A B first N := h.same (hb.block A h.lt)
theorem rsize_any {w : World} {A B : Nat} {first : Int} {N : Nat} (h : IsRArea w A B first N) : Calls Try.prog 58 #[.pointer (some ⟨A, 0, none⟩)] w fun en w' => en = .returned (.int .i64 (32 * (N : Int))) ∧ w = w' := by
  have c2 : w.cell? ⟨A, 2, none⟩ = some (.int .i64 (N : Int)) := Joins.cell_of_block h.blk 2
  have hn := h.n
  have hi : (N : Int) ≤ 1024 := by omega
  go_enter Try.func58, Try.ntmps58
  go_wp2
  go_ret
  exact ⟨rfl, rfl⟩
set_option maxHeartbeats 1000000 in
theorem rfits_any {w : World} {A B : Nat} {first : Int} {N : Nat} (h : IsRArea w A B first N) (p : Int) (l : List UInt8) (a : Option Addr) (cap : Nat) :
    Calls Try.prog 66 #[.pointer (some ⟨A, 0, none⟩), .int .i64 p, .slice a l.length cap] w fun en w' => en = .returned (.bool (roomB N p l.length)) ∧ w = w' := by
  have hn := h.n
  have hi : (N : Int) ≤ 1024 := by omega
  have HR : Hid (roomB N p l.length = (decide (0 ≤ p) && (decide (p ≤ 32 * (N : Int)) && decide ((l.length : Int) ≤ 32 * (N : Int) - p)))) := rfl
  generalize roomB N p l.length = r at HR
  by_cases h0 : 0 ≤ p
  · by_cases h1 : p ≤ 32 * (N : Int)
    · have hs : IntKind.i64.wrap (32 * (N : Int) - p) = 32 * (N : Int) - p := by rw [IntKind.wrap_i64]; omega
      go_enter Try.func66, Try.ntmps66
      go_wp2_with (go_at_call 58; refine (rsize_any h).mono ?_; rintro en w1 ⟨rfl, rfl⟩)
      go_ret
      exact ⟨ret_bool (by rw [HR.out, decide_eq_true h0, decide_eq_true h1]; first | rfl | simp), rfl⟩
    · go_enter Try.func66, Try.ntmps66
      go_wp2_with (go_at_call 58; refine (rsize_any h).mono ?_; rintro en w1 ⟨rfl, rfl⟩)
      go_ret
      exact ⟨ret_bool (by rw [HR.out, decide_eq_false (p := p ≤ 32 * (N : Int)) (by omega)]; first | rfl | simp), rfl⟩
  · go_enter Try.func66, Try.ntmps66
    go_wp2_with (go_at_call 58; refine (rsize_any h).mono ?_; rintro en w1 ⟨rfl, rfl⟩)
    go_ret
    exact ⟨ret_bool (by rw [HR.out, decide_eq_false (p := 0 ≤ p) (by omega)]; first | rfl | simp), rfl⟩
def ROfOf (w : World) (B : Nat) (first : Int) (N : Nat) (en : Ending) (w' : World) : Prop := ∃ A, en = .returned (.pointer (some ⟨A, 0, none⟩)) ∧ Below w.heap.size w w' ∧ w.heap.size ≤ A ∧ IsRArea w' A B first N
structure ROfI (w : World) (A B : Nat) (first sectors : Int) (n k : Nat) (wr : World) : Prop where
  bl : Below w.heap.size w wr
  blk : wr.heap[A]? = some (.cells (racells B first k) 129 (0, 0))
  le : k ≤ n
set_option maxRecDepth 100000 in
set_option maxHeartbeats 4000000 in
theorem rof_any {F : Nat → Prop} {w : World} {B : Nat} {d : Dev} (h : IsRef F w B d) (hk : d.kept.length ≤ 1024) (first sectors : Int) (hf : first ≤ 9223372036854775807) :
    Calls Try.prog 57 #[.pointer (some ⟨B, 0, none⟩), .int .i64 first, .int .i64 sectors] w (ROfOf w B first (asize first sectors d.kept.length)) := by
  obtain ⟨n, hN⟩ : ∃ n, asize first sectors d.kept.length = n := ⟨_, rfl⟩
  have H2 : Hid (n = if first < 0 then 0 else (min sectors ((d.kept.length : Int) - first)).toNat) := by show _ = _; rw [← hN]; rfl
  rw [hN]
  clear hN
  obtain ⟨A, hA⟩ : ∃ A, w.heap.size = A := ⟨_, rfl⟩
  have HA := Lib.hid hA
  by_cases h0 : first < 0
  · have h0' : ¬ 0 ≤ first := by omega
    have hn : n = 0 := by have := H2.out; rw [if_pos h0] at this; exact this
    go_enter Try.func57, Try.ntmps57
    go_wp2_with fail
    go_ret
    exact ⟨A, rfl, below_alloc w _, by rw [HA.out]; exact Nat.le_refl _, ⟨by rw [← HA.out]; exact heap_alloc_new w _, Nat.zero_le _, hf⟩⟩
  · have hf0 : 0 ≤ first := by omega
    have HN : Hid (n = (min sectors ((d.kept.length : Int) - first)).toNat) := by show _ = _; have := H2.out; rw [if_neg h0] at this; exact this
    obtain ⟨vk, vw, V⟩ := h
    obtain ⟨ak, ck, rfl⟩ := rkept_form V.kept
    have cB : w.cell? ⟨B, 0, none⟩ = some (.slice ak d.kept.length ck) := Joins.cell_of_block V.blk 0
    have hBl : B < w.heap.size := V.lt B V.f
    obtain ⟨nk, hnk⟩ : ∃ nk, d.kept.length = nk := ⟨_, rfl⟩
    rw [hnk] at cB HN hk
    have hnki : (nk : Int) ≤ 1024 := by omega
    clear V hnk
    have I0 : Hid (ROfI w A B first sectors n 0 (w.alloc (.cells (racells B first 0) 129))) := ⟨below_alloc w _, by rw [← HA.out]; exact heap_alloc_new w _, Nat.zero_le _⟩
    have CB := Lib.hid cB
    clear cB H2
    go_enter Try.func57, Try.ntmps57
    go_wp2_with fail
    go_loopw [] (fun wr => ∃ k : Nat, ROfI w A B first sectors n k wr) (fun wr => n - (intOf ((wr.cell? ⟨A, 2, none⟩).getD undef)).toNat)
    case atStart => exact ⟨0, I0.out⟩
    case round =>
      obtain ⟨k, hI⟩ := hrel
      have cA : wr.cell? ⟨A, 2, none⟩ = some (.int .i64 (k : Int)) := Joins.cell_of_block hI.blk 2
      have fA : wr.frozen? ⟨A, 2, none⟩ = false := Joins.unfrozen_of_block hI.blk 2
      have cB : wr.cell? ⟨B, 0, none⟩ = some (.slice ak nk ck) := (hI.bl.cell (p := ⟨B, 0, none⟩) hBl).trans CB.out
      obtain ⟨S, hS⟩ : ∃ S : World → Prop, S = fun w' => w'.cell? ⟨A, 2, none⟩ = some (.int .i64 (k : Int)) ∧ w'.cell? ⟨B, 0, none⟩ = some (.slice ak nk ck) := ⟨_, rfl⟩
      have hSS : Hid (∀ w', S w' → w'.cell? ⟨A, 2, none⟩ = some (.int .i64 (k : Int)) ∧ w'.cell? ⟨B, 0, none⟩ = some (.slice ak nk ck)) := fun w' h => by rw [hS] at h; exact h
      have s0 : S wr.drew := by rw [hS]; exact ⟨by simpa using cA, by simpa using cB⟩
      have HI := Lib.hid hI
      clear hS hI
      have hkn := HI.out.le
      have hfk : first + (k : Int) ≤ 9223372036854775807 := by have := HN.out; omega
      have hks : 0 ≤ first + (k : Int) := by omega
      have hw12 : IntKind.i64.wrap (first + (k : Int)) = first + (k : Int) := by rw [IntKind.wrap_i64]; omega
      have NX : Hid (k < n → ROfI w A B first sectors n (k + 1) (wr.drew.setCell ⟨A, 2, none⟩ (.int .i64 ((k : Int) + 1)))) := fun hlt => by
        have hI := HI.out
        refine ⟨?_, ?_, hlt⟩
        · exact (hI.bl.drew).trans ((Frm.setCell (F := fun j => j = A) wr.drew 2 _ rfl).below (fun j hj => by have := HA.out; omega) (by simpa using hI.bl.size))
        · have := Joins.block_setCell (i := 2) (w := wr.drew) (show wr.drew.heap[A]? = _ from hI.blk) (.int .i64 ((k : Int) + 1))
          exact this
      by_cases hs : (k : Int) < sectors
      · by_cases hb : first + (k : Int) < (nk : Int)
        · have hlt : k < n := by have := HN.out; omega
          have NXX := Lib.hid (NX.out hlt)
          clear hkn NX
          go_wp2_with fail
          refine wp_region_held (S := S) (by kernel_rfl) ?_
          change wpAnyH _ _ _ _ _ _ _ _ (World.drew _)
          refine wpAnyH_take (i := 0) (v := .pointer (some ⟨A, 0, none⟩)) rfl (by kernel_rfl) (by kernel_rfl) (by kernel_rfl) (fun _ _ _ h => h) (.inl ⟨by rfl, by intro w hw; go_simp⟩) s0 ?_
          try simp only [Act.put, List.getElem_toArray, List.getElem_cons_zero, List.getElem_cons_succ, List.setIfInBounds_toArray, List.set_cons_zero, List.set_cons_succ]
          refine wpAnyH_take (i := 1) (v := .pointer (some ⟨A, 0, none⟩)) rfl (by kernel_rfl) (by kernel_rfl) (by kernel_rfl) (fun _ _ _ h => h) (.inl ⟨by rfl, by intro w hw; go_simp⟩) s0 ?_
          try simp only [Act.put, List.getElem_toArray, List.getElem_cons_zero, List.getElem_cons_succ, List.setIfInBounds_toArray, List.set_cons_zero, List.set_cons_succ]
          refine wpAnyH_take (i := 2) (v := .pointer (some ⟨A, 2, none⟩)) rfl (by kernel_rfl) (by kernel_rfl) (by kernel_rfl) (fun _ _ _ h => h) (.inl ⟨by rfl, by intro w hw; go_simp⟩) s0 ?_
          try simp only [Act.put, List.getElem_toArray, List.getElem_cons_zero, List.getElem_cons_succ, List.setIfInBounds_toArray, List.set_cons_zero, List.set_cons_succ]
          refine wpAnyH_take (i := 3) (v := .int .i64 (k : Int)) rfl (by kernel_rfl) (by kernel_rfl) (by kernel_rfl) (fun _ _ _ h => h) (.inl ⟨by rfl, by intro w hw; have h := hSS.out w hw; obtain ⟨q0, q1⟩ := h; go_simp⟩) s0 ?_
          try simp only [Act.put, List.getElem_toArray, List.getElem_cons_zero, List.getElem_cons_succ, List.setIfInBounds_toArray, List.set_cons_zero, List.set_cons_succ]
          refine wpAnyH_take (i := 4) (v := .int .i64 sectors) rfl (by kernel_rfl) (by kernel_rfl) (by kernel_rfl) (fun _ _ _ h => h) (.inl ⟨by rfl, by intro w hw; go_simp⟩) s0 ?_
          try simp only [Act.put, List.getElem_toArray, List.getElem_cons_zero, List.getElem_cons_succ, List.setIfInBounds_toArray, List.set_cons_zero, List.set_cons_succ]
          refine wpAnyH_take (i := 5) (v := .bool true) rfl (by kernel_rfl) (by kernel_rfl) (by kernel_rfl) (fun _ _ _ h => h) (.inl ⟨by rfl, by intro w hw; go_simp⟩) s0 ?_
          try simp only [Act.put, List.getElem_toArray, List.getElem_cons_zero, List.getElem_cons_succ, List.setIfInBounds_toArray, List.set_cons_zero, List.set_cons_succ]
          refine wpAnyH_take (i := 6) (v := .bool true) rfl (by kernel_rfl) (by kernel_rfl) (by kernel_rfl) (fun _ _ _ h => h) (.inl ⟨by rfl, by intro w hw; go_simp⟩) s0 ?_
          try simp only [Act.put, List.getElem_toArray, List.getElem_cons_zero, List.getElem_cons_succ, List.setIfInBounds_toArray, List.set_cons_zero, List.set_cons_succ]
          refine wpAnyH_take (i := 7) (v := .int .i64 first) rfl (by kernel_rfl) (by kernel_rfl) (by kernel_rfl) (fun _ _ _ h => h) (.inl ⟨by rfl, by intro w hw; go_simp⟩) s0 ?_
          try simp only [Act.put, List.getElem_toArray, List.getElem_cons_zero, List.getElem_cons_succ, List.setIfInBounds_toArray, List.set_cons_zero, List.set_cons_succ]
          refine wpAnyH_take (i := 8) (v := .pointer (some ⟨A, 0, none⟩)) rfl (by kernel_rfl) (by kernel_rfl) (by kernel_rfl) (fun _ _ _ h => h) (.inl ⟨by rfl, by intro w hw; go_simp⟩) s0 ?_
          try simp only [Act.put, List.getElem_toArray, List.getElem_cons_zero, List.getElem_cons_succ, List.setIfInBounds_toArray, List.set_cons_zero, List.set_cons_succ]
          refine wpAnyH_take (i := 9) (v := .pointer (some ⟨A, 0, none⟩)) rfl (by kernel_rfl) (by kernel_rfl) (by kernel_rfl) (fun _ _ _ h => h) (.inl ⟨by rfl, by intro w hw; go_simp⟩) s0 ?_
          try simp only [Act.put, List.getElem_toArray, List.getElem_cons_zero, List.getElem_cons_succ, List.setIfInBounds_toArray, List.set_cons_zero, List.set_cons_succ]
          refine wpAnyH_take (i := 10) (v := .pointer (some ⟨A, 2, none⟩)) rfl (by kernel_rfl) (by kernel_rfl) (by kernel_rfl) (fun _ _ _ h => h) (.inl ⟨by rfl, by intro w hw; go_simp⟩) s0 ?_
          try simp only [Act.put, List.getElem_toArray, List.getElem_cons_zero, List.getElem_cons_succ, List.setIfInBounds_toArray, List.set_cons_zero, List.set_cons_succ]
          refine wpAnyH_take (i := 11) (v := .int .i64 (k : Int)) rfl (by kernel_rfl) (by kernel_rfl) (by kernel_rfl) (fun _ _ _ h => h) (.inl ⟨by rfl, by intro w hw; have h := hSS.out w hw; obtain ⟨q0, q1⟩ := h; go_simp⟩) s0 ?_
          try simp only [Act.put, List.getElem_toArray, List.getElem_cons_zero, List.getElem_cons_succ, List.setIfInBounds_toArray, List.set_cons_zero, List.set_cons_succ]
          refine wpAnyH_take (i := 12) (v := .int .i64 (first + (k : Int))) rfl (by kernel_rfl) (by kernel_rfl) (by kernel_rfl) (fun _ _ _ h => h) (.inl ⟨by rfl, by intro w hw; go_simp⟩) s0 ?_
          try simp only [Act.put, List.getElem_toArray, List.getElem_cons_zero, List.getElem_cons_succ, List.setIfInBounds_toArray, List.set_cons_zero, List.set_cons_succ]
          refine wpAnyH_take (i := 13) (v := .pointer (some ⟨B, 0, none⟩)) rfl (by kernel_rfl) (by kernel_rfl) (by kernel_rfl) (fun _ _ _ h => h) (.inl ⟨by rfl, by intro w hw; go_simp⟩) s0 ?_
          try simp only [Act.put, List.getElem_toArray, List.getElem_cons_zero, List.getElem_cons_succ, List.setIfInBounds_toArray, List.set_cons_zero, List.set_cons_succ]
          refine wpAnyH_take (i := 14) (v := .pointer (some ⟨B, 0, none⟩)) rfl (by kernel_rfl) (by kernel_rfl) (by kernel_rfl) (fun _ _ _ h => h) (.inl ⟨by rfl, by intro w hw; go_simp⟩) s0 ?_
          try simp only [Act.put, List.getElem_toArray, List.getElem_cons_zero, List.getElem_cons_succ, List.setIfInBounds_toArray, List.set_cons_zero, List.set_cons_succ]
          refine wpAnyH_take (i := 15) (v := .pointer (some ⟨B, 0, none⟩)) rfl (by kernel_rfl) (by kernel_rfl) (by kernel_rfl) (fun _ _ _ h => h) (.inl ⟨by rfl, by intro w hw; go_simp⟩) s0 ?_
          try simp only [Act.put, List.getElem_toArray, List.getElem_cons_zero, List.getElem_cons_succ, List.setIfInBounds_toArray, List.set_cons_zero, List.set_cons_succ]
          refine wpAnyH_take (i := 16) (v := .slice ak nk ck) rfl (by kernel_rfl) (by kernel_rfl) (by kernel_rfl) (fun _ _ _ h => h) (.inl ⟨by rfl, by intro w hw; have h := hSS.out w hw; obtain ⟨q0, q1⟩ := h; go_simp⟩) s0 ?_
          try simp only [Act.put, List.getElem_toArray, List.getElem_cons_zero, List.getElem_cons_succ, List.setIfInBounds_toArray, List.set_cons_zero, List.set_cons_succ]
          refine wpAnyH_take (i := 17) (v := .int .i64 (nk : Int)) rfl (by kernel_rfl) (by kernel_rfl) (by kernel_rfl) (fun _ _ _ h => h) (.inl ⟨by rfl, by intro w hw; go_simp⟩) s0 ?_
          try simp only [Act.put, List.getElem_toArray, List.getElem_cons_zero, List.getElem_cons_succ, List.setIfInBounds_toArray, List.set_cons_zero, List.set_cons_succ]
          refine wpAnyH_take (i := 18) (v := .bool true) rfl (by kernel_rfl) (by kernel_rfl) (by kernel_rfl) (fun _ _ _ h => h) (.inl ⟨by rfl, by intro w hw; go_simp⟩) s0 ?_
          try simp only [Act.put, List.getElem_toArray, List.getElem_cons_zero, List.getElem_cons_succ, List.setIfInBounds_toArray, List.set_cons_zero, List.set_cons_succ]
          refine wpAnyH_take (i := 19) (v := .bool true) rfl (by kernel_rfl) (by kernel_rfl) (by kernel_rfl) (fun _ _ _ h => h) (.inl ⟨by rfl, by intro w hw; go_simp⟩) s0 ?_
          try simp only [Act.put, List.getElem_toArray, List.getElem_cons_zero, List.getElem_cons_succ, List.setIfInBounds_toArray, List.set_cons_zero, List.set_cons_succ]
          refine wpAnyH_done (by kernel_rfl) ?_ _
          clear s0 hSS
          have cA' : wr.drew.cell? ⟨A, 2, none⟩ = some (.int .i64 (k : Int)) := by simpa using cA
          have fA' : wr.drew.frozen? ⟨A, 2, none⟩ = false := by simpa using fA
          have hk1 : (k : Int) + 1 ≤ 9223372036854775807 := by omega
          go_wp2_with fail
          go_roundw
          case rel => exact ⟨k + 1, NXX.out⟩
          case measure => rw [show (wr.setCell ⟨A, 2, none⟩ (.int .i64 ((k : Int) + 1))).drew.cell? ⟨A, 2, none⟩ = some (.int .i64 ((k + 1 : Nat) : Int)) from Joins.cell_of_block (w := (wr.setCell ⟨A, 2, none⟩ (.int .i64 ((k : Int) + 1))).drew) NXX.out.blk 2, cA]; simp only [intOf, Option.getD_some]; omega
        · have hkn' : k = n := by have := HN.out; omega
          have FIN : Hid (ROfOf w B first n (.returned (.pointer (some ⟨A, 0, none⟩))) wr.drew) := ⟨A, rfl, HI.out.bl.drew, by rw [HA.out]; exact Nat.le_refl _, ⟨by have := HI.out.blk; rw [hkn'] at this; exact this, by have := HN.out; omega, hf⟩⟩
          clear hkn hkn' NX
          go_wp2_with fail
          refine wp_region_held (S := S) (by kernel_rfl) ?_
          change wpAnyH _ _ _ _ _ _ _ _ (World.drew _)
          refine wpAnyH_take (i := 0) (v := .pointer (some ⟨A, 0, none⟩)) rfl (by kernel_rfl) (by kernel_rfl) (by kernel_rfl) (fun _ _ _ h => h) (.inl ⟨by rfl, by intro w hw; go_simp⟩) s0 ?_
          try simp only [Act.put, List.getElem_toArray, List.getElem_cons_zero, List.getElem_cons_succ, List.setIfInBounds_toArray, List.set_cons_zero, List.set_cons_succ]
          refine wpAnyH_take (i := 1) (v := .pointer (some ⟨A, 0, none⟩)) rfl (by kernel_rfl) (by kernel_rfl) (by kernel_rfl) (fun _ _ _ h => h) (.inl ⟨by rfl, by intro w hw; go_simp⟩) s0 ?_
          try simp only [Act.put, List.getElem_toArray, List.getElem_cons_zero, List.getElem_cons_succ, List.setIfInBounds_toArray, List.set_cons_zero, List.set_cons_succ]
          refine wpAnyH_take (i := 2) (v := .pointer (some ⟨A, 2, none⟩)) rfl (by kernel_rfl) (by kernel_rfl) (by kernel_rfl) (fun _ _ _ h => h) (.inl ⟨by rfl, by intro w hw; go_simp⟩) s0 ?_
          try simp only [Act.put, List.getElem_toArray, List.getElem_cons_zero, List.getElem_cons_succ, List.setIfInBounds_toArray, List.set_cons_zero, List.set_cons_succ]
          refine wpAnyH_take (i := 3) (v := .int .i64 (k : Int)) rfl (by kernel_rfl) (by kernel_rfl) (by kernel_rfl) (fun _ _ _ h => h) (.inl ⟨by rfl, by intro w hw; have h := hSS.out w hw; obtain ⟨q0, q1⟩ := h; go_simp⟩) s0 ?_
          try simp only [Act.put, List.getElem_toArray, List.getElem_cons_zero, List.getElem_cons_succ, List.setIfInBounds_toArray, List.set_cons_zero, List.set_cons_succ]
          refine wpAnyH_take (i := 4) (v := .int .i64 sectors) rfl (by kernel_rfl) (by kernel_rfl) (by kernel_rfl) (fun _ _ _ h => h) (.inl ⟨by rfl, by intro w hw; go_simp⟩) s0 ?_
          try simp only [Act.put, List.getElem_toArray, List.getElem_cons_zero, List.getElem_cons_succ, List.setIfInBounds_toArray, List.set_cons_zero, List.set_cons_succ]
          refine wpAnyH_take (i := 5) (v := .bool true) rfl (by kernel_rfl) (by kernel_rfl) (by kernel_rfl) (fun _ _ _ h => h) (.inl ⟨by rfl, by intro w hw; go_simp⟩) s0 ?_
          try simp only [Act.put, List.getElem_toArray, List.getElem_cons_zero, List.getElem_cons_succ, List.setIfInBounds_toArray, List.set_cons_zero, List.set_cons_succ]
          refine wpAnyH_take (i := 6) (v := .bool true) rfl (by kernel_rfl) (by kernel_rfl) (by kernel_rfl) (fun _ _ _ h => h) (.inl ⟨by rfl, by intro w hw; go_simp⟩) s0 ?_
          try simp only [Act.put, List.getElem_toArray, List.getElem_cons_zero, List.getElem_cons_succ, List.setIfInBounds_toArray, List.set_cons_zero, List.set_cons_succ]
          refine wpAnyH_take (i := 7) (v := .int .i64 first) rfl (by kernel_rfl) (by kernel_rfl) (by kernel_rfl) (fun _ _ _ h => h) (.inl ⟨by rfl, by intro w hw; go_simp⟩) s0 ?_
          try simp only [Act.put, List.getElem_toArray, List.getElem_cons_zero, List.getElem_cons_succ, List.setIfInBounds_toArray, List.set_cons_zero, List.set_cons_succ]
          refine wpAnyH_take (i := 8) (v := .pointer (some ⟨A, 0, none⟩)) rfl (by kernel_rfl) (by kernel_rfl) (by kernel_rfl) (fun _ _ _ h => h) (.inl ⟨by rfl, by intro w hw; go_simp⟩) s0 ?_
          try simp only [Act.put, List.getElem_toArray, List.getElem_cons_zero, List.getElem_cons_succ, List.setIfInBounds_toArray, List.set_cons_zero, List.set_cons_succ]
          refine wpAnyH_take (i := 9) (v := .pointer (some ⟨A, 0, none⟩)) rfl (by kernel_rfl) (by kernel_rfl) (by kernel_rfl) (fun _ _ _ h => h) (.inl ⟨by rfl, by intro w hw; go_simp⟩) s0 ?_
          try simp only [Act.put, List.getElem_toArray, List.getElem_cons_zero, List.getElem_cons_succ, List.setIfInBounds_toArray, List.set_cons_zero, List.set_cons_succ]
          refine wpAnyH_take (i := 10) (v := .pointer (some ⟨A, 2, none⟩)) rfl (by kernel_rfl) (by kernel_rfl) (by kernel_rfl) (fun _ _ _ h => h) (.inl ⟨by rfl, by intro w hw; go_simp⟩) s0 ?_
          try simp only [Act.put, List.getElem_toArray, List.getElem_cons_zero, List.getElem_cons_succ, List.setIfInBounds_toArray, List.set_cons_zero, List.set_cons_succ]
          refine wpAnyH_take (i := 11) (v := .int .i64 (k : Int)) rfl (by kernel_rfl) (by kernel_rfl) (by kernel_rfl) (fun _ _ _ h => h) (.inl ⟨by rfl, by intro w hw; have h := hSS.out w hw; obtain ⟨q0, q1⟩ := h; go_simp⟩) s0 ?_
          try simp only [Act.put, List.getElem_toArray, List.getElem_cons_zero, List.getElem_cons_succ, List.setIfInBounds_toArray, List.set_cons_zero, List.set_cons_succ]
          refine wpAnyH_take (i := 12) (v := .int .i64 (first + (k : Int))) rfl (by kernel_rfl) (by kernel_rfl) (by kernel_rfl) (fun _ _ _ h => h) (.inl ⟨by rfl, by intro w hw; go_simp⟩) s0 ?_
          try simp only [Act.put, List.getElem_toArray, List.getElem_cons_zero, List.getElem_cons_succ, List.setIfInBounds_toArray, List.set_cons_zero, List.set_cons_succ]
          refine wpAnyH_take (i := 13) (v := .pointer (some ⟨B, 0, none⟩)) rfl (by kernel_rfl) (by kernel_rfl) (by kernel_rfl) (fun _ _ _ h => h) (.inl ⟨by rfl, by intro w hw; go_simp⟩) s0 ?_
          try simp only [Act.put, List.getElem_toArray, List.getElem_cons_zero, List.getElem_cons_succ, List.setIfInBounds_toArray, List.set_cons_zero, List.set_cons_succ]
          refine wpAnyH_take (i := 14) (v := .pointer (some ⟨B, 0, none⟩)) rfl (by kernel_rfl) (by kernel_rfl) (by kernel_rfl) (fun _ _ _ h => h) (.inl ⟨by rfl, by intro w hw; go_simp⟩) s0 ?_
          try simp only [Act.put, List.getElem_toArray, List.getElem_cons_zero, List.getElem_cons_succ, List.setIfInBounds_toArray, List.set_cons_zero, List.set_cons_succ]
          refine wpAnyH_take (i := 15) (v := .pointer (some ⟨B, 0, none⟩)) rfl (by kernel_rfl) (by kernel_rfl) (by kernel_rfl) (fun _ _ _ h => h) (.inl ⟨by rfl, by intro w hw; go_simp⟩) s0 ?_
          try simp only [Act.put, List.getElem_toArray, List.getElem_cons_zero, List.getElem_cons_succ, List.setIfInBounds_toArray, List.set_cons_zero, List.set_cons_succ]
          refine wpAnyH_take (i := 16) (v := .slice ak nk ck) rfl (by kernel_rfl) (by kernel_rfl) (by kernel_rfl) (fun _ _ _ h => h) (.inl ⟨by rfl, by intro w hw; have h := hSS.out w hw; obtain ⟨q0, q1⟩ := h; go_simp⟩) s0 ?_
          try simp only [Act.put, List.getElem_toArray, List.getElem_cons_zero, List.getElem_cons_succ, List.setIfInBounds_toArray, List.set_cons_zero, List.set_cons_succ]
          refine wpAnyH_take (i := 17) (v := .int .i64 (nk : Int)) rfl (by kernel_rfl) (by kernel_rfl) (by kernel_rfl) (fun _ _ _ h => h) (.inl ⟨by rfl, by intro w hw; go_simp⟩) s0 ?_
          try simp only [Act.put, List.getElem_toArray, List.getElem_cons_zero, List.getElem_cons_succ, List.setIfInBounds_toArray, List.set_cons_zero, List.set_cons_succ]
          refine wpAnyH_take (i := 18) (v := .bool false) rfl (by kernel_rfl) (by kernel_rfl) (by kernel_rfl) (fun _ _ _ h => h) (.inl ⟨by rfl, by intro w hw; go_simp⟩) s0 ?_
          try simp only [Act.put, List.getElem_toArray, List.getElem_cons_zero, List.getElem_cons_succ, List.setIfInBounds_toArray, List.set_cons_zero, List.set_cons_succ]
          refine wpAnyH_take (i := 19) (v := .bool false) rfl (by kernel_rfl) (by kernel_rfl) (by kernel_rfl) (fun _ _ _ h => h) (.inl ⟨by rfl, by intro w hw; go_simp⟩) s0 ?_
          try simp only [Act.put, List.getElem_toArray, List.getElem_cons_zero, List.getElem_cons_succ, List.setIfInBounds_toArray, List.set_cons_zero, List.set_cons_succ]
          refine wpAnyH_done (by kernel_rfl) ?_ _
          clear s0 hSS
          go_wp2
          go_ret
          exact FIN.out
      · have hkn' : k = n := by have := HN.out; omega
        have FIN : Hid (ROfOf w B first n (.returned (.pointer (some ⟨A, 0, none⟩))) wr.drew) := ⟨A, rfl, HI.out.bl.drew, by rw [HA.out]; exact Nat.le_refl _, ⟨by have := HI.out.blk; rw [hkn'] at this; exact this, by have := HN.out; omega, hf⟩⟩
        clear hkn hkn' NX
        go_wp2_with fail
        refine wp_region_held (S := S) (by kernel_rfl) ?_
        change wpAnyH _ _ _ _ _ _ _ _ (World.drew _)
        refine wpAnyH_take (i := 0) (v := .pointer (some ⟨A, 0, none⟩)) rfl (by kernel_rfl) (by kernel_rfl) (by kernel_rfl) (fun _ _ _ h => h) (.inl ⟨by rfl, by intro w hw; go_simp⟩) s0 ?_
        try simp only [Act.put, List.getElem_toArray, List.getElem_cons_zero, List.getElem_cons_succ, List.setIfInBounds_toArray, List.set_cons_zero, List.set_cons_succ]
        refine wpAnyH_take (i := 1) (v := .pointer (some ⟨A, 0, none⟩)) rfl (by kernel_rfl) (by kernel_rfl) (by kernel_rfl) (fun _ _ _ h => h) (.inl ⟨by rfl, by intro w hw; go_simp⟩) s0 ?_
        try simp only [Act.put, List.getElem_toArray, List.getElem_cons_zero, List.getElem_cons_succ, List.setIfInBounds_toArray, List.set_cons_zero, List.set_cons_succ]
        refine wpAnyH_take (i := 2) (v := .pointer (some ⟨A, 2, none⟩)) rfl (by kernel_rfl) (by kernel_rfl) (by kernel_rfl) (fun _ _ _ h => h) (.inl ⟨by rfl, by intro w hw; go_simp⟩) s0 ?_
        try simp only [Act.put, List.getElem_toArray, List.getElem_cons_zero, List.getElem_cons_succ, List.setIfInBounds_toArray, List.set_cons_zero, List.set_cons_succ]
        refine wpAnyH_take (i := 3) (v := .int .i64 (k : Int)) rfl (by kernel_rfl) (by kernel_rfl) (by kernel_rfl) (fun _ _ _ h => h) (.inl ⟨by rfl, by intro w hw; have h := hSS.out w hw; obtain ⟨q0, q1⟩ := h; go_simp⟩) s0 ?_
        try simp only [Act.put, List.getElem_toArray, List.getElem_cons_zero, List.getElem_cons_succ, List.setIfInBounds_toArray, List.set_cons_zero, List.set_cons_succ]
        refine wpAnyH_take (i := 4) (v := .int .i64 sectors) rfl (by kernel_rfl) (by kernel_rfl) (by kernel_rfl) (fun _ _ _ h => h) (.inl ⟨by rfl, by intro w hw; go_simp⟩) s0 ?_
        try simp only [Act.put, List.getElem_toArray, List.getElem_cons_zero, List.getElem_cons_succ, List.setIfInBounds_toArray, List.set_cons_zero, List.set_cons_succ]
        refine wpAnyH_take (i := 5) (v := .bool false) rfl (by kernel_rfl) (by kernel_rfl) (by kernel_rfl) (fun _ _ _ h => h) (.inl ⟨by rfl, by intro w hw; go_simp⟩) s0 ?_
        try simp only [Act.put, List.getElem_toArray, List.getElem_cons_zero, List.getElem_cons_succ, List.setIfInBounds_toArray, List.set_cons_zero, List.set_cons_succ]
        refine wpAnyH_take (i := 6) (v := .bool false) rfl (by kernel_rfl) (by kernel_rfl) (by kernel_rfl) (fun _ _ _ h => h) (.inl ⟨by rfl, by intro w hw; go_simp⟩) s0 ?_
        try simp only [Act.put, List.getElem_toArray, List.getElem_cons_zero, List.getElem_cons_succ, List.setIfInBounds_toArray, List.set_cons_zero, List.set_cons_succ]
        refine wpAnyH_take (i := 7) (v := undef) rfl (by kernel_rfl) (by kernel_rfl) (by kernel_rfl) (fun _ _ _ h => h) (.inr ⟨by rfl, rfl⟩) s0 ?_
        try simp only [Act.put, List.getElem_toArray, List.getElem_cons_zero, List.getElem_cons_succ, List.setIfInBounds_toArray, List.set_cons_zero, List.set_cons_succ]
        refine wpAnyH_take (i := 8) (v := undef) rfl (by kernel_rfl) (by kernel_rfl) (by kernel_rfl) (fun _ _ _ h => h) (.inr ⟨by rfl, rfl⟩) s0 ?_
        try simp only [Act.put, List.getElem_toArray, List.getElem_cons_zero, List.getElem_cons_succ, List.setIfInBounds_toArray, List.set_cons_zero, List.set_cons_succ]
        refine wpAnyH_take (i := 9) (v := undef) rfl (by kernel_rfl) (by kernel_rfl) (by kernel_rfl) (fun _ _ _ h => h) (.inr ⟨by rfl, rfl⟩) s0 ?_
        try simp only [Act.put, List.getElem_toArray, List.getElem_cons_zero, List.getElem_cons_succ, List.setIfInBounds_toArray, List.set_cons_zero, List.set_cons_succ]
        refine wpAnyH_take (i := 10) (v := undef) rfl (by kernel_rfl) (by kernel_rfl) (by kernel_rfl) (fun _ _ _ h => h) (.inr ⟨by rfl, rfl⟩) s0 ?_
        try simp only [Act.put, List.getElem_toArray, List.getElem_cons_zero, List.getElem_cons_succ, List.setIfInBounds_toArray, List.set_cons_zero, List.set_cons_succ]
        refine wpAnyH_take (i := 11) (v := undef) rfl (by kernel_rfl) (by kernel_rfl) (by kernel_rfl) (fun _ _ _ h => h) (.inr ⟨by rfl, rfl⟩) s0 ?_
        try simp only [Act.put, List.getElem_toArray, List.getElem_cons_zero, List.getElem_cons_succ, List.setIfInBounds_toArray, List.set_cons_zero, List.set_cons_succ]
        refine wpAnyH_take (i := 12) (v := undef) rfl (by kernel_rfl) (by kernel_rfl) (by kernel_rfl) (fun _ _ _ h => h) (.inr ⟨by rfl, rfl⟩) s0 ?_
        try simp only [Act.put, List.getElem_toArray, List.getElem_cons_zero, List.getElem_cons_succ, List.setIfInBounds_toArray, List.set_cons_zero, List.set_cons_succ]
        refine wpAnyH_take (i := 13) (v := undef) rfl (by kernel_rfl) (by kernel_rfl) (by kernel_rfl) (fun _ _ _ h => h) (.inr ⟨by rfl, rfl⟩) s0 ?_
        try simp only [Act.put, List.getElem_toArray, List.getElem_cons_zero, List.getElem_cons_succ, List.setIfInBounds_toArray, List.set_cons_zero, List.set_cons_succ]
        refine wpAnyH_take (i := 14) (v := undef) rfl (by kernel_rfl) (by kernel_rfl) (by kernel_rfl) (fun _ _ _ h => h) (.inr ⟨by rfl, rfl⟩) s0 ?_
        try simp only [Act.put, List.getElem_toArray, List.getElem_cons_zero, List.getElem_cons_succ, List.setIfInBounds_toArray, List.set_cons_zero, List.set_cons_succ]
        refine wpAnyH_take (i := 15) (v := undef) rfl (by kernel_rfl) (by kernel_rfl) (by kernel_rfl) (fun _ _ _ h => h) (.inr ⟨by rfl, rfl⟩) s0 ?_
        try simp only [Act.put, List.getElem_toArray, List.getElem_cons_zero, List.getElem_cons_succ, List.setIfInBounds_toArray, List.set_cons_zero, List.set_cons_succ]
        refine wpAnyH_take (i := 16) (v := undef) rfl (by kernel_rfl) (by kernel_rfl) (by kernel_rfl) (fun _ _ _ h => h) (.inr ⟨by rfl, rfl⟩) s0 ?_
        try simp only [Act.put, List.getElem_toArray, List.getElem_cons_zero, List.getElem_cons_succ, List.setIfInBounds_toArray, List.set_cons_zero, List.set_cons_succ]
        refine wpAnyH_take (i := 17) (v := undef) rfl (by kernel_rfl) (by kernel_rfl) (by kernel_rfl) (fun _ _ _ h => h) (.inr ⟨by rfl, rfl⟩) s0 ?_
        try simp only [Act.put, List.getElem_toArray, List.getElem_cons_zero, List.getElem_cons_succ, List.setIfInBounds_toArray, List.set_cons_zero, List.set_cons_succ]
        refine wpAnyH_take (i := 18) (v := undef) rfl (by kernel_rfl) (by kernel_rfl) (by kernel_rfl) (fun _ _ _ h => h) (.inr ⟨by rfl, rfl⟩) s0 ?_
        try simp only [Act.put, List.getElem_toArray, List.getElem_cons_zero, List.getElem_cons_succ, List.setIfInBounds_toArray, List.set_cons_zero, List.set_cons_succ]
        refine wpAnyH_take (i := 19) (v := .bool false) rfl (by kernel_rfl) (by kernel_rfl) (by kernel_rfl) (fun _ _ _ h => h) (.inl ⟨by rfl, by intro w hw; go_simp⟩) s0 ?_
        try simp only [Act.put, List.getElem_toArray, List.getElem_cons_zero, List.getElem_cons_succ, List.setIfInBounds_toArray, List.set_cons_zero, List.set_cons_succ]
        refine wpAnyH_done (by kernel_rfl) ?_ _
        clear s0 hSS
        go_wp2
        go_ret
        exact FIN.out
end Go.Proofs.Ytopemjbakpahfaa

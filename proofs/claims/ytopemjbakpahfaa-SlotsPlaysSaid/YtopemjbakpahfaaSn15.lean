/-
  Contracts and plain laws, part 15 (texts: Ref1). No condition but what each states.
-/
import Derived.Test.YtopemjbakpahfaaSn14
/-
  The reference's Read: for every place. No condition but that its numbers are small.
-/
namespace Go.Proofs.Ytopemjbakpahfaa
open Go.RowKit Disk
theorem there_ask {d : Dev} {k : Int} (hd : d.down = false) : d.ask k = if thereB d k = true then 0 else 1 := by
  unfold Dev.ask thereB
  rw [hd, if_neg (by simp)]
  by_cases h : k < 0 ∨ (d.kept.length : Int) ≤ k
  · rw [if_pos h, if_neg (by simp; omega)]
  · rw [if_neg h, if_pos (by simp; omega)]
theorem wcells_get : ∀ (ps : List (Nat × List UInt8)) (us : List Value) (i : Nat) (p : Nat × List UInt8) (u : Value), ps[i]? = some p → us[i]? = some u → (wcells ps us)[i * 2]? = some (.int .i64 (p.1 : Int)) ∧ (wcells ps us)[i * 2 + 1]? = some u := by
  intro ps
  induction ps with
  | nil => intro us i p u h; simp at h
  | cons q ps ih =>
    intro us i p u h1 h2
    cases us with
    | nil => simp at h2
    | cons v us =>
      cases i with
      | zero => simp at h1 h2; subst h1 h2; exact ⟨rfl, rfl⟩
      | succ i =>
        simp at h1 h2
        have := ih us i p u h1 h2
        rw [show (i + 1) * 2 = i * 2 + 1 + 1 by omega]
        exact this
/-- A pending write of the reference, where it lies. -/
theorem rwait_at {F : Nat → Prop} {w : World} {v : Value} {ps : List (Nat × List UInt8)} (h : RWait F w v ps) {i : Nat} {p : Nat × List UInt8} (hi : ps[i]? = some p) :
    ∃ g c u, v = .slice (some ⟨g, 0, none⟩) ps.length c ∧ w.cell? ⟨g, i * 2, none⟩ = some (.int .i64 (p.1 : Int)) ∧ w.cell? ⟨g, i * 2 + 1, none⟩ = some u ∧ Row5 F w u p.2 := by
  obtain ⟨us, h0, h1, h2⟩ := h.ex
  obtain ⟨u, hu, h5⟩ := h2 i p hi
  have hl : i < ps.length := (List.getElem?_eq_some_iff.1 hi).1
  have hw := wcells_get ps us i p u hi hu
  rcases h1.2 with ⟨rfl, h0⟩ | ⟨g, cap, cur, rfl, _⟩
  · omega
  · refine ⟨g, cap, u, rfl, ?_, ?_, h5⟩
    · have := h1.cells (g := g) rfl (i * 2) _ hw.1
      rw [Addr.add_lit] at this; simpa using this
    · have := h1.cells (g := g) rfl (i * 2 + 1) _ hw.2
      rw [Addr.add_lit] at this; simpa using this
theorem rkept_at {F : Nat → Prop} {w : World} {v : Value} {l : List (List UInt8)} (h : RKept F w v l) {i : Nat} (hi : i < l.length) :
    ∃ g c u, v = .slice (some ⟨g, 0, none⟩) l.length c ∧ w.cell? ⟨g, i, none⟩ = some u ∧ Row5 F w u (l.getD i []) := by
  obtain ⟨vs, h1, h2⟩ := h.ex
  obtain ⟨u, hu, h5⟩ := h2 i hi
  rcases h1.2 with ⟨rfl, h0⟩ | ⟨g, cap, cur, rfl, _⟩
  · omega
  · refine ⟨g, cap, u, rfl, ?_, h5⟩
    have := h1.cells (g := g) rfl i _ hu
    rw [Addr.add_lit] at this; simpa using this
theorem overs_take {k : Nat} {ps : List (Nat × List UInt8)} {s : List UInt8} {i : Nat} {p : Nat × List UInt8} (h : ps[i]? = some p) : (ps.take (i + 1)).foldl (over k) s = over k ((ps.take i).foldl (over k) s) p := by
  have hl : i < ps.length := (List.getElem?_eq_some_iff.1 h).1
  have e : ps[i] = p := by rw [List.getElem?_eq_getElem hl] at h; simpa using h
  rw [List.take_succ_eq_append_getElem hl, e, List.foldl_append]; rfl
theorem row5_rb {F : Nat → Prop} {w : World} {v : Value} {l : List UInt8} (h : Row5 F w v l) : ∃ g, v = .slice (some ⟨g, 0, none⟩) 32 32 ∧ RB w (some ⟨g, 0, none⟩) l := by
  obtain ⟨g, rfl, _, h3⟩ := h
  refine ⟨g, rfl, fun i hi => ⟨g, 0, rfl, (Array.getElem?_eq_some_iff.1 h3).1, ?_⟩⟩
  rw [Nat.zero_add, Joins.cell_of_block h3 i]
  simp [List.getD, hi]
set_option maxRecDepth 100000 in
set_option maxHeartbeats 2000000 in
theorem rread_any {F : Nat → Prop} {w : World} {B : Nat} {d : Dev} (h : IsRef F w B d) (k : Int) (hp : d.pend.length ≤ 100000) : Calls Try.prog 44 #[.pointer (some ⟨B, 0, none⟩), .int .i64 k] w (GetOf w (d.read k)) := by
  have HH := Lib.hid h
  obtain ⟨vk, vw, h⟩ := h
  have NIL := Lib.hid (getOf_nil w)
  have hok := h.ok
  obtain ⟨aw, cw, rfl⟩ := rwait_form h.wait
  have c0 : w.cell? ⟨B, 0, none⟩ = some vk := Joins.cell_of_block h.blk 0
  have c1 : w.cell? ⟨B, 1, none⟩ = some (.slice aw d.pend.length cw) := Joins.cell_of_block h.blk 1
  have c2 : w.cell? ⟨B, 2, none⟩ = some (.bool d.down) := Joins.cell_of_block h.blk 2
  cases hd : d.down
  rotate_left
  · have hr : d.read k = ([], 14) := by unfold Dev.read Dev.ask; rw [hd]; rfl
    rw [hr]
    rw [hd] at c2
    clear hr
    go_enter Try.func44, Try.ntmps44
    go_wp2
    go_ret2
    exact NIL.out _ _ 14 (Below.refl _ _) rfl
  rw [hd] at c2
  have hask := there_ask (k := k) hd
  cases ht : thereB d k
  · have hr : d.read k = ([], 1) := by unfold Dev.read; rw [hask, ht]; rfl
    rw [hr]
    clear hr hask hd
    go_enter Try.func44, Try.ntmps44
    go_wp2_with (go_at_call 90; refine (there_any HH.out k).mono ?_; rw [ht]; rintro en w1 ⟨rfl, rfl⟩)
    go_ret2
    exact NIL.out _ _ 1 (Below.refl _ _) rfl
  have hr : d.read k = (d.sector k.toNat, 0) := by unfold Dev.read; rw [hask, ht]; rfl
  have hkk : 0 ≤ k ∧ k < (d.kept.length : Int) := by unfold thereB at ht; simp at ht; exact ht
  obtain ⟨q, rfl⟩ : ∃ q : Nat, k = (q : Int) := ⟨k.toNat, by omega⟩
  rw [hr, Int.toNat_natCast]
  have hq : q < d.kept.length := by omega
  obtain ⟨gk, ck, u0, rfl, cu, r0⟩ := rkept_at h.kept hq
  have h32 : ∀ p ∈ d.pend, p.2.length = 32 := fun p hp => (h.ok.2 p hp).2
  have hk32 := h.ok.1 q hq
  have HS : Hid (d.sector q = d.pend.foldl (over q) (d.kept.getD q [])) := rfl
  have HW := Lib.hid h.wait
  generalize d.kept.getD q [] = s0 at r0 hk32 HS
  generalize d.sector q = sq at HS ⊢
  have HO := Lib.hid (fun i : Nat => over_length (ps := d.pend.take i) q (fun p hp => h32 p (List.mem_of_mem_take hp)) hk32)
  have R0 := Lib.hid r0
  clear hr hask hd r0 hok h hkk h32 hk32
  have hq0 : (0 : Int) ≤ (q : Int) := by omega
  have hqi : (q : Int) < (d.kept.length : Int) := by omega
  go_enter Try.func44, Try.ntmps44
  go_wp2_with (go_at_call 90; refine (there_any HH.out (q : Int)).mono ?_; rw [ht]; rintro en w1 ⟨rfl, rfl⟩)
  go_loop [6, 7] (fun bv iv => ∃ i : Nat, iv = .int .i64 i ∧ i ≤ d.pend.length ∧ Row5 F w bv ((d.pend.take i).foldl (over q) s0)) (fun _ iv => d.pend.length - (intOf iv).toNat)
  case atStart => exact ⟨0, rfl, Nat.zero_le _, R0.out⟩
  case round =>
    obtain ⟨i, rfl, hi, hrow⟩ := hrel
    have HR := Lib.hid hrow
    clear hrow
    by_cases hlt : i < d.pend.length
    · have hi0 : (0 : Int) ≤ (i : Int) := by omega
      have hii : (i : Int) < (d.pend.length : Int) := by omega
      obtain ⟨p, hpi⟩ : ∃ p, d.pend[i]? = some p := ⟨_, List.getElem?_eq_getElem hlt⟩
      obtain ⟨gw, c, u, e, e1, e2, e3⟩ := rwait_at HW.out hpi
      simp only [Value.slice.injEq] at e
      obtain ⟨rfl, _, rfl⟩ := e
      have HT := Lib.hid (overs_take (k := q) (s := s0) hpi)
      have E3 := Lib.hid e3
      clear e3 hpi
      by_cases hpq : p.1 = q
      · have hb : ((p.1 : Int) == (q : Int)) = true := by rw [hpq]; simp
        have HPQ := Lib.hid hpq
        clear hpq
        go_wp2
        go_round
        case rel => exact ⟨i + 1, rfl, hlt, by rw [HT.out]; unfold over; rw [if_pos HPQ.out]; exact E3.out⟩
        case measure => simp only [intOf]; omega
      · have hb : ((p.1 : Int) == (q : Int)) = false := by rw [beq_eq_false_iff_ne]; omega
        go_wp2
        go_round
        case rel => exact ⟨i + 1, rfl, hlt, by rw [HT.out]; unfold over; rw [if_neg hpq]; exact HR.out⟩
        case measure => simp only [intOf]; omega
    · have hii : ¬ (i : Int) < (d.pend.length : Int) := by omega
      obtain rfl : i = d.pend.length := by omega
      have hrow := HR.out
      have hl := HO.out d.pend.length
      rw [List.take_length, ← HS.out] at hrow hl
      obtain ⟨g, rfl, rb⟩ := row5_rb hrow
      have RBB := Lib.hid rb
      have HL := Lib.hid hl
      clear rb hrow hl
      go_wp2_with (at_builtin; refine app_bytes rfl (.tmp 50) (.tmp 51) rfl w.heap.size _ [] sq 32 rfl (owns_bytes w [] _ _ _ rfl (Nat.le_refl _) rfl (by decide)) (some ⟨g, 0, none⟩) (by rw [HL.out]; rfl) (fun e => by cases e) (RBB.out.alloc _) (by rw [HL.out]; decide) (by simp) ?_; intro v2 w2 o2 b2 _; have B2 := (below_alloc w _).trans b2)
      go_ret2
      exact ⟨B2, _, rfl, o2⟩
end Go.Proofs.Ytopemjbakpahfaa

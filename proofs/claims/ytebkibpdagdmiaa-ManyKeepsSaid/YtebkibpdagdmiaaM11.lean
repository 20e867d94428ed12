/-
  Slices of numbers as plain lists, and that two of the same numbers are told alike. No condition.
-/
import Derived.Test.YtebkibpdagdmiaaM10
import Derived.Test.YtebkibpdagdmiaaPlain2
namespace Go.Proofs.Ytebkibpdagdmiaa
open Go.RowKit
/-- The slice at a reads as these numbers. -/
def Reads (q : IntKind) (w : World) (a : Option Addr) (xs : List Int) : Prop :=
  ∀ i, i < xs.length → ∃ g off, a = some ⟨g, off, none⟩ ∧ g < w.heap.size ∧ w.cell? ⟨g, off + i, none⟩ = some (.int q (xs.getD i 0))
theorem Reads.below {q : IntKind} {w w1 : World} {a : Option Addr} {xs : List Int} (h : Reads q w a xs) (hb : Below w.heap.size w w1) : Reads q w1 a xs := by
  intro i hi
  obtain ⟨g, off, e, hg, hc⟩ := h i hi
  exact ⟨g, off, e, Nat.lt_of_lt_of_le hg hb.size, (hb.cell (p := ⟨g, off + i, none⟩) hg).trans hc⟩
theorem IsRow.reads {q : IntKind} {w : World} {a : Option Addr} {len cap : Nat} {zs : List Int} (h : IsRow q w a len cap zs) : len = (zs.take len).length ∧ Reads q w a (zs.take len) := by
  have hl : len = (zs.take len).length := by
    rcases h with ⟨_, rfl, _, rfl⟩ | ⟨x, _, h1, _, h3, _, _⟩
    · rfl
    · simp; omega
  refine ⟨hl, fun i hi => ?_⟩
  obtain ⟨g, off, e, hc⟩ := row_cell h (k := i) (by omega)
  refine ⟨g, off, e, World.block_lt_of_cell? w _ hc, ?_⟩
  rw [hc]
  simp at hi
  simp [List.getD, show i < len by omega]
theorem Reads.take {q : IntKind} {w : World} {a : Option Addr} {xs : List Int} (h : Reads q w a xs) (k : Nat) : Reads q w a (xs.take k) := by
  intro i hi
  simp at hi
  obtain ⟨g, off, e, hg, hc⟩ := h i (by omega)
  refine ⟨g, off, e, hg, ?_⟩
  rw [hc]
  simp [List.getD, show i < k by omega]
theorem Reads.of_owns {q : IntKind} {w : World} {base : Nat} {t : TypeId} {v : Value} {xs : List Int} (h : w.ownsRow base t 1 v xs.length (xs.map (.int q))) : ∃ a cap, v = .slice a xs.length cap ∧ Reads q w a xs := by
  rcases h.2 with ⟨rfl, h0⟩ | ⟨g, cap, cur, rfl, hg, hh, h1, h2, h3, h4⟩
  · refine ⟨none, 0, by rw [h0], fun i hi => by omega⟩
  · refine ⟨_, _, rfl, fun i hi => ⟨g, 0, rfl, lt_of_block hh, ?_⟩⟩
    rw [Nat.zero_add, cell_of_row w g i cur t (0, 0) hh]
    have : (cur.toList.take (xs.length * 1))[i]? = (xs.map (Value.int q))[i]? := by rw [h4]
    rw [List.getElem?_take, if_pos (by omega)] at this
    simpa [hi] using this
theorem owns_below {w w1 : World} {base : Nat} {t : TypeId} {n : Nat} {v : Value} {xs : List Value} (h : w.ownsRow base t 1 v n xs) (hb : Below w.heap.size w w1) : w1.ownsRow base t 1 v n xs :=
  h.kept (row := none) ⟨hb.os, hb.tape, hb.output, hb.size, fun k hk _ => hb.block k hk⟩ (by cases v.ownBlock <;> simp)

set_option maxHeartbeats 400000 in
theorem errs_same (a1 a2 : Option Addr) (c1 c2 : Nat) (xs : List Int) (w : World) (hl : xs.length ≤ 1000) (h1 : Reads .i64 w a1 xs) (h2 : Reads .i64 w a2 xs) :
    Calls Try.prog 27 #[.slice a1 xs.length c1, .slice a2 xs.length c2] w fun en w' => en = .returned (.bool true) ∧ Below w.heap.size w w' := by
  have hl' : (xs.length : Int) ≤ 1000 := by omega
  have H1 := Lib.hid h1
  have H2 := Lib.hid h2
  clear h1 h2
  go_enter Try.func27, Try.ntmps27
  go_wp2
  go_loopw [5] (fun i wr => (∃ k : Nat, i = .int .i64 k ∧ k ≤ xs.length) ∧ Below w.heap.size w wr) (fun i _ => xs.length - (intOf i).toNat)
  case atStart => exact ⟨⟨0, rfl, Nat.zero_le _⟩, Below.refl _ _⟩
  case round =>
    obtain ⟨⟨k, rfl, hk⟩, hb⟩ := hrel
    by_cases hlt : k < xs.length
    · obtain ⟨g1, o1, rfl, hg1, hx1⟩ := H1.out k hlt
      obtain ⟨g2, o2, rfl, hg2, hx2⟩ := H2.out k hlt
      generalize xs.getD k 0 = x at hx1 hx2
      have hy1 := (hb.cell (p := ⟨g1, o1 + k, none⟩) hg1).trans hx1
      have hy2 := (hb.cell (p := ⟨g2, o2 + k, none⟩) hg2).trans hx2
      clear hx1 hx2 hg1 hg2
      have hlt' : (k : Int) < (xs.length : Int) := by omega
      have h0 : (0 : Int) ≤ (k : Int) := by omega
      go_wp2
      go_quiet (fail)
      go_wp2
      go_roundw
      case rel => exact ⟨⟨k + 1, rfl, hlt⟩, below_drewN hb _⟩
      case measure => simp [intOf]; omega
    · have hlt' : ¬ (k : Int) < (xs.length : Int) := by omega
      go_wp2
      go_ret
      exact ⟨rfl, hb⟩

set_option maxHeartbeats 400000 in
theorem ints_same (a1 a2 : Option Addr) (c1 c2 : Nat) (xs : List Int) (w : World) (hl : xs.length ≤ 1000) (h1 : Reads .i64 w a1 xs) (h2 : Reads .i64 w a2 xs) :
    Calls Try.prog 28 #[.slice a1 xs.length c1, .slice a2 xs.length c2] w fun en w' => en = .returned (.bool true) ∧ Below w.heap.size w w' := by
  have hl' : (xs.length : Int) ≤ 1000 := by omega
  have H1 := Lib.hid h1
  have H2 := Lib.hid h2
  clear h1 h2
  go_enter Try.func28, Try.ntmps28
  go_wp2
  go_loopw [5] (fun i wr => (∃ k : Nat, i = .int .i64 k ∧ k ≤ xs.length) ∧ Below w.heap.size w wr) (fun i _ => xs.length - (intOf i).toNat)
  case atStart => exact ⟨⟨0, rfl, Nat.zero_le _⟩, Below.refl _ _⟩
  case round =>
    obtain ⟨⟨k, rfl, hk⟩, hb⟩ := hrel
    by_cases hlt : k < xs.length
    · obtain ⟨g1, o1, rfl, hg1, hx1⟩ := H1.out k hlt
      obtain ⟨g2, o2, rfl, hg2, hx2⟩ := H2.out k hlt
      generalize xs.getD k 0 = x at hx1 hx2
      have hy1 := (hb.cell (p := ⟨g1, o1 + k, none⟩) hg1).trans hx1
      have hy2 := (hb.cell (p := ⟨g2, o2 + k, none⟩) hg2).trans hx2
      clear hx1 hx2 hg1 hg2
      have hlt' : (k : Int) < (xs.length : Int) := by omega
      have h0 : (0 : Int) ≤ (k : Int) := by omega
      go_wp2
      go_quiet (fail)
      go_wp2
      go_roundw
      case rel => exact ⟨⟨k + 1, rfl, hlt⟩, below_drewN hb _⟩
      case measure => simp [intOf]; omega
    · have hlt' : ¬ (k : Int) < (xs.length : Int) := by omega
      go_wp2
      go_ret
      exact ⟨rfl, hb⟩
end Go.Proofs.Ytebkibpdagdmiaa

/-
  Contracts and plain laws, part 39 (texts: S15). No condition but what each states.
-/
import Derived.Test.YtopemjbakpahfaaSn38
/-
  Bytes that are made of a number, and what a store tells as one text. No condition but that the numbers are small.
-/
namespace Go.Proofs.Ytopemjbakpahfaa
open Go.RowKit Disk Jour Crc Slot
set_option linter.unusedSimpArgs false
set_option linter.unusedVariables false
/-- The first i bytes of a number. -/
def lawTo (z : Int) (i : Nat) : List UInt8 := (List.range i).map (fun j : Nat => by8 (wrap64 (z + 7 * (j : Int))))
/-- The bytes of a number. -/
def lawB (z : Int) : List UInt8 := lawTo z (low6 z)
theorem lawTo_len (z : Int) (i : Nat) : (lawTo z i).length = i := by simp [lawTo]
theorem lawB_len (z : Int) : (lawB z).length ≤ 63 := by unfold lawB; rw [lawTo_len]; exact (low6_eq z).2
theorem lawTo_succ (z : Int) (i : Nat) : lawTo z (i + 1) = lawTo z i ++ [by8 (wrap64 (z + 7 * (i : Int)))] := by simp [lawTo, List.range_succ]
def lawRow (z : Int) (n i : Nat) : List UInt8 := lawTo z i ++ List.replicate (n - i) 0
theorem lawRow_set (z : Int) (n i : Nat) (h : i < n) : ((lawRow z n i).map byteV).toArray.setIfInBounds i (byteV (by8 (wrap64 (z + 7 * (i : Int))))) = ((lawRow z n (i + 1)).map byteV).toArray := by
  rw [List.setIfInBounds_toArray]
  congr 1
  unfold lawRow
  rw [show n - i = (n - (i + 1)) + 1 by omega, List.replicate_succ, List.map_append, List.map_cons, List.set_append_right _ _ (by rw [List.length_map, lawTo_len]; omega), List.length_map, lawTo_len, Nat.sub_self, List.set_cons_zero, lawTo_succ, List.append_assoc, List.map_append, List.map_append, List.map_cons, List.map_nil]
  rfl
/-- New bytes: where they lie, what they are. -/
def MadeB (w : World) (l : List UInt8) (en : Ending) (w' : World) : Prop := ∃ g, en = .returned (.slice (some ⟨g, 0, none⟩) l.length l.length) ∧ Below w.heap.size w w' ∧ w.heap.size ≤ g ∧ w'.heap[g]? = some (.cells (l.map byteV).toArray 5 (0, 0))
set_option maxHeartbeats 1000000 in
theorem lbytes_any (z : Int) (w : World) : Calls Try.prog 69 #[.int .i64 z] w (MadeB w (lawB z)) := by
  obtain ⟨l6, b6⟩ := low6_eq z
  obtain ⟨n, hn⟩ : ∃ n, low6 z = n := ⟨_, rfl⟩
  obtain ⟨L, hL⟩ : ∃ L, lawB z = L := ⟨_, rfl⟩
  have HB : Hid (lawRow z n n = L) := by show _ = _; rw [← hL, ← hn]; unfold lawB lawRow; simp
  have HLN : Hid (L.length = n) := by show _ = _; rw [← hL, ← hn]; exact lawTo_len _ _
  rw [hL]
  rw [hn] at l6 b6
  have hmk := run_make_bytes w n (by omega)
  have hN0 : (0 : Int) ≤ (n : Int) := by omega
  clear hn hL
  go_enter Try.func69, Try.ntmps69
  go_wp2_with fail
  have H0 : Hid ((w.alloc (.cells ((List.replicate n (0 : UInt8)).map byteV).toArray 5)).heap[w.heap.size]? = some (.cells ((lawRow z n 0).map byteV).toArray 5 (0, 0))) := heap_alloc_new w _
  have B0 := Lib.hid (below_alloc w (.cells ((List.replicate n (0 : UInt8)).map byteV).toArray 5))
  clear hmk
  obtain ⟨g, hg⟩ : ∃ g, w.heap.size = g := ⟨_, rfl⟩
  have HG := Lib.hid hg
  rw [hg] at H0 ⊢
  go_loopw [4] (fun iv wr => ∃ i : Nat, iv = .int .i64 i ∧ i ≤ n ∧ Below w.heap.size w wr ∧ wr.heap[g]? = some (.cells ((lawRow z n i).map byteV).toArray 5 (0, 0))) (fun iv _ => n - (intOf iv).toNat)
  case atStart => exact ⟨0, rfl, Nat.zero_le _, by have h := B0.out; simp only [List.map_replicate, List.toArray_replicate] at h; exact h, by have h := H0.out; simp only [List.map_replicate, List.toArray_replicate] at h; exact h⟩
  case round =>
    obtain ⟨i, rfl, hi, hb, hx⟩ := hrel
    by_cases hlt : i < n
    · have hi0 : (0 : Int) ≤ (i : Int) := by omega
      have hii : (i : Int) < (n : Int) := by omega
      have hi63 : (i : Int) ≤ 63 := by omega
      have fg : wr.frozen? ⟨g, i, none⟩ = false := Joins.unfrozen_of_block hx i
      have cg : ∃ v, wr.cell? ⟨g, i, none⟩ = some v := by
        rw [cell_of_row _ _ i _ 5 (0, 0) hx]
        exact ⟨_, Array.getElem?_eq_getElem (by simp [lawRow, lawTo_len]; omega)⟩
      obtain ⟨v0, cg⟩ := cg
      have NX : Hid ((wr.setCell ⟨g, i, none⟩ (byteV (by8 (wrap64 (z + 7 * (i : Int)))))).heap[g]? = some (.cells ((lawRow z n (i + 1)).map byteV).toArray 5 (0, 0))) := by
        have h1 := Joins.block_setCell hx (byteV (by8 (wrap64 (z + 7 * (i : Int)))) ) (i := i)
        rw [lawRow_set z n i hlt] at h1
        exact h1
      have NB : Hid (Below w.heap.size w (wr.setCell ⟨g, i, none⟩ (byteV (by8 (wrap64 (z + 7 * (i : Int))))))) := hb.setCell (p := ⟨g, i, none⟩) (Nat.le_of_eq HG.out) _
      rw [byteV_by8, IntKind.wrap_u8] at NX NB
      clear hb hx
      go_wp2_with fail
      go_roundw
      case rel => exact ⟨i + 1, rfl, by omega, NB.out, NX.out⟩
      case measure => simp only [intOf]; omega
    · obtain rfl : i = n := by omega
      have HH := Lib.hid hx
      have HBL := Lib.hid hb
      rw [HB.out] at HH
      clear hx hb
      go_wp2_with fail
      go_ret
      exact ⟨g, by rw [HLN.out]; rfl, HBL.out, Nat.le_of_eq HG.out, HH.out⟩
end Go.Proofs.Ytopemjbakpahfaa

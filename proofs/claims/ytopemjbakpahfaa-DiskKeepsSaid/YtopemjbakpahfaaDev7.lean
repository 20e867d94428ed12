/-
  A new device. No condition.
-/
import Derived.Test.YtopemjbakpahfaaDev6
import Derived.Laws.MakeOwn
namespace Go.Proofs.Ytopemjbakpahfaa
open Go.RowKit Disk
def sizeOfDev (s : Int) : Nat := (min (max 0 s) 1024).toNat
/-- A device in new memory. -/
def NewOf (w : World) (n : Nat) (en : Ending) (w' : World) : Prop := ∃ B, en = .returned (.pointer (some ⟨B, 0, none⟩)) ∧ Below w.heap.size w w' ∧ w.heap.size ≤ B ∧ IsDev (fun k => w.heap.size ≤ k ∧ k < w'.heap.size) w' B (Dev.new n)
theorem info110 : (Try.prog.info? 110).map (fun i => (i.zero, i.size, i.bytes)) = some (some (.agg (zero32.map byteV).toArray), 32, 32) := by kernel_rfl
theorem zmap : zero32.map byteV = List.replicate 32 (byteV 0) := by unfold zero32; rw [List.map_replicate]
theorem made_at (n i : Nat) (h : i < n) : (madeCells (Value.agg (zero32.map byteV).toArray).cells n)[i]? = some (byteV 0) := by
  have hz : ∀ j, j < 32 → (zero32.map byteV).toArray[j]! = byteV 0 := by
    intro j hj
    rw [getElem!_pos _ _ (by rw [List.size_toArray, zmap, List.length_replicate]; exact hj)]
    simp only [zmap, List.getElem_toArray, List.getElem_replicate]
  unfold madeCells
  rw [Array.getElem?_map, Array.getElem?_eq_getElem (by simpa using h)]
  simp only [Array.getElem_range, Option.map_some, Value.cells]
  rw [hz]
  have : (zero32.map byteV).toArray.size = 32 := rfl
  rw [this]
  exact Nat.mod_lt _ (by omega)
def newCells (m : Nat) : Array Value := madeCells (Value.agg (zero32.map byteV).toArray).cells (m * 32)
theorem new_fin (w : World) (m : Nat) (v : Value) (hv : v = .pointer (some ⟨w.heap.size + 1, 0, none⟩)) (C : Array Value) (hC : C = #[.slice (some ⟨w.heap.size, 0, none⟩) m m, .slice none 0 0, .bool false, .int .i64 0, .int .i64 0, .int .i64 0]) :
    NewOf w m (.returned v) ((w.alloc (.cells (newCells m) 110)).alloc (.cells C 107)) := by
  subst hv hC
  have hb : ((w.alloc (.cells (newCells m) 110)).alloc (.cells #[.slice (some ⟨w.heap.size, 0, none⟩) m m, .slice none 0 0, .bool false, .int .i64 0, .int .i64 0, .int .i64 0] 107)).heap[w.heap.size + 1]? = some (.cells (dcells (Dev.new m) w.heap.size (.slice none 0 0)) 107 (0, 0)) := by
    have h := heap_alloc_new (w.alloc (.cells (newCells m) 110)) (.cells #[.slice (some ⟨w.heap.size, 0, none⟩) m m, .slice none 0 0, .bool false, .int .i64 0, .int .i64 0, .int .i64 0] 107)
    rw [World.size_alloc] at h
    rw [h]
    simp [dcells, Dev.new]
  have hk : ((w.alloc (.cells (newCells m) 110)).alloc (.cells #[.slice (some ⟨w.heap.size, 0, none⟩) m m, .slice none 0 0, .bool false, .int .i64 0, .int .i64 0, .int .i64 0] 107)).heap[w.heap.size]? = some (.cells (newCells m) 110 (0, 0)) :=
    (Below.heap_alloc _ _ _ (by simp)).trans (heap_alloc_new w _)
  have hkl : (Dev.new m).kept.length = m := by simp [Dev.new]
  refine ⟨w.heap.size + 1, rfl, ((Below.refl _ w).alloc (Nat.le_refl _) _).alloc (by simp) _, by omega, ⟨w.heap.size, _, hb, ⟨⟨_, hk⟩, ?_, ?_, ?_⟩, ⟨World.ownsRow_nil _ _ _ _, fun k hk => by simp [Value.ownBlock] at hk⟩⟩, new_ok m, ?_, Nat.zero_le _, fun k hk => hk.2⟩
  · intro k hk' j v hv
    rw [hkl] at hk'
    rw [Joins.cell_of_block hk]
    have h1 : (Dev.new m).kept.getD k [] = zero32 := by simp [Dev.new, List.getD, hk', zero32]
    rw [h1] at hv
    rw [zmap] at hv
    have hj : j < 32 := by have := (List.getElem?_eq_some_iff.1 hv).1; rw [List.length_replicate] at this; exact this
    rw [newCells, made_at _ _ (by omega), ← hv, List.getElem?_replicate, if_pos hj]
  · intro j hj
    rw [hkl] at hj
    refine ⟨?_, Joins.unfrozen_of_block hk _⟩
    rw [Joins.cell_of_block hk, newCells, made_at _ _ (by omega)]
    rfl
  · exact ⟨Nat.le_refl _, by simp; omega⟩
  · exact ⟨by omega, by simp⟩
set_option maxRecDepth 100000 in
set_option maxHeartbeats 1000000 in
theorem new_any (w : World) (s : Int) : Calls Try.prog 33 #[.int .i64 s] w (NewOf w (sizeOfDev s)) := by
  obtain ⟨n, hn⟩ : ∃ n, sizeOfDev s = n := ⟨_, rfl⟩
  have hn1 : n = (min (max 0 s) 1024).toNat := by rw [← hn]; rfl
  rw [hn]
  clear hn
  have FN := Lib.hid (new_fin w)
  obtain ⟨i0, hi, hz0, hz1, hz2⟩ := info_parts info110
  have hmk : ∀ x : Int, 0 ≤ x → x ≤ 1024 → (Instr.makeSlice 104 (.int .i64 x) (.int .i64 x)).run Try.prog w = .ok (.slice (some ⟨w.heap.size, 0, none⟩) x.toNat x.toNat) (w.alloc (.cells (newCells x.toNat) 110)) := by
    intro x h0 h1
    have h := run_make (P := Try.prog) w 104 110 i0 _ Try.underlying104 hi hz0 .i64 .i64 x x h0 (Int.le_refl _) (by rw [hz2]; omega) (by omega)
    rw [hz1] at h
    exact h
  clear hi hz0 hz1 hz2
  by_cases h0 : s ≤ 0
  · obtain rfl : n = 0 := by omega
    have hm0 := hmk 0 (by omega) (by omega)
    rw [Int.toNat_zero] at hm0
    clear hmk hn1
    go_enter Try.func33, Try.ntmps33
    go_wp2
    go_ret
    exact FN.out 0 _ rfl _ rfl
  · by_cases h1 : 1024 < s
    · obtain rfl : n = 1024 := by omega
      have hm0 : (Instr.makeSlice 104 (.int .i64 1024) (.int .i64 1024)).run Try.prog w = .ok (.slice (some ⟨w.heap.size, 0, none⟩) 1024 1024) (w.alloc (.cells (newCells 1024) 110)) := hmk 1024 (by omega) (by omega)
      clear hmk hn1
      go_enter Try.func33, Try.ntmps33
      go_wp2
      go_ret
      exact FN.out 1024 _ rfl _ rfl
    · obtain ⟨m, rfl⟩ : ∃ m : Nat, s = (m : Int) := ⟨s.toNat, by omega⟩
      obtain rfl : n = m := by omega
      have hm0 := hmk (n : Int) (by omega) (by omega)
      rw [Int.toNat_natCast] at hm0
      clear hmk hn1
      go_enter Try.func33, Try.ntmps33
      go_wp2
      go_ret
      exact FN.out n _ rfl _ rfl
end Go.Proofs.Ytopemjbakpahfaa

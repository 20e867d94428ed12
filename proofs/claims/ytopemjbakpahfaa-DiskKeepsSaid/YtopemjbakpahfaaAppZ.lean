/-
  Zeros appended to bytes of the call's own: append(s, make([]byte, k)...), with room or without. No condition but that the lengths are small.
-/
import Derived.Test.YtopemjbakpahfaaApp
import Derived.Lib.AppendZerosOnto
namespace Go.Proofs.Ytopemjbakpahfaa
open Go.RowKit
theorem zeroCells_u8 (k : Nat) : (Builtin.zeroCells (Value.int .u8 0).cells k).toList = (List.replicate k (0 : UInt8)).map byteV := by
  unfold Builtin.zeroCells
  simp only [Value.cells, List.size_toArray, List.length_singleton, Nat.mul_one, Nat.mod_one]
  rw [Array.toList_map, Array.toList_range, List.map_replicate]
  apply List.ext_getElem
  · simp
  · intro i h1 h2
    simp [byteV]
theorem run_append_room_zeros (w : World) (ty : TypeId) (i0 : TypeInfo) (hi : Try.prog.info? 5 = some i0) (hz : i0.zero = some (.int .u8 0)) (hs : i0.size = 1) (hby : i0.bytes = 1)
    (g sLen sCap : Nat) (cur : Array Value) (hg : w.heap[g]? = some (.cells cur 5 (0, 0))) (k : Nat) (hk : k ≤ 1000000000) (hroom : sLen + k ≤ sCap) (hc : cur.size = sCap) :
    (Builtin.append_ #[22, 3] ty #[.slice (some ⟨g, 0, none⟩) sLen sCap, .int .i64 k]).run Try.prog w =
      .ok (.slice (some ⟨g, 0, none⟩) (sLen + k) sCap) (w.setRow g (cur.toList.take sLen ++ (List.replicate k (0 : UInt8)).map byteV ++ cur.toList.drop (sLen + k)).toArray) := by
  have hst := run_storeCells_at Try.prog g sLen 5 ((List.replicate k (0 : UInt8)).map byteV) 0 cur w hg (by simp; omega) (oneCell_bytes _)
  simp only [Nat.add_zero, List.length_map, List.length_replicate] at hst
  have hw : IntKind.i64.wrap (k : Int) = k := by rw [IntKind.wrap_i64]; omega
  have hneg : ¬ ((k : Int) < 0) := by omega
  have h48i : ¬ (281474976710656 < (k : Int)) := by omega
  have hw0 : IntKind.i64.wrap 0 = 0 := by decide
  by_cases h0 : k = 0
  · subst h0
    simp at hst
    simp [Builtin.append_, run_underlying Try.underlying22, run_underlying Try.underlying3, sizeOf, typeInfo, zeroValue, hi, hz, hs, hby, asInt, asIntOf, hw0, show sLen ≤ sCap by omega, Addr.add_lit, hst]
  · have hzc : (Builtin.zeroCells (Value.int .u8 0).cells k).toList = List.replicate k (byteV 0) := by rw [zeroCells_u8, List.map_replicate]
    rw [List.map_replicate] at hst
    simp [Builtin.append_, run_underlying Try.underlying22, run_underlying Try.underlying3, sizeOf, typeInfo, zeroValue, hi, hz, hs, hby, asInt, asIntOf, hw, hneg, h48i, h0, hroom, hzc, Addr.add_lit, hst]
theorem run_append_bytes_zeros (w : World) (ty : TypeId) (base : Nat) (v : Value) (l : List UInt8) (k : Nat) (hown : w.ownsRow base 5 1 v l.length (l.map byteV)) (hb : l.length + k ≤ 1000000000) (b3 : base ≤ w.heap.size) :
    ∃ v' w', (Builtin.append_ #[22, 3] ty #[v, .int .i64 k]).run Try.prog w = .ok v' w' ∧ w'.ownsRow base 5 1 v' (l ++ List.replicate k 0).length ((l ++ List.replicate k 0).map byteV) ∧ w.grownBy w' v.ownBlock := by
  obtain ⟨i0, hi, hz0, hz1, hz2⟩ := info_parts info5
  have grown : ∀ (old : Nat), old < l.length + k → ∀ (row : Option Nat),
      (w.drew.alloc (.cells ((l.map byteV).toArray ++ Builtin.zeroCells (Value.int .u8 0).cells k ++ Builtin.zeroCells (Value.int .u8 0).cells (grownCap w (l.length + k) old 5 - (l.length + k))) 5)).ownsRow base 5 1
        (.slice (some ⟨w.heap.size, 0, none⟩) (l.length + k) (grownCap w (l.length + k) old 5)) (l ++ List.replicate k 0).length ((l ++ List.replicate k 0).map byteV) ∧
      w.grownBy (w.drew.alloc (.cells ((l.map byteV).toArray ++ Builtin.zeroCells (Value.int .u8 0).cells k ++ Builtin.zeroCells (Value.int .u8 0).cells (grownCap w (l.length + k) old 5 - (l.length + k))) 5)) row := by
    intro old ho row
    have hge := grownCap_ge w (l.length + k) old 5
    have hcm : grownCap w (l.length + k) old 5 ≤ maxLen := grownCap_le_maxLen w (l.length + k) old 5 (by unfold maxLen; omega)
    have hlen : (l ++ List.replicate k (0 : UInt8)).length = l.length + k := by simp
    rw [hlen]
    refine ⟨⟨by simp, .inr ⟨w.heap.size, _, _, rfl, b3, heap_alloc_new w.drew _, hge, hcm, ?_, ?_⟩⟩, ⟨rfl, rfl, rfl, by simp, fun j hj _ => Below.heap_alloc w.drew _ j hj⟩⟩
    · simp only [Array.size_append, List.size_toArray, size_zeroCells, List.length_map, Value.cells, List.length_singleton]
      omega
    · simp only [Array.toList_append, zeroCells_u8, Nat.mul_one]
      rw [← List.map_append]
      exact List.take_left' (by simp)
  rcases hown.2 with ⟨rfl, h0⟩ | ⟨g, cap, cur, rfl, hbg, hg, hnc, hcm, hcs, htake⟩
  · obtain rfl : l = [] := List.eq_nil_of_length_eq_zero h0
    by_cases hk : k = 0
    · subst hk
      refine ⟨.slice none 0 0, w, ?_, by simpa using hown, ⟨rfl, rfl, rfl, Nat.le_refl _, fun _ _ _ => rfl⟩⟩
      simp [Builtin.append_, run_underlying Try.underlying22, run_underlying Try.underlying3, sizeOf, typeInfo, zeroValue, hi, hz0, hz2, asInt, asIntOf, IntKind.wrap_i64]
    · have hr := Lib.run_append_nil_zeros w 22 3 ty 5 i0 (.int .u8 0) .i64 .i64 Try.underlying22 Try.underlying3 hi hz0 k (by omega) (by omega) (by omega) (by rw [hz2]; simp at hb; omega)
      have hgr := grown 0 (by omega) (Value.ownBlock (.slice none 0 0))
      simp only [List.length_nil, Nat.zero_add, List.nil_append, List.map_nil, Array.empty_append] at hgr ⊢
      exact ⟨_, _, hr, hgr.1, hgr.2⟩
  · rw [Nat.mul_one] at hcs htake
    by_cases hroom : l.length + k ≤ cap
    · have hr := run_append_room_zeros w ty i0 hi hz0 hz1 hz2 g l.length cap cur hg k (by omega) hroom hcs
      refine ⟨_, _, hr, ⟨by simp, .inr ⟨g, cap, _, by simp, hbg, setRow_heap w g cur _ 5 _ hg, by simpa using hroom, hcm, ?_, ?_⟩⟩, ⟨rfl, rfl, rfl, by simp, fun k _ hk => setRow_other w g k _ (fun e => hk (by simp [Value.ownBlock, e]))⟩⟩
      · simp only [List.size_toArray, List.length_append, List.length_take, List.length_drop, Array.length_toList, List.length_map, List.length_replicate]
        omega
      · rw [htake]
        simp only [Nat.mul_one]
        rw [← List.map_append]
        exact List.take_left' (by simp)
    · have hold : (Builtin.firstCells i0.size l.length (.slice (some ⟨g, 0, none⟩) l.length cap)).run Try.prog w.drew = .ok (l.map byteV).toArray w.drew := run_firstCells_some w.drew i0.size l.length ⟨g, 0, none⟩ l.length cap (l.map byteV) (by rw [hz1]; simp) (fun j u hu => by
        have := hown.cells (g := g) rfl j u hu
        simpa using this)
      have hfit := growslice_fits (need := l.length + k) (old := cap) (bytes := i0.bytes) (by omega) (by rw [hz2]; omega)
      have hr := Lib.run_append_grow_zeros w 22 3 ty 5 i0 (.int .u8 0) .i64 .i64 Try.underlying22 Try.underlying3 hi hz0 (some ⟨g, 0, none⟩) l.length cap (l.map byteV) hold k (by omega) (by omega) (by omega) (by omega) (by rw [hz2]; omega) hfit
      have hgr := grown cap (by omega) (Value.ownBlock (.slice (some ⟨g, 0, none⟩) l.length cap))
      exact ⟨_, _, hr, hgr.1, hgr.2⟩
theorem wp_append_zeros {w : World} {o : Oper} {a : Act} {K : Act → World → Prop} {Q : Exit → Act → World → Prop} (s x : Operand)
    (ho : o.op = .call { callee := .builtin .append, args := #[s, x], argTypes := #[22, 3] }) (base : Nat) (v : Value) (l : List UInt8) (k : Nat) (hs : a.eval s = v) (hx : a.eval x = .int .i64 (k : Nat))
    (hown : w.ownsRow base 5 1 v l.length (l.map byteV)) (hb : l.length + k ≤ 1000000000) (b3 : base ≤ w.heap.size)
    (hK : ∀ v' w', w'.ownsRow base 5 1 v' (l ++ List.replicate k 0).length ((l ++ List.replicate k 0).map byteV) → w.grownBy w' v.ownBlock → K (a.put o.dst v') w') : o.wp Try.prog a w K Q := by
  obtain ⟨v', w', hr, h1, h2⟩ := run_append_bytes_zeros w o.type base v l k hown hb b3
  exact Lib.wp_append_run w s x 22 3 ho v (.int .i64 k) hs hx v' w' hr (hK v' w' h1 h2)
theorem wpList_append_zeros {w : World} {ops : Array Oper} {rest : List Oper} {o : Oper} {a : Act} {Q : Exit → Act → World → Prop} (hgd : o.guard = none) (s x : Operand)
    (ho : o.op = .call { callee := .builtin .append, args := #[s, x], argTypes := #[22, 3] }) (base : Nat) (v : Value) (l : List UInt8) (k : Nat) (hs : a.eval s = v) (hx : a.eval x = .int .i64 (k : Nat))
    (hown : w.ownsRow base 5 1 v l.length (l.map byteV)) (hb : l.length + k ≤ 1000000000) (b3 : base ≤ w.heap.size)
    (hK : ∀ v' w', w'.ownsRow base 5 1 v' (l ++ List.replicate k 0).length ((l ++ List.replicate k 0).map byteV) → w.grownBy w' v.ownBlock → wpList Try.prog ops Q rest (a.put o.dst v') w') : wpList Try.prog ops Q (o :: rest) a w :=
  wpList_plain hgd fun _ hk => wp_append_zeros s x ho base v l k hs hx hown hb b3 fun v' w' h1 h2 => hk _ _ (hK v' w' h1 h2)
end Go.Proofs.Ytopemjbakpahfaa

/-
  The contract of put: a number as bytes behind bytes of new memory.
-/
import Derived.Test.YtopemjbakpahfaaC3
namespace Go.Proofs.Ytopemjbakpahfaa
open Go.RowKit Crc
theorem info5 : (Try.prog.info? 5).map (fun i => (i.zero, i.size, i.bytes)) = some (some (.int .u8 0), 1, 1) := by kernel_rfl

set_option maxHeartbeats 1000000 in
theorem put2 (v : Value) (l : List UInt8) (n base : Nat) (w : World) (hn : n < 2 ^ 64) (hl : l.length ≤ 100) (hown : w.ownsRow base 5 1 v l.length (l.map byteV)) (hb : base ≤ w.heap.size) :
    Calls Try.prog 83 #[v, .int .u64 (n : Int), .int .i64 2] w fun e w' => ∃ v', e = .returned v' ∧ w'.ownsRow base 5 1 v' (l.length + 2) ((l ++ be 2 n).map byteV) ∧ Below base w w' := by
  obtain ⟨i0, hi, hz0, hz1, hz2⟩ := info_parts info5
  have hn0 : (0 : Int) ≤ (n : Int) := by omega
  go_enter Try.func83, Try.ntmps83
  go_wp2
  refine wp_loop_rounds 3 ?_
  rw [rounds_succ]
  go_wp2_with (at_builtin; refine wpList_append_own _ rfl (.tmp 14) (.tmp 20) 22 rfl base 5 i0 (.int .u8 0) 1 1 Try.underlying22 hi hz0 hz1 hz2 rfl (by decide) _ _ _ rfl (hown.alloc _) ⟨w.heap.size, 0, none⟩ 1 1 [_] rfl rfl (cell_one_at rfl) (by simp [Value.oneCell']) (by unfold maxLen; omega) (by omega) (by simp; omega) ?_; intro v1 w1 own1 gr1 _; have B1 := ((Below.refl base w).alloc hb _).grown gr1 (by simp; omega) (fun k hk => (hown.lt k hk).1); have hb1 : base ≤ w1.heap.size := by { have := gr1.size; simp at this; omega })
  rw [rounds_succ]
  go_wp2_with (at_builtin; refine wpList_append_own _ rfl (.tmp 14) (.tmp 20) 22 rfl base 5 i0 (.int .u8 0) 1 1 Try.underlying22 hi hz0 hz1 hz2 rfl (by decide) _ _ _ rfl (own1.alloc _) ⟨w1.heap.size, 0, none⟩ 1 1 [_] rfl rfl (cell_one_at rfl) (by simp [Value.oneCell']) (by unfold maxLen; omega) (by omega) (by simp; omega) ?_; intro v2 w2 own2 gr2 _; have B2 := (B1.alloc hb1 _).grown gr2 (by simp; omega) (fun k hk => (own1.lt k hk).1); have hb2 : base ≤ w2.heap.size := by { have := gr2.size; simp at this; omega })
  rw [rounds_succ]
  go_wp2
  go_ret
  refine ⟨_, rfl, ?_, B2⟩
  have e : (l ++ be 2 n).map byteV = l.map byteV ++ [Value.int .u8 ((n : Int) / 256 % 256)] ++ [Value.int .u8 ((n : Int) % 256)] := by simp [be, byteV, UInt8.toNat_ofNat']
  rw [e]
  exact own2

set_option maxHeartbeats 1000000 in
theorem put4 (v : Value) (l : List UInt8) (n base : Nat) (w : World) (hn : n < 2 ^ 64) (hl : l.length ≤ 100) (hown : w.ownsRow base 5 1 v l.length (l.map byteV)) (hb : base ≤ w.heap.size) :
    Calls Try.prog 83 #[v, .int .u64 (n : Int), .int .i64 4] w fun e w' => ∃ v', e = .returned v' ∧ w'.ownsRow base 5 1 v' (l.length + 4) ((l ++ be 4 n).map byteV) ∧ Below base w w' := by
  obtain ⟨i0, hi, hz0, hz1, hz2⟩ := info_parts info5
  have hn0 : (0 : Int) ≤ (n : Int) := by omega
  go_enter Try.func83, Try.ntmps83
  go_wp2
  refine wp_loop_rounds 5 ?_
  rw [rounds_succ]
  go_wp2_with (at_builtin; refine wpList_append_own _ rfl (.tmp 14) (.tmp 20) 22 rfl base 5 i0 (.int .u8 0) 1 1 Try.underlying22 hi hz0 hz1 hz2 rfl (by decide) _ _ _ rfl (hown.alloc _) ⟨w.heap.size, 0, none⟩ 1 1 [_] rfl rfl (cell_one_at rfl) (by simp [Value.oneCell']) (by unfold maxLen; omega) (by omega) (by simp; omega) ?_; intro v1 w1 own1 gr1 _; have B1 := ((Below.refl base w).alloc hb _).grown gr1 (by simp; omega) (fun k hk => (hown.lt k hk).1); have hb1 : base ≤ w1.heap.size := by { have := gr1.size; simp at this; omega })
  rw [rounds_succ]
  go_wp2_with (at_builtin; refine wpList_append_own _ rfl (.tmp 14) (.tmp 20) 22 rfl base 5 i0 (.int .u8 0) 1 1 Try.underlying22 hi hz0 hz1 hz2 rfl (by decide) _ _ _ rfl (own1.alloc _) ⟨w1.heap.size, 0, none⟩ 1 1 [_] rfl rfl (cell_one_at rfl) (by simp [Value.oneCell']) (by unfold maxLen; omega) (by omega) (by simp; omega) ?_; intro v2 w2 own2 gr2 _; have B2 := (B1.alloc hb1 _).grown gr2 (by simp; omega) (fun k hk => (own1.lt k hk).1); have hb2 : base ≤ w2.heap.size := by { have := gr2.size; simp at this; omega })
  rw [rounds_succ]
  go_wp2_with (at_builtin; refine wpList_append_own _ rfl (.tmp 14) (.tmp 20) 22 rfl base 5 i0 (.int .u8 0) 1 1 Try.underlying22 hi hz0 hz1 hz2 rfl (by decide) _ _ _ rfl (own2.alloc _) ⟨w2.heap.size, 0, none⟩ 1 1 [_] rfl rfl (cell_one_at rfl) (by simp [Value.oneCell']) (by unfold maxLen; omega) (by omega) (by simp; omega) ?_; intro v3 w3 own3 gr3 _; have B3 := (B2.alloc hb2 _).grown gr3 (by simp; omega) (fun k hk => (own2.lt k hk).1); have hb3 : base ≤ w3.heap.size := by { have := gr3.size; simp at this; omega })
  rw [rounds_succ]
  go_wp2_with (at_builtin; refine wpList_append_own _ rfl (.tmp 14) (.tmp 20) 22 rfl base 5 i0 (.int .u8 0) 1 1 Try.underlying22 hi hz0 hz1 hz2 rfl (by decide) _ _ _ rfl (own3.alloc _) ⟨w3.heap.size, 0, none⟩ 1 1 [_] rfl rfl (cell_one_at rfl) (by simp [Value.oneCell']) (by unfold maxLen; omega) (by omega) (by simp; omega) ?_; intro v4 w4 own4 gr4 _; have B4 := (B3.alloc hb3 _).grown gr4 (by simp; omega) (fun k hk => (own3.lt k hk).1); have hb4 : base ≤ w4.heap.size := by { have := gr4.size; simp at this; omega })
  rw [rounds_succ]
  go_wp2
  go_ret
  refine ⟨_, rfl, ?_, B4⟩
  have e : (l ++ be 4 n).map byteV = l.map byteV ++ [Value.int .u8 ((n : Int) / 16777216 % 256)] ++ [Value.int .u8 ((n : Int) / 65536 % 256)] ++ [Value.int .u8 ((n : Int) / 256 % 256)] ++ [Value.int .u8 ((n : Int) % 256)] := by simp [be, byteV, UInt8.toNat_ofNat']
  rw [e]
  exact own4
end Go.Proofs.Ytopemjbakpahfaa

/-
  Contracts and plain laws, part 2 (texts: C4, C5, C6, C7, C8, App, Range, Iter, Boxes). No condition but what each states.
-/
import Derived.Test.YtopemjbakpahfaaSn01
import Derived.Laws.AppendOwnNone
import Derived.WalkSpells
import Derived.Lib.SliceRun
import Derived.Lib.SlBytesConst
import Derived.RangeFuncNested
import Derived.RangeFuncCalls
import Derived.RangeFuncLeaves
import Derived.OwnWalkIn
import Derived.TacticsInMore
import Derived.LoopIn
import Derived.Shelf.Abstract
import Derived.WalkKit
import Derived.LoopNIn
import Derived.Maps.AppendAt
/-
  The contract of put: a number as bytes behind bytes of new memory.
-/
namespace Go.Proofs.Ytopemjbakpahfaa
open Go.RowKit Crc
theorem info5 : (Try.prog.info? 5).map (fun i => (i.zero, i.size, i.bytes)) = some (some (.int .u8 0), 1, 1) := by kernel_rfl

set_option maxHeartbeats 1000000 in
theorem put2 (v : Value) (l : List UInt8) (n base : Nat) (w : World) (hn : n < 2 ^ 64) (hl : l.length ≤ 100) (hown : w.ownsRow base 5 1 v l.length (l.map byteV)) (hb : base ≤ w.heap.size) :
    Calls Try.prog 83 #[v, .int .u64 (n : Int), .int .i64 2] w fun e w' => ∃ v', e = .returned v' ∧ w'.ownsRow base 5 1 v' (l.length + 2) ((l ++ be 2 n).map byteV) ∧ Below base w w' := by
  obtain ⟨i0, hi, hz0, hz1, hz2⟩ := info_parts info5
  have hn0 : (0 : Int) ≤ (n : Int) := by omega
  go_enter Try.func83, Try.ntmps83
  go_wp2
  refine wp_loop_rounds 3 ?_
  rw [rounds_succ]
  go_wp2_with (at_builtin; refine wpList_append_own _ rfl (.tmp 14) (.tmp 20) 22 rfl base 5 i0 (.int .u8 0) 1 1 Try.underlying22 hi hz0 hz1 hz2 rfl (by decide) _ _ _ rfl (hown.alloc _) ⟨w.heap.size, 0, none⟩ 1 1 [_] rfl rfl (cell_one_at rfl) (by simp [Value.oneCell']) (by unfold maxLen; omega) (by omega) (by simp; omega) ?_; intro v1 w1 own1 gr1 _; have B1 := ((Below.refl base w).alloc hb _).grown gr1 (by simp; omega) (fun k hk => (hown.lt k hk).1); have hb1 : base ≤ w1.heap.size := by { have := gr1.size; simp at this; omega })
  rw [rounds_succ]
  go_wp2_with (at_builtin; refine wpList_append_own _ rfl (.tmp 14) (.tmp 20) 22 rfl base 5 i0 (.int .u8 0) 1 1 Try.underlying22 hi hz0 hz1 hz2 rfl (by decide) _ _ _ rfl (own1.alloc _) ⟨w1.heap.size, 0, none⟩ 1 1 [_] rfl rfl (cell_one_at rfl) (by simp [Value.oneCell']) (by unfold maxLen; omega) (by omega) (by simp; omega) ?_; intro v2 w2 own2 gr2 _; have B2 := (B1.alloc hb1 _).grown gr2 (by simp; omega) (fun k hk => (own1.lt k hk).1); have hb2 : base ≤ w2.heap.size := by { have := gr2.size; simp at this; omega })
  rw [rounds_succ]
  go_wp2
  go_ret
  refine ⟨_, rfl, ?_, B2⟩
  have e : (l ++ be 2 n).map byteV = l.map byteV ++ [Value.int .u8 ((n : Int) / 256 % 256)] ++ [Value.int .u8 ((n : Int) % 256)] := by simp [be, byteV, UInt8.toNat_ofNat']
  rw [e]
  exact own2

set_option maxHeartbeats 1000000 in
theorem put4 (v : Value) (l : List UInt8) (n base : Nat) (w : World) (hn : n < 2 ^ 64) (hl : l.length ≤ 100) (hown : w.ownsRow base 5 1 v l.length (l.map byteV)) (hb : base ≤ w.heap.size) :
    Calls Try.prog 83 #[v, .int .u64 (n : Int), .int .i64 4] w fun e w' => ∃ v', e = .returned v' ∧ w'.ownsRow base 5 1 v' (l.length + 4) ((l ++ be 4 n).map byteV) ∧ Below base w w' := by
  obtain ⟨i0, hi, hz0, hz1, hz2⟩ := info_parts info5
  have hn0 : (0 : Int) ≤ (n : Int) := by omega
  go_enter Try.func83, Try.ntmps83
  go_wp2
  refine wp_loop_rounds 5 ?_
  rw [rounds_succ]
  go_wp2_with (at_builtin; refine wpList_append_own _ rfl (.tmp 14) (.tmp 20) 22 rfl base 5 i0 (.int .u8 0) 1 1 Try.underlying22 hi hz0 hz1 hz2 rfl (by decide) _ _ _ rfl (hown.alloc _) ⟨w.heap.size, 0, none⟩ 1 1 [_] rfl rfl (cell_one_at rfl) (by simp [Value.oneCell']) (by unfold maxLen; omega) (by omega) (by simp; omega) ?_; intro v1 w1 own1 gr1 _; have B1 := ((Below.refl base w).alloc hb _).grown gr1 (by simp; omega) (fun k hk => (hown.lt k hk).1); have hb1 : base ≤ w1.heap.size := by { have := gr1.size; simp at this; omega })
  rw [rounds_succ]
  go_wp2_with (at_builtin; refine wpList_append_own _ rfl (.tmp 14) (.tmp 20) 22 rfl base 5 i0 (.int .u8 0) 1 1 Try.underlying22 hi hz0 hz1 hz2 rfl (by decide) _ _ _ rfl (own1.alloc _) ⟨w1.heap.size, 0, none⟩ 1 1 [_] rfl rfl (cell_one_at rfl) (by simp [Value.oneCell']) (by unfold maxLen; omega) (by omega) (by simp; omega) ?_; intro v2 w2 own2 gr2 _; have B2 := (B1.alloc hb1 _).grown gr2 (by simp; omega) (fun k hk => (own1.lt k hk).1); have hb2 : base ≤ w2.heap.size := by { have := gr2.size; simp at this; omega })
  rw [rounds_succ]
  go_wp2_with (at_builtin; refine wpList_append_own _ rfl (.tmp 14) (.tmp 20) 22 rfl base 5 i0 (.int .u8 0) 1 1 Try.underlying22 hi hz0 hz1 hz2 rfl (by decide) _ _ _ rfl (own2.alloc _) ⟨w2.heap.size, 0, none⟩ 1 1 [_] rfl rfl (cell_one_at rfl) (by simp [Value.oneCell']) (by unfold maxLen; omega) (by omega) (by simp; omega) ?_; intro v3 w3 own3 gr3 _; have B3 := (B2.alloc hb2 _).grown gr3 (by simp; omega) (fun k hk => (own2.lt k hk).1); have hb3 : base ≤ w3.heap.size := by { have := gr3.size; simp at this; omega })
  rw [rounds_succ]
  go_wp2_with (at_builtin; refine wpList_append_own _ rfl (.tmp 14) (.tmp 20) 22 rfl base 5 i0 (.int .u8 0) 1 1 Try.underlying22 hi hz0 hz1 hz2 rfl (by decide) _ _ _ rfl (own3.alloc _) ⟨w3.heap.size, 0, none⟩ 1 1 [_] rfl rfl (cell_one_at rfl) (by simp [Value.oneCell']) (by unfold maxLen; omega) (by omega) (by simp; omega) ?_; intro v4 w4 own4 gr4 _; have B4 := (B3.alloc hb3 _).grown gr4 (by simp; omega) (fun k hk => (own3.lt k hk).1); have hb4 : base ≤ w4.heap.size := by { have := gr4.size; simp at this; omega })
  rw [rounds_succ]
  go_wp2
  go_ret
  refine ⟨_, rfl, ?_, B4⟩
  have e : (l ++ be 4 n).map byteV = l.map byteV ++ [Value.int .u8 ((n : Int) / 16777216 % 256)] ++ [Value.int .u8 ((n : Int) / 65536 % 256)] ++ [Value.int .u8 ((n : Int) / 256 % 256)] ++ [Value.int .u8 ((n : Int) % 256)] := by simp [be, byteV, UInt8.toNat_ofNat']
  rw [e]
  exact own4
end Go.Proofs.Ytopemjbakpahfaa
/-
  The contracts of Frame, of the program and of the reference: for all bytes.
-/
namespace Go.Proofs.Ytopemjbakpahfaa
open Go.RowKit Crc
/-- Bytes in new memory, and an error's number. -/
def Framed (l : List UInt8) (w : World) (en : Ending) (w' : World) : Prop :=
  ∃ v, en = .returned (.tuple #[v, .int .i64 0]) ∧ w'.ownsRow w.heap.size 5 1 v (frame l).length ((frame l).map byteV) ∧ Below w.heap.size w w'
theorem frame_long (l : List UInt8) (a : Option Addr) (cap : Nat) (w : World) (hl : 4096 < l.length) (hl2 : (l.length : Int) ≤ 9223372036854775807) :
    Calls Try.prog 24 #[.slice a l.length cap] w fun en w' => en = .returned (.tuple #[.slice none 0 0, .int .i64 1]) ∧ w = w' := by
  have hl' : (4096 : Int) < (l.length : Int) := by omega
  go_enter Try.func24, Try.ntmps24
  go_wp2
  go_ret2
  exact ⟨rfl, rfl⟩
set_option maxHeartbeats 1000000 in
theorem frame_some (l : List UInt8) (ad : Addr) (cap : Nat) (w : World) (hl : l.length ≤ 4096) (hr : RB w (some ad) l) :
    Calls Try.prog 24 #[.slice (some ad) l.length cap] w (Framed l w) := by
  have hl' : ¬ (4096 : Int) < (l.length : Int) := by omega
  obtain ⟨i0, hi, hz0, hz1, hz2⟩ := info_parts info5
  have HR := Lib.hid hr
  clear hr
  have hsum := (sum l).isLt
  go_enter Try.func24, Try.ntmps24
  go_wp2_with fail
  refine (put2 _ [] l.length w.heap.size _ (by omega) (by simp) (World.ownsRow_nil _ _ _ _) (Nat.le_refl _)).mono ?_
  rintro en w1 ⟨v1, rfl, o1, b1⟩
  go_wp2_with fail
  refine (sum_any l _ _ _ (by omega) (HR.out.below b1)).mono ?_
  rintro en w1' ⟨rfl, rfl⟩
  go_wp2_with fail
  refine (put4 _ (be 2 l.length) (sum l).toNat w.heap.size _ (by omega) (by simp [be_length]) (by simpa [be_length] using o1) b1.size).mono ?_
  rintro en w2 ⟨v2, rfl, o2, b2⟩
  have b12 := b1.trans b2
  have o2' : w2.ownsRow w.heap.size 5 1 v2 6 ((head l).map byteV) := by simpa [be_length, head] using o2
  clear o1 o2 b1 b2
  go_wp2_with (at_builtin; refine wpList_append_own _ rfl (.tmp 17) (.tmp 18) 22 rfl w.heap.size 5 i0 (.int .u8 0) 1 1 Try.underlying22 hi hz0 hz1 hz2 rfl (by decide) _ 6 _ rfl o2' ad l.length cap (l.map byteV) rfl (by simp) ((HR.out.below b12).news) (oneCell_bytes l) (by unfold maxLen; omega) (by omega) b12.size ?_; intro v3 w3 o3 g3 _)
  go_ret2
  refine ⟨v3, rfl, ?_, b12.grown g3 b12.size (fun k hk => (o2'.lt k hk).1)⟩
  have e : (frame l).map byteV = (head l).map byteV ++ l.map byteV := by simp [frame]
  rw [e, frame_length, Nat.add_comm]
  exact o3
set_option maxHeartbeats 1000000 in
theorem frame_none (w : World) :
    Calls Try.prog 24 #[.slice none 0 0] w (Framed [] w) := by
  obtain ⟨i0, hi, hz0, hz1, hz2⟩ := info_parts info5
  have hsum := (sum []).isLt
  go_enter Try.func24, Try.ntmps24
  go_wp2_with fail
  refine (put2 _ [] 0 w.heap.size _ (by omega) (by simp) (World.ownsRow_nil _ _ _ _) (Nat.le_refl _)).mono ?_
  rintro en w1 ⟨v1, rfl, o1, b1⟩
  go_wp2_with fail
  refine (sum_any [] none 0 _ (by simp) (RB.nil _ _)).mono ?_
  rintro en w1' ⟨rfl, rfl⟩
  go_wp2_with fail
  refine (put4 _ (be 2 0) (sum []).toNat w.heap.size _ (by omega) (by simp [be_length]) (by simpa [be_length] using o1) b1.size).mono ?_
  rintro en w2 ⟨v2, rfl, o2, b2⟩
  have b12 := b1.trans b2
  have o2' : w2.ownsRow w.heap.size 5 1 v2 6 ((head []).map byteV) := by simpa [be_length, head] using o2
  clear o1 o2 b1 b2
  go_wp2_with (at_builtin; refine wpList_append_own_none rfl (.tmp 17) (.tmp 18) 22 rfl w.heap.size 5 i0 1 Try.underlying22 hi _ 6 _ rfl o2' rfl ?_)
  go_ret2
  exact ⟨v2, rfl, by simpa [frame, head_length] using o2', b12⟩
theorem owns_lit (w : World) {base n : Nat} {xs : Array Value} {t : TypeId} (hb : base ≤ w.heap.size) (hn : xs.size = n) (hm : n ≤ maxLen) : (w.alloc (.cells xs t)).ownsRow base t 1 (.slice (some ⟨w.heap.size, 0, none⟩) n n) n xs.toList := by
  subst hn
  exact ⟨by simp, .inr ⟨w.heap.size, xs.size, xs, rfl, hb, heap_alloc_new w _, Nat.le_refl _, hm, by simp, by rw [Nat.mul_one, ← Array.length_toList, List.take_length]⟩⟩
theorem rframe_long (l : List UInt8) (a : Option Addr) (cap : Nat) (w : World) (hl : 4096 < l.length) (hl2 : (l.length : Int) ≤ 9223372036854775807) :
    Calls Try.prog 25 #[.slice a l.length cap] w fun en w' => en = .returned (.tuple #[.slice none 0 0, .int .i64 1]) ∧ w = w' := by
  have hl' : (4096 : Int) < (l.length : Int) := by omega
  go_enter Try.func25, Try.ntmps25
  go_wp2
  go_ret2
  exact ⟨rfl, rfl⟩
theorem head_cells (l : List UInt8) (h : l.length ≤ 4096) : (head l).map byteV = [.int .u8 ((l.length : Int) / 256), .int .u8 ((l.length : Int) % 256), .int .u8 (((sum l).toNat : Int) / 16777216), .int .u8 (((sum l).toNat : Int) / 65536 % 256), .int .u8 (((sum l).toNat : Int) / 256 % 256), .int .u8 (((sum l).toNat : Int) % 256)] := by
  have h1 := (sum l).isLt
  simp only [head, be, List.map_cons, List.map_nil, byteV, UInt8.toNat_ofNat', List.cons_append, List.nil_append, List.cons.injEq, Value.int.injEq, true_and, and_true]
  refine ⟨?_, ?_, ?_, ?_, ?_, ?_⟩ <;> omega
set_option maxHeartbeats 1000000 in
theorem rframe_some (l : List UInt8) (ad : Addr) (cap : Nat) (w : World) (hl : l.length ≤ 4096) (hr : RB w (some ad) l) :
    Calls Try.prog 25 #[.slice (some ad) l.length cap] w (Framed l w) := by
  have hl' : ¬ (4096 : Int) < (l.length : Int) := by omega
  have hl0 : (0 : Int) ≤ (l.length : Int) := by omega
  obtain ⟨i0, hi, hz0, hz1, hz2⟩ := info_parts info5
  have HR := Lib.hid hr
  clear hr
  have hsum := (sum l).isLt
  have hs1 : ((sum l).toNat : Int) < 4294967296 := by omega
  have hs0 : (0 : Int) ≤ ((sum l).toNat : Int) := by omega
  have hc := Lib.hid (head_cells l hl)
  go_enter Try.func25, Try.ntmps25
  go_wp2_with fail
  refine (rsum_any l _ _ _ (by omega) HR.out).mono ?_
  rintro en w1 ⟨rfl, rfl⟩
  go_wp2_with (at_builtin; refine wpList_append_own _ rfl (.tmp 30) (.tmp 31) 22 rfl w.heap.size 5 i0 (.int .u8 0) 1 1 Try.underlying22 hi hz0 hz1 hz2 rfl (by decide) _ 6 _ rfl (owns_lit w (Nat.le_refl _) rfl (by unfold maxLen; omega)) ad l.length cap (l.map byteV) rfl (by simp) ((HR.out.alloc _).news) (oneCell_bytes l) (by unfold maxLen; omega) (by omega) (by simp) ?_; intro v3 w3 o3 g3 _)
  go_ret2
  refine ⟨v3, rfl, ?_, (below_alloc w _).grown g3 (by simp) (fun k hk => by cases hk; exact Nat.le_refl _)⟩
  have e : (frame l).map byteV = (head l).map byteV ++ l.map byteV := by simp [frame]
  rw [e, frame_length, Nat.add_comm, hc.out]
  exact o3
set_option maxHeartbeats 1000000 in
theorem rframe_none (w : World) :
    Calls Try.prog 25 #[.slice none 0 0] w (Framed [] w) := by
  obtain ⟨i0, hi, hz0, hz1, hz2⟩ := info_parts info5
  have hc := Lib.hid (head_cells [] (by simp))
  go_enter Try.func25, Try.ntmps25
  go_wp2_with fail
  refine (rsum_any [] none 0 _ (by simp) (RB.nil _ _)).mono ?_
  rintro en w1 ⟨rfl, rfl⟩
  have hsum := (sum []).isLt
  have hs1 : ((sum []).toNat : Int) < 4294967296 := by omega
  have hs0 : (0 : Int) ≤ ((sum []).toNat : Int) := by omega
  go_wp2_with (at_builtin; refine wpList_append_own_none rfl (.tmp 30) (.tmp 31) 22 rfl w.heap.size 5 i0 1 Try.underlying22 hi _ 6 _ rfl (owns_lit w (Nat.le_refl _) rfl (by unfold maxLen; omega)) rfl ?_)
  go_ret2
  refine ⟨_, rfl, ?_, below_alloc w _⟩
  have e : (frame []).map byteV = (head []).map byteV := by simp [frame]
  rw [e, hc.out]
  exact owns_lit w (Nat.le_refl _) rfl (by unfold maxLen; omega)
end Go.Proofs.Ytopemjbakpahfaa
/-
  The contracts of Clone and cut: for all bytes.
-/
namespace Go.Proofs.Ytopemjbakpahfaa
open Go.RowKit Crc
/-- A slice value that reads as these bytes. -/
def Bs (w : World) (v : Value) (l : List UInt8) : Prop :=
  ∃ a cap, v = .slice a l.length cap ∧ l.length ≤ cap ∧ (a = none → cap = 0) ∧ RB w a l
theorem Bs.below {w w1 : World} {v : Value} {l : List UInt8} (h : Bs w v l) (hb : Below w.heap.size w w1) : Bs w1 v l := by
  obtain ⟨a, cap, e, h1, h2, h3⟩ := h
  exact ⟨a, cap, e, h1, h2, h3.below hb⟩
theorem frame_any (l : List UInt8) (a : Option Addr) (cap : Nat) (w : World) (hl : l.length ≤ 4096) (hc : l.length ≤ cap) (hn : a = none → cap = 0) (hr : RB w a l) :
    Calls Try.prog 24 #[.slice a l.length cap] w (Framed l w) := by
  cases a with
  | none =>
    have := hn rfl; subst this
    have : l = [] := List.eq_nil_of_length_eq_zero (by omega)
    subst this; exact frame_none w
  | some ad => exact frame_some l ad cap w hl hr
theorem rframe_any (l : List UInt8) (a : Option Addr) (cap : Nat) (w : World) (hl : l.length ≤ 4096) (hc : l.length ≤ cap) (hn : a = none → cap = 0) (hr : RB w a l) :
    Calls Try.prog 25 #[.slice a l.length cap] w (Framed l w) := by
  cases a with
  | none =>
    have := hn rfl; subst this
    have : l = [] := List.eq_nil_of_length_eq_zero (by omega)
    subst this; exact rframe_none w
  | some ad => exact rframe_some l ad cap w hl hr
@[go_sem ↓] theorem eq_nil22 (a : Option Addr) (n c : Nat) (w : World) : (binOp .eql 22 (.slice a n c) (.slice none 0 0)).run Try.prog w = .ok (.bool a.isNone) w :=
  Lib.run_eql_slice_nil w 22 5 a n c 0 0 Try.underlying22
/-- The same bytes in new memory. -/
def Cloned (l : List UInt8) (w : World) (en : Ending) (w' : World) : Prop :=
  ∃ v, en = .returned v ∧ w'.ownsRow w.heap.size 5 1 v l.length (l.map byteV) ∧ Below w.heap.size w w'
theorem clone_none (w : World) : Calls Try.prog 85 #[.slice none 0 0] w (Cloned [] w) := by
  go_enter Try.func85, Try.ntmps85
  go_wp2
  go_ret
  exact ⟨_, rfl, World.ownsRow_nil _ _ _ _, Below.refl _ _⟩
theorem clone_some (l : List UInt8) (ad : Addr) (cap : Nat) (w : World) (hl : l.length ≤ 1000000) (hr : RB w (some ad) l) :
    Calls Try.prog 85 #[.slice (some ad) l.length cap] w (Cloned l w) := by
  obtain ⟨i0, hi, hz0, hz1, hz2⟩ := info_parts info5
  have HR := Lib.hid hr
  clear hr
  go_enter Try.func85, Try.ntmps85
  go_wp2_with (at_builtin; refine wpList_append_own _ rfl (.tmp 5) (.tmp 6) 22 rfl w.heap.size 5 i0 (.int .u8 0) 1 1 Try.underlying22 hi hz0 hz1 hz2 rfl (by decide) _ 0 [] rfl (owns_lit w (xs := #[]) (Nat.le_refl _) rfl (by unfold maxLen; omega)) ad l.length cap (l.map byteV) rfl (by simp) ((HR.out.alloc _).news) (oneCell_bytes l) (by unfold maxLen; omega) (by omega) (by simp) ?_; intro v3 w3 o3 g3 _)
  go_ret
  exact ⟨v3, rfl, by simpa using o3, (below_alloc w _).grown g3 (by simp) (fun k hk => by cases hk; exact Nat.le_refl _)⟩
theorem clone_any (l : List UInt8) (a : Option Addr) (cap : Nat) (w : World) (hl : l.length ≤ 1000000) (hc : l.length ≤ cap) (hn : a = none → cap = 0) (hr : RB w a l) :
    Calls Try.prog 85 #[.slice a l.length cap] w (Cloned l w) := by
  cases a with
  | none =>
    have := hn rfl; subst this
    have : l = [] := List.eq_nil_of_length_eq_zero (by omega)
    subst this; exact clone_none w
  | some ad => exact clone_some l ad cap w hl hr
theorem number_at (l : List UInt8) (a : Option Addr) (len cap : Nat) (w : World) (hlen : l.length = len) (hl : l.length ≤ 4) (hr : RB w a l) :
    Calls Try.prog 101 #[.slice a len cap] w fun e w' => e = .returned (.int .u64 (num l : Int)) ∧ w = w' := by
  subst hlen; exact number_any l a cap w hl hr
theorem sum_at (l : List UInt8) (a : Option Addr) (len cap : Nat) (w : World) (hlen : l.length = len) (hl : (l.length : Int) ≤ 9223372036854775807) (hr : RB w a l) :
    Calls Try.prog 28 #[.slice a len cap] w fun e w' => e = .returned (.int .u32 ((sum l).toNat : Int)) ∧ w = w' := by
  subst hlen; exact sum_any l a cap w hl hr
def NoCut (w : World) (en : Ending) (w' : World) : Prop := ∃ v1 v2, en = .returned (.tuple #[v1, v2, .bool false]) ∧ Below w.heap.size w w'
theorem cut_short (b : List UInt8) (a : Option Addr) (cap : Nat) (w : World) (h : b.length < 6) : Calls Try.prog 84 #[.slice a b.length cap] w (NoCut w) := by
  have h' : (b.length : Int) < 6 := by omega
  go_enter Try.func84, Try.ntmps84
  go_wp2
  go_ret3
  exact ⟨_, _, rfl, Below.refl _ _⟩
theorem cut_far (b : List UInt8) (g off : Nat) (cap : Nat) (w : World) (h : 6 ≤ b.length) (hc : b.length ≤ cap) (hb : b.length ≤ 1000000) (hr : RB w (some ⟨g, off, none⟩) b) (hn : 4096 < num (b.take 2) ∨ b.length - 6 < num (b.take 2)) :
    Calls Try.prog 84 #[.slice (some ⟨g, off, none⟩) b.length cap] w (NoCut w) := by
  have h' : ¬ (b.length : Int) < 6 := by omega
  have hc2 : (2 : Int) ≤ (cap : Int) := by omega
  have hb' : (b.length : Int) ≤ 1000000 := by omega
  have HR := Lib.hid hr
  clear hr
  have HT : Hid ((b.take 2).length = 2) := by show _ = _; simp; omega
  have hlt := num_lt (b.take 2)
  rw [HT.out] at hlt
  have hn' : 4096 < ((num (b.take 2) : Nat) : Int) ∨ (b.length : Int) - 6 < ((num (b.take 2) : Nat) : Int) := by omega
  go_enter Try.func84, Try.ntmps84
  go_wp2_with fail
  refine (number_at (b.take 2) _ _ _ _ HT.out (by rw [HT.out]; omega) (HR.out.take 2)).mono ?_
  rintro en w1 ⟨rfl, rfl⟩
  generalize num (b.take 2) = n at hlt hn' hn
  have hnn : (n : Int) < 65536 := by omega
  by_cases h1 : 4096 < (n : Int)
  · go_wp2
    go_ret3
    exact ⟨_, _, rfl, Below.refl _ _⟩
  · have h2 : (b.length : Int) - 6 < (n : Int) := by omega
    go_wp2
    go_ret3
    exact ⟨_, _, rfl, Below.refl _ _⟩
end Go.Proofs.Ytopemjbakpahfaa
/-
  The contract of cut: for all bytes.
-/
namespace Go.Proofs.Ytopemjbakpahfaa
open Go.RowKit Crc
/-- What cut hands back: two slices of the bytes that it was given, and whether there is a frame. -/
def CutOf (b : List UInt8) (a : Option Addr) (w : World) (en : Ending) (w' : World) : Prop :=
  Below w.heap.size w w' ∧ ((cut b = none ∧ ∃ v1 v2, en = .returned (.tuple #[v1, v2, .bool false])) ∨
    ∃ h r v1 v2, cut b = some (h, r) ∧ en = .returned (.tuple #[v1, v2, .bool true]) ∧ ∀ w0, RB w0 a b → Bs w0 v1 h ∧ Bs w0 v2 r)
theorem tuple3_eq {a b : Value} {x y : Bool} (h : x = y) : Ending.returned (.tuple #[a, b, .bool x]) = .returned (.tuple #[a, b, .bool y]) := by rw [h]
theorem wu (n : Nat) (h : n < 2 ^ 32) : IntKind.u64.wrap (n : Int) = (n : Int) := IntWalk.u64_in _ (by omega)
theorem RB.drop_take {w : World} {g off : Nat} {l : List UInt8} (h : RB w (some ⟨g, off, none⟩) l) (k n : Nat) : RB w (some ⟨g, off + k, none⟩) ((l.drop k).take n) := (h.drop k).take n
theorem RB.off {w : World} {g off off' : Nat} {l : List UInt8} (h : RB w (some ⟨g, off, none⟩) l) (e : off = off') : RB w (some ⟨g, off', none⟩) l := by subst e; exact h

set_option maxHeartbeats 1000000 in
theorem cut_main1 (b : List UInt8) (g off : Nat) (w : World) (h : 6 ≤ b.length) (hc : b.length ≤ 6) (hr : RB w (some ⟨g, off, none⟩) b) (hb6 : b.length = 6) (hn : num (b.take 2) = 0) (hn2 : 0 ≤ b.length - 6) :
    Calls Try.prog 84 #[.slice (some ⟨g, off, none⟩) b.length 6] w (CutOf b (some ⟨g, off, none⟩) w) := by
  have h' : ¬ (b.length : Int) < 6 := by omega
  have hb' : (b.length : Int) ≤ 1000000 := by omega
  have hbc : (b.length : Int) ≤ ((6 : Nat) : Int) := by omega
  have hc2 : (2 : Int) ≤ ((6 : Nat) : Int) := by omega
  have hc6 : (6 : Int) ≤ ((6 : Nat) : Int) := by omega
  have HR := Lib.hid hr
  have HN := Lib.hid hn
  clear hr hn
  have HT : Hid ((b.take 2).length = 2) := by show _ = _; simp; omega
  have HT4 : Hid (((b.drop 2).take 4).length = 4) := by show _ = _; simp; omega
  have HTn : Hid (([] : List UInt8).length = 0) := rfl
  have hn1' : ((0 : Nat) : Int) ≤ 4096 := by omega
  have hn2' : ¬ (b.length : Int) - 6 < ((0 : Nat) : Int) := by omega
  have hn3 : 6 + ((0 : Nat) : Int) ≤ (b.length : Int) := by omega
  have hn4 : 6 + ((0 : Nat) : Int) ≤ ((6 : Nat) : Int) := by omega
  have hn0 : (0 : Int) ≤ ((0 : Nat) : Int) := by omega
  have hsum := (sum ([] : List UInt8)).isLt
  have hnum := num_lt ((b.drop 2).take 4)
  rw [HT4.out] at hnum
  have hnum2 : (256 : Nat) ^ 4 = 4294967296 := by decide
  have HNI := Lib.hid hnum
  clear hnum hnum2
  have HB6 := Lib.hid hb6
  go_enter Try.func84, Try.ntmps84
  go_wp2_with fail
  refine (number_at (b.take 2) _ _ _ _ HT.out (by rw [HT.out]; omega) (HR.out.take 2)).mono ?_
  rintro en w1 ⟨rfl, rfl⟩
  rw [HN.out]
  go_wp2
  go_quiet (fail)
  go_wp2
  have RW := HR.out.drewN nq
  have BW := below_drewN (Below.refl w.heap.size w) nq
  generalize w.drewN nq = W at RW BW ⊢
  have HW := Lib.hid RW
  clear RW
  refine wp_region_keep (by kernel_rfl) (by kernel_rfl) ?_
  repeat (first
    | go_big_quiet_skip
    | (go_big_quiet_want
       apply quiet_mk
       · intro w' hw'
         go_simp
         first
           | rfl
           | (go_at_call 28; refine (sum_at ([] : List UInt8) _ _ _ _ HTn.out (by rw [HTn.out]; omega) (RB.nil _ _)).mono ?_; rintro e w'' ⟨rfl, rfl⟩; exact ⟨rfl, hw'⟩)
           | (go_at_call 101; refine (number_at ((b.drop 2).take 4) _ _ _ _ HT4.out (by rw [HT4.out]; omega) ((HW.out.below hw').drop_take 2 4)).mono ?_; rintro e w'' ⟨rfl, rfl⟩; exact ⟨rfl, hw'⟩)
       go_big_quiet_on
       simp only [Act.put, List.setIfInBounds_toArray, List.set_cons_succ, List.set_cons_zero]))
  refine wpQuiet_nil ?_
  intro w' hw'
  have hdec : (((((sum ([] : List UInt8)).toNat : Nat) : Int) == ((num ((b.drop 2).take 4) : Nat) : Int)) = true ∧ cut b = some (([] : List UInt8), [])) ∨ (((((sum ([] : List UInt8)).toNat : Nat) : Int) == ((num ((b.drop 2).take 4) : Nat) : Int)) = false ∧ cut b = none) := by
    have hn : num (b.take 2) = 0 := HN.out
    by_cases he : (sum ([] : List UInt8)).toNat = num ((b.drop 2).take 4)
    · refine .inl ⟨by simp [he], ?_⟩
      unfold cut
      rw [hn, if_neg (by omega), if_neg (by omega), List.take_zero, if_pos he]; simp; omega
    · refine .inr ⟨by rw [beq_eq_false_iff_ne]; omega, ?_⟩
      unfold cut
      rw [hn, if_neg (by omega), if_neg (by omega), List.take_zero, if_neg he]
  have HD := Lib.hid hdec
  clear hdec
  go_wp2
  go_ret3
  refine ⟨BW.trans (hw'.mono BW.size), ?_⟩
  rcases HD.out with ⟨e1, e2⟩ | ⟨e1, e2⟩
  · refine .inr ⟨_, _, _, _, e2, tuple3_eq (by rw [wu _ hsum]; exact e1), fun w0 RR => ⟨?_, ?_⟩⟩
    · exact ⟨_, _, rfl, by simp, fun h => (by cases h), RB.nil _ _⟩
    · exact ⟨_, _, rfl, by simp, fun h => (by cases h), RB.nil _ _⟩
  · exact .inl ⟨e2, _, _, tuple3_eq (by rw [wu _ hsum]; exact e1)⟩

set_option maxHeartbeats 1000000 in
theorem cut_main2 (b : List UInt8) (g off : Nat) (cap n : Nat) (w : World) (h : 6 ≤ b.length) (hc : b.length ≤ cap) (hb : b.length ≤ 1000000) (hr : RB w (some ⟨g, off, none⟩) b) (hn : num (b.take 2) = n) (hnp : 0 < n) (hcap : cap ≤ 6 + n) (hn1 : n ≤ 4096) (hn2 : n ≤ b.length - 6) :
    Calls Try.prog 84 #[.slice (some ⟨g, off, none⟩) b.length cap] w (CutOf b (some ⟨g, off, none⟩) w) := by
  have h' : ¬ (b.length : Int) < 6 := by omega
  have hb' : (b.length : Int) ≤ 1000000 := by omega
  have hbc : (b.length : Int) ≤ ((cap : Nat) : Int) := by omega
  have hc2 : (2 : Int) ≤ ((cap : Nat) : Int) := by omega
  have hc6 : (6 : Int) ≤ ((cap : Nat) : Int) := by omega
  have HR := Lib.hid hr
  have HN := Lib.hid hn
  clear hr hn
  have HT : Hid ((b.take 2).length = 2) := by show _ = _; simp; omega
  have HT4 : Hid (((b.drop 2).take 4).length = 4) := by show _ = _; simp; omega
  have HTn : Hid (((b.drop 6).take n).length = n) := by show _ = _; simp; omega
  have hn1' : ((n : Nat) : Int) ≤ 4096 := by omega
  have hn2' : ¬ (b.length : Int) - 6 < ((n : Nat) : Int) := by omega
  have hn3 : 6 + ((n : Nat) : Int) ≤ (b.length : Int) := by omega
  have hn4 : 6 + ((n : Nat) : Int) ≤ ((cap : Nat) : Int) := by omega
  have hn0 : (0 : Int) ≤ ((n : Nat) : Int) := by omega
  have hsum := (sum ((b.drop 6).take n)).isLt
  have hnum := num_lt ((b.drop 2).take 4)
  rw [HT4.out] at hnum
  have hnum2 : (256 : Nat) ^ 4 = 4294967296 := by decide
  have HNI := Lib.hid hnum
  clear hnum hnum2
  have hcap2 : ¬ cap = 2 := by omega
  have hn5 : ((cap : Nat) : Int) ≤ 6 + (n : Int) := by omega
  have hbl : b.length = 6 + n := by omega
  have HBL := Lib.hid hbl
  clear hbl
  go_enter Try.func84, Try.ntmps84
  go_wp2_with fail
  refine (number_at (b.take 2) _ _ _ _ HT.out (by rw [HT.out]; omega) (HR.out.take 2)).mono ?_
  rintro en w1 ⟨rfl, rfl⟩
  rw [HN.out]
  go_wp2
  go_quiet (fail)
  go_wp2
  have RW := HR.out.drewN nq
  have BW := below_drewN (Below.refl w.heap.size w) nq
  generalize w.drewN nq = W at RW BW ⊢
  have HW := Lib.hid RW
  clear RW
  refine wp_region_keep (by kernel_rfl) (by kernel_rfl) ?_
  repeat (first
    | go_big_quiet_skip
    | (go_big_quiet_want
       apply quiet_mk
       · intro w' hw'
         go_simp
         first
           | rfl
           | (go_at_call 28; refine (sum_at ((b.drop 6).take n) _ _ _ _ HTn.out (by rw [HTn.out]; omega) ((HW.out.below hw').drop_take 6 n)).mono ?_; rintro e w'' ⟨rfl, rfl⟩; exact ⟨rfl, hw'⟩)
           | (go_at_call 101; refine (number_at ((b.drop 2).take 4) _ _ _ _ HT4.out (by rw [HT4.out]; omega) ((HW.out.below hw').drop_take 2 4)).mono ?_; rintro e w'' ⟨rfl, rfl⟩; exact ⟨rfl, hw'⟩)
       go_big_quiet_on
       simp only [Act.put, List.setIfInBounds_toArray, List.set_cons_succ, List.set_cons_zero]))
  refine wpQuiet_nil ?_
  intro w' hw'
  have hdec : (((((sum ((b.drop 6).take n)).toNat : Nat) : Int) == ((num ((b.drop 2).take 4) : Nat) : Int)) = true ∧ cut b = some ((b.drop 6).take n, (b.drop 6).drop n)) ∨ (((((sum ((b.drop 6).take n)).toNat : Nat) : Int) == ((num ((b.drop 2).take 4) : Nat) : Int)) = false ∧ cut b = none) := by
    have hn : num (b.take 2) = n := HN.out
    by_cases he : (sum ((b.drop 6).take n)).toNat = num ((b.drop 2).take 4)
    · refine .inl ⟨by simp [he], ?_⟩
      unfold cut
      rw [hn, if_neg (by omega), if_neg (by omega), if_pos he]
    · refine .inr ⟨by rw [beq_eq_false_iff_ne]; omega, ?_⟩
      unfold cut
      rw [hn, if_neg (by omega), if_neg (by omega), if_neg he]
  have HD := Lib.hid hdec
  clear hdec
  go_wp2
  go_ret3
  refine ⟨BW.trans (hw'.mono BW.size), ?_⟩
  rcases HD.out with ⟨e1, e2⟩ | ⟨e1, e2⟩
  · refine .inr ⟨_, _, _, _, e2, tuple3_eq (by rw [wu _ hsum]; exact e1), fun w0 RR => ⟨?_, ?_⟩⟩
    · exact ⟨_, _, by rw [HTn.out]; rfl, by rw [HTn.out]; omega, fun h => (by cases h), RR.drop_take 6 n⟩
    · exact ⟨_, _, by rw [show ((b.drop 6).drop n).length = b.length - (6 + n) by simp <;> omega]; rfl, by simp; have := HBL.out; omega, fun h => (by cases h), by rw [show (b.drop 6).drop n = [] by simp; have := HBL.out; omega]; exact RB.nil _ _⟩
  · exact .inl ⟨e2, _, _, tuple3_eq (by rw [wu _ hsum]; exact e1)⟩

set_option maxHeartbeats 1000000 in
theorem cut_main3 (b : List UInt8) (g off : Nat) (cap n : Nat) (w : World) (h : 6 ≤ b.length) (hc : b.length ≤ cap) (hb : b.length ≤ 1000000) (hr : RB w (some ⟨g, off, none⟩) b) (hn : num (b.take 2) = n) (hcap : 6 + n < cap) (hn1 : n ≤ 4096) (hn2 : n ≤ b.length - 6) :
    Calls Try.prog 84 #[.slice (some ⟨g, off, none⟩) b.length cap] w (CutOf b (some ⟨g, off, none⟩) w) := by
  have h' : ¬ (b.length : Int) < 6 := by omega
  have hb' : (b.length : Int) ≤ 1000000 := by omega
  have hbc : (b.length : Int) ≤ ((cap : Nat) : Int) := by omega
  have hc2 : (2 : Int) ≤ ((cap : Nat) : Int) := by omega
  have hc6 : (6 : Int) ≤ ((cap : Nat) : Int) := by omega
  have HR := Lib.hid hr
  have HN := Lib.hid hn
  clear hr hn
  have HT : Hid ((b.take 2).length = 2) := by show _ = _; simp; omega
  have HT4 : Hid (((b.drop 2).take 4).length = 4) := by show _ = _; simp; omega
  have HTn : Hid (((b.drop 6).take n).length = n) := by show _ = _; simp; omega
  have hn1' : ((n : Nat) : Int) ≤ 4096 := by omega
  have hn2' : ¬ (b.length : Int) - 6 < ((n : Nat) : Int) := by omega
  have hn3 : 6 + ((n : Nat) : Int) ≤ (b.length : Int) := by omega
  have hn4 : 6 + ((n : Nat) : Int) ≤ ((cap : Nat) : Int) := by omega
  have hn0 : (0 : Int) ≤ ((n : Nat) : Int) := by omega
  have hsum := (sum ((b.drop 6).take n)).isLt
  have hnum := num_lt ((b.drop 2).take 4)
  rw [HT4.out] at hnum
  have hnum2 : (256 : Nat) ^ 4 = 4294967296 := by decide
  have HNI := Lib.hid hnum
  clear hnum hnum2
  have hcap2 : ¬ cap = 2 := by omega
  go_enter Try.func84, Try.ntmps84
  go_wp2_with fail
  refine (number_at (b.take 2) _ _ _ _ HT.out (by rw [HT.out]; omega) (HR.out.take 2)).mono ?_
  rintro en w1 ⟨rfl, rfl⟩
  rw [HN.out]
  go_wp2
  go_quiet (fail)
  go_wp2
  have RW := HR.out.drewN nq
  have BW := below_drewN (Below.refl w.heap.size w) nq
  generalize w.drewN nq = W at RW BW ⊢
  have HW := Lib.hid RW
  clear RW
  refine wp_region_keep (by kernel_rfl) (by kernel_rfl) ?_
  repeat (first
    | go_big_quiet_skip
    | (go_big_quiet_want
       apply quiet_mk
       · intro w' hw'
         go_simp
         first
           | rfl
           | (go_at_call 28; refine (sum_at ((b.drop 6).take n) _ _ _ _ HTn.out (by rw [HTn.out]; omega) ((HW.out.below hw').drop_take 6 n)).mono ?_; rintro e w'' ⟨rfl, rfl⟩; exact ⟨rfl, hw'⟩)
           | (go_at_call 101; refine (number_at ((b.drop 2).take 4) _ _ _ _ HT4.out (by rw [HT4.out]; omega) ((HW.out.below hw').drop_take 2 4)).mono ?_; rintro e w'' ⟨rfl, rfl⟩; exact ⟨rfl, hw'⟩)
       go_big_quiet_on
       simp only [Act.put, List.setIfInBounds_toArray, List.set_cons_succ, List.set_cons_zero]))
  refine wpQuiet_nil ?_
  intro w' hw'
  have hdec : (((((sum ((b.drop 6).take n)).toNat : Nat) : Int) == ((num ((b.drop 2).take 4) : Nat) : Int)) = true ∧ cut b = some ((b.drop 6).take n, (b.drop 6).drop n)) ∨ (((((sum ((b.drop 6).take n)).toNat : Nat) : Int) == ((num ((b.drop 2).take 4) : Nat) : Int)) = false ∧ cut b = none) := by
    have hn : num (b.take 2) = n := HN.out
    by_cases he : (sum ((b.drop 6).take n)).toNat = num ((b.drop 2).take 4)
    · refine .inl ⟨by simp [he], ?_⟩
      unfold cut
      rw [hn, if_neg (by omega), if_neg (by omega), if_pos he]
    · refine .inr ⟨by rw [beq_eq_false_iff_ne]; omega, ?_⟩
      unfold cut
      rw [hn, if_neg (by omega), if_neg (by omega), if_neg he]
  have HD := Lib.hid hdec
  clear hdec
  go_wp2
  go_ret3
  refine ⟨BW.trans (hw'.mono BW.size), ?_⟩
  rcases HD.out with ⟨e1, e2⟩ | ⟨e1, e2⟩
  · refine .inr ⟨_, _, _, _, e2, tuple3_eq (by rw [wu _ hsum]; exact e1), fun w0 RR => ⟨?_, ?_⟩⟩
    · exact ⟨_, _, by rw [HTn.out]; rfl, by rw [HTn.out]; omega, fun h => (by cases h), RR.drop_take 6 n⟩
    · exact ⟨_, _, by rw [show ((b.drop 6).drop n).length = b.length - (6 + n) by simp <;> omega]; rfl, by simp <;> omega, fun h => (by cases h), ((RR.drop 6).drop n).off (by omega)⟩
  · exact .inl ⟨e2, _, _, tuple3_eq (by rw [wu _ hsum]; exact e1)⟩
theorem cut_any (b : List UInt8) (a : Option Addr) (cap : Nat) (w : World) (hc : b.length ≤ cap) (hb : b.length ≤ 1000000) (hr : RB w a b) : Calls Try.prog 84 #[.slice a b.length cap] w (CutOf b a w) := by
  by_cases h6 : b.length < 6
  · refine (cut_short b a cap w h6).mono ?_
    rintro en w' ⟨v1, v2, e, hbl⟩
    exact ⟨hbl, .inl ⟨by unfold cut; rw [if_pos h6], v1, v2, e⟩⟩
  · obtain ⟨g, off, rfl, _, _⟩ := hr 0 (by omega)
    by_cases hn : 4096 < num (b.take 2) ∨ b.length - 6 < num (b.take 2)
    · refine (cut_far b g off cap w (by omega) hc hb hr hn).mono ?_
      rintro en w' ⟨v1, v2, e, hbl⟩
      exact ⟨hbl, .inl ⟨by unfold cut; rw [if_neg h6, if_pos hn], v1, v2, e⟩⟩
    · rcases Nat.lt_or_ge (6 + num (b.take 2)) cap with h1 | h1
      · exact cut_main3 b g off cap _ w (by omega) hc hb hr rfl h1 (by omega) (by omega)
      · by_cases h0 : num (b.take 2) = 0
        · have hc6 : cap = 6 := by omega
          subst hc6
          exact cut_main1 b g off w (by omega) hc hr (by omega) h0 (by omega)
        · exact cut_main2 b g off cap _ w (by omega) hc hb hr rfl (by omega) h1 (by omega) (by omega)
end Go.Proofs.Ytopemjbakpahfaa
/-
  The contract of Cut: for all bytes.
-/
namespace Go.Proofs.Ytopemjbakpahfaa
open Go.RowKit Crc
/-- What Cut hands back: bytes of new memory, or none. -/
def CutNew (b : List UInt8) (w : World) (en : Ending) (w' : World) : Prop :=
  Below w.heap.size w w' ∧ ((cut b = none ∧ en = .returned (.tuple #[.slice none 0 0, .slice none 0 0, .int .i64 4])) ∨
    ∃ h r v1 v2, cut b = some (h, r) ∧ en = .returned (.tuple #[v1, v2, .int .i64 0]) ∧ w'.ownsRow w.heap.size 5 1 v1 h.length (h.map byteV) ∧ w'.ownsRow w.heap.size 5 1 v2 r.length (r.map byteV))
theorem Cut_any (b : List UInt8) (a : Option Addr) (cap : Nat) (w : World) (hc : b.length ≤ cap) (hb : b.length ≤ 1000000) (hr : RB w a b) : Calls Try.prog 26 #[.slice a b.length cap] w (CutNew b w) := by
  go_enter Try.func26, Try.ntmps26
  go_wp2_with fail
  refine (cut_any b a cap w hc hb hr).mono ?_
  rintro en w1 ⟨hb1, ⟨e, v1, v2, rfl⟩ | ⟨h, r, v1, v2, e, rfl, hpp⟩⟩
  · go_wp2
    go_ret3
    exact ⟨hb1, .inl ⟨e, rfl⟩⟩
  · obtain ⟨⟨a1, c1, rfl, l1, n1, r1⟩, ⟨a2, c2, rfl, l2, n2, r2⟩⟩ := hpp w hr
    have hlen := (cut_some e).2.2
    replace r1 := r1.below hb1
    replace r2 := r2.below hb1
    have E := Lib.hid e
    have R1 := Lib.hid r1
    have R2 := Lib.hid r2
    clear e r1 r2
    go_wp2_with fail
    refine (clone_any h a1 c1 w1 (by omega) l1 n1 R1.out).mono ?_
    rintro en w2 ⟨v3, rfl, o3, hb2⟩
    go_wp2_with fail
    refine (clone_any r a2 c2 w2 (by omega) l2 n2 (R2.out.below hb2)).mono ?_
    rintro en w3 ⟨v4, rfl, o4, hb3⟩
    go_wp2
    go_ret3
    have s2 := hb1.size
    have s3 := hb2.size
    exact ⟨hb1.trans ((hb2.mono s2).trans (hb3.mono (by omega))), .inr ⟨h, r, v3, v4, E.out, rfl, ownsRow_base (owns_below o3 hb3) s2, ownsRow_base o4 (by omega)⟩⟩
end Go.Proofs.Ytopemjbakpahfaa
/-
  Appending bytes to bytes of the call's own, in one law for nil and for others; a literal's bytes. No condition but that the lengths are small.
-/
namespace Go.Proofs.Ytopemjbakpahfaa
open Go.RowKit Crc
theorem app_bytes {ops : Array Oper} {rest : List Oper} {o : Oper} {a : Act} {Q : Exit → Act → World → Prop} {w : World} (hgd : o.guard = none) (s x : Operand)
    (ho : o.op = .call { callee := .builtin .append, args := #[s, x], argTypes := #[22, 22] })
    (base : Nat) (v : Value) (l m : List UInt8) (c : Nat) (hs : a.eval s = v) (hown : w.ownsRow base 5 1 v l.length (l.map byteV)) (pa : Option Addr) (hx : a.eval x = .slice pa m.length c) (hn : pa = none → c = 0 ∧ m = [])
    (hr : RB w pa m) (hb : l.length + m.length ≤ 1000000000) (b3 : base ≤ w.heap.size)
    (hK : ∀ v' w', w'.ownsRow base 5 1 v' (l ++ m).length ((l ++ m).map byteV) → Below base w w' → w.grownBy w' v.ownBlock → wpList Try.prog ops Q rest (a.put o.dst v') w') : wpList Try.prog ops Q (o :: rest) a w := by
  obtain ⟨i0, hi, hz0, hz1, hz2⟩ := info_parts info5
  cases pa with
  | none =>
    obtain ⟨rfl, rfl⟩ := hn rfl
    refine wpList_append_own_none hgd s x 22 ho base 5 i0 1 Try.underlying22 hi _ l.length _ hs hown hx ?_
    exact hK _ _ (by simpa using hown) (Below.refl _ _) ⟨rfl, rfl, rfl, Nat.le_refl _, fun _ _ _ => rfl⟩
  | some ad =>
    refine wpList_append_own _ hgd s x 22 ho base 5 i0 (.int .u8 0) 1 1 Try.underlying22 hi hz0 hz1 hz2 rfl (by decide) _ l.length _ hs hown ad m.length c (m.map byteV) hx (by simp) hr.news (oneCell_bytes m) (by unfold maxLen; omega) (by omega) b3 ?_
    intro v' w' own' g' _
    exact hK v' w' (by simpa using own') ((Below.refl _ w).grown g' b3 (fun k hk => (hown.lt k hk).1)) g'
/-- A literal's bytes. -/
theorem RB.lit (w : World) (l : List UInt8) (xs : Array Value) (fr : Nat × Nat) (n : Nat) (hn : w.heap.size = n) (hx : xs = (l.map byteV).toArray) : RB (w.alloc (.cells xs 5 fr)) (some ⟨n, 0, none⟩) l := by
  subst hn hx
  intro i hi
  refine ⟨w.heap.size, 0, rfl, by simp, ?_⟩
  rw [Nat.zero_add, cell_of_row _ _ i _ 5 fr (heap_alloc_new w _)]
  simp [hi]
theorem owns_bytes (w : World) (l : List UInt8) (xs : Array Value) (base n : Nat) (hn : w.heap.size = n) (hb : base ≤ n) (hx : xs = (l.map byteV).toArray) (hm : l.length ≤ maxLen) : (w.alloc (.cells xs 5)).ownsRow base 5 1 (.slice (some ⟨n, 0, none⟩) l.length l.length) l.length (l.map byteV) := by
  subst hn hx
  have h := owns_lit w (xs := (l.map byteV).toArray) (t := 5) hb (n := l.length) (by simp) hm
  simpa using h
theorem conv_const (w : World) (C : Array Value) (n c g : Nat) (hg : w.heap.size = g) : (convert 22 22 (.slice (some ⟨g, 0, none⟩) n c)).run Try.prog (w.alloc (.cells C 5)) = .ok (.slice (some ⟨g, 0, none⟩) n c) (w.alloc (.cells C 5 (C.size, C.size + 1))) := by
  subst hg
  exact Lib.run_convert_bytes_const w 22 5 C n c Try.underlying22 Try.underlying5
end Go.Proofs.Ytopemjbakpahfaa
/-
  A range over a function whose iterator keeps its state in one captured cell (block Bn): the contract of the iterator, and the law for its caller.
-/
namespace Go.Proofs.Ytopemjbakpahfaa
open Go.RowKit
/-- What a round keeps: what lay below n₀, and the captured cell's block. -/
def Keep (n₀ Bn : Nat) (W W' : World) : Prop := Below n₀ W W' ∧ W'.heap[Bn]? = W.heap[Bn]?
theorem Keep.trans {n₀ Bn : Nat} {A B C : World} (h : Keep n₀ Bn A B) (k : Keep n₀ Bn B C) : Keep n₀ Bn A C := ⟨h.1.trans k.1, k.2.trans h.2⟩
/-- The iterator's contract: between two rounds it changes no old block but Bn; a round keeps what lay below n₀, and Bn. -/
def SeqCell {α : Type} (F : Fence) (n : Nat) (P : Program) (g : Nat) (lb : Array Value) (encs : α → Array Value) (n₀ Bn : Nat) (G : List α → α → Prop) (S : List α → Prop) (w : World) : Prop :=
  ∀ (l : Nat) (J : List α → World → Prop) (W : World), Keep n₀ Bn w W →
    (∀ s A B row, J s A → A.grownBy B row → (∀ r, row = some r → r = Bn) → J s B) →
    (∀ pre x W1, J pre W1 → G pre x → YieldAt F (n - 1) P l (encs x) W1 fun e W' => e = .returned (.bool true) ∧ J (pre ++ [x]) W' ∧ Keep n₀ Bn W1 W') →
    J [] W →
    CallsIn F n P g (#[.func (.yield l) #[] #[]] ++ lb) W fun e W' => (∃ v, e = .returned v) ∧ ∃ xs, S xs ∧ J xs W'
/-- How a round may end. -/
def roundCell {α : Type} (B n₀ Bn : Nat) (I : List α → World → Prop) (xs : List α) (W : World) : Exit → Act → World → Prop
  | .normal, _, W' => KeepsFrom B W W' ∧ Keep n₀ Bn W W' ∧ I xs W'
  | _, _, _ => False
theorem below_put {n₀ : Nat} {W : World} {l : Nat} {o : Obj} (o' : Obj) (hl : n₀ ≤ l) (h : W.heap[l]? = some o) : Below n₀ W (W.putObj l o') :=
  (Below.refl n₀ W).grown (grownBy_putObj' W l o') (by have := (Array.getElem?_eq_some_iff.1 h).1; omega) (fun k e => by cases e; omega)
theorem keep_put {n₀ Bn : Nat} {W : World} {l : Nat} {o : Obj} (o' : Obj) (hl : n₀ ≤ l) (hB : Bn ≠ l) (h : W.heap[l]? = some o) : Keep n₀ Bn W (W.putObj l o') :=
  ⟨below_put o' hl h, World.putObj_heap_other hB⟩
variable {F : Fence} {n : Nat} {P : Program}
theorem range_cell {α : Type} {g : Operand} {ps : Array Tmp} {assign body : Code} {Q : Exit → Act → World → Prop} {a : Act} {w : World}
    (hro : F.round = none) (h1 : 1 ≤ n) {gf : Nat} {lb : Array Value} (hg : a.eval g = .func (.func gf) #[] lb) (hFg : F.fn gf) (eg : ∀ args w, (callFunc gf args).run P w = .ok (.enter gf args) w)
    {encs : α → Array Value} {n₀ Bn : Nat} (hn : n₀ ≤ w.heap.size) (hB : Bn < w.heap.size) {G : List α → α → Prop} {S : List α → Prop} (hseq : SeqCell F (n - 1) P gf lb encs n₀ Bn G S w)
    (hps : ∀ x, (encs x).size = ps.size)
    (I : List α → World → Prop) (hI : ∀ s A B row, I s A → A.grownBy B row → (∀ r, row = some r → r = Bn ∨ (w.heap.size ≤ r ∧ ∃ o : Obj, A.heap[r]? = some o ∧ o.isCells = false)) → I s B) (h0 : I [] w) (a₁ : α → Act)
    (hassign : ∀ (l : Nat) (x : α) (W : World) (K : Act → World → Prop), K (a₁ x) W →
      assign.wpIn (F.inRound l) (n - 1 - 1) P (Exit.then K (fun _ _ _ => False)) { tmps := (ps.zip (encs x)).foldl (fun t (p, v) => t.setIfInBounds p v) a.tmps, defers := [] } W)
    (hbody : ∀ (l : Nat) (pre : List α) (x : α) (W : World), I pre W → G pre x → w.heap.size ≤ W.heap.size → body.wpIn (F.inRound l) (n - 1 - 1) P (roundCell w.heap.size n₀ Bn I (pre ++ [x]) W) (a₁ x) W)
    (hdone : ∀ (xs : List α) (W : World), S xs → I xs W → W.heap[w.heap.size]? = some (.deferred (some [])) → Q .normal { a with defers := { target := .collected w.heap.size, args := #[] } :: a.defers } W) :
    (Code.rangeFunc g ps assign body).wpIn F n P Q a w := by
  refine wpIn_rangeFunc fun fn hfn => ?_
  rw [hro]
  obtain ⟨rec, hrec⟩ : ∃ rec : LoopState → Loop, rec = fun st => { state := st, pending := none, fn, tmps := a.tmps, params := ps, assign, body, defers := w.heap.size } := ⟨_, rfl⟩
  obtain ⟨W1, hW1⟩ : ∃ W1, (w.alloc (.deferred (some []))).alloc (.loop (rec .ready)) = W1 := ⟨_, rfl⟩
  have hL1 : W1.heap[w.heap.size + 1]? = some (.loop (rec .ready)) := by
    rw [← hW1]; have := World.alloc_heap_new (w.alloc (.deferred (some []))) (.loop (rec .ready)); rwa [World.size_alloc] at this
  have hK1 : W1.heap[w.heap.size]? = some (.deferred (some [])) := by
    rw [← hW1]; exact (Below.heap_alloc _ _ _ (by simp)).trans (World.alloc_heap_new w _)
  have nil : ∀ {A : World}, (∀ r, (none : Option Nat) = some r → r = Bn ∨ (w.heap.size ≤ r ∧ ∃ o : Obj, A.heap[r]? = some o ∧ o.isCells = false)) := fun _ e => by cases e
  have hI1 : I [] W1 := by rw [← hW1]; exact hI _ _ _ none (hI _ _ _ none h0 (World.grownBy_alloc _ _ none) nil) (World.grownBy_alloc _ _ none) nil
  have hb1 : Keep n₀ Bn w W1 := by
    rw [← hW1]; exact ⟨((Below.refl _ w).alloc hn _).alloc (by simp; omega) _, (Below.heap_alloc _ _ _ (by simp; omega)).trans (Below.heap_alloc _ _ _ hB)⟩
  have put : ∀ {s : List α} {W : World} {l : Nat} {o : Obj} (o' : Obj), w.heap.size ≤ l → W.heap[l]? = some o → o.isCells = false → I s W → I s (W.putObj l o') := fun o' hl hW ho h =>
    hI _ _ _ (some _) h (grownBy_putObj' _ _ o') (fun r e => by cases e; exact .inr ⟨hl, _, hW, ho⟩)
  refine ⟨w.heap.size + 1, [{ target := .collected w.heap.size, args := #[] }], W1, { target := .fn (.func gf) lb, args := #[.func (.yield (w.heap.size + 1)) #[] #[]] }, W1, gf,
    #[.func (.yield (w.heap.size + 1)) #[] #[]] ++ lb, W1, ?_, ?_, ?_, ?_, fun _ => h1, ?_⟩
  · rw [← hW1, hrec]; exact run_enterLoop_outer _ _ _ _ _
  · simp only [resolve, hg]
    simp [go_sem]
  · intro f' hf'; simp [Target.leads] at hf'; subst hf'; exact hFg
  · simp [invoke, go_sem, eg]
  · refine (hseq (w.heap.size + 1)
      (fun pre W => I pre W ∧ W.heap[w.heap.size + 1]? = some (.loop (rec .ready)) ∧ W.heap[w.heap.size]? = some (.deferred (some [])))
      W1 hb1 ?_ ?_ ⟨hI1, hL1, hK1⟩).mono ?_
    · rintro s A B row ⟨hi, hl, hk⟩ hg' hr
      have ne : ∀ k, w.heap.size ≤ k → some k ≠ row := fun k hk e => by have := hr k e.symm; omega
      refine ⟨hI _ _ _ row hi hg' (fun r e => .inl (hr r e)), ?_, ?_⟩
      · exact (hg'.block _ (Array.getElem?_eq_some_iff.1 hl).1 (ne _ (by omega))).trans hl
      · exact (hg'.block _ (Array.getElem?_eq_some_iff.1 hk).1 (ne _ (Nat.le_refl _))).trans hk
    · rintro pre x W ⟨hi, hl, hk⟩ hx
      have hlt : w.heap.size + 1 < W.heap.size := (Array.getElem?_eq_some_iff.1 hl).1
      have hy := run_yield (P := P) (args := encs x) hl (by rw [hrec]; exact hps x)
      rw [hrec] at hy
      refine ⟨fn, _, assign, body, hy, roundIn_of_wpIn hfn (hassign _ x W _ ⟨_, run_beginRound hl (by rw [hrec]), ?_⟩)⟩
      have hl2 : (W.putObj (w.heap.size + 1) (.loop { rec .ready with state := .busy })).heap[w.heap.size + 1]? = some (.loop { rec .ready with state := .busy }) := World.putObj_heap_same hlt
      have hk2 : (W.putObj (w.heap.size + 1) (.loop { rec .ready with state := .busy })).heap[w.heap.size]? = some (.deferred (some [])) := (World.putObj_heap_other (by omega)).trans hk
      have hw2 : Keep n₀ Bn W (W.putObj (w.heap.size + 1) (.loop { rec .ready with state := .busy })) := keep_put _ (by omega) (by omega) hl
      refine wpIn_mono (hbody _ pre x _ (put _ (by omega) hl rfl hi) hx (by rw [World.putObj_size]; omega)) ?_
      rintro e a3 W3 hp
      cases e with
      | normal =>
        obtain ⟨hk3, hkp3, hi3⟩ := hp
        have hl3 := hk3.same _ _ (by omega) hl2 rfl
        have hr := run_endRound (P := P) none hl3
        have hd3 := hk3.same _ _ (Nat.le_refl _) hk2 rfl
        rw [hrec] at hr hl3 ⊢
        exact ⟨_, _, hr, rfl, ⟨put _ (by omega) hl3 rfl hi3, World.putObj_heap_same (Array.getElem?_eq_some_iff.1 hl3).1, (World.putObj_heap_other (by omega)).trans hd3⟩, (hw2.trans hkp3).trans (keep_put _ (by omega) (by omega) hl3)⟩
      | _ => exact hp.elim
    · rintro e W2 ⟨⟨v, rfl⟩, xs, hS, hi, hl, hk⟩
      exact ⟨none, _, by have := run_endLoop (P := P) hl (by rw [hrec]; simp); rw [hrec] at this; exact this, hdone xs _ hS (put _ (by omega) hl rfl hi) ((World.putObj_heap_other (by omega)).trans hk)⟩
end Go.Proofs.Ytopemjbakpahfaa
/-
  The iterator over frames: its state lies in a captured cell.
-/
namespace Go.Proofs.Ytopemjbakpahfaa
open Go.RowKit Crc
attribute [local go_sem] Oper.semAt_some
/-- A piece: what a frame holds, what stands behind it, and the two values. -/
structure Piece where
  h : List UInt8
  r : List UInt8
  v1 : Value
  v2 : Value
def Piece.enc (x : Piece) : Array Value := #[x.v1, x.v2]
def leftOf (b : List UInt8) (pre : List Piece) : List UInt8 := (pre.getLast?.map Piece.r).getD b
theorem leftOf_snoc (b : List UInt8) (pre : List Piece) (x : Piece) : leftOf b (pre ++ [x]) = x.r := by simp [leftOf]
def IsPiece (w0 : World) (b : List UInt8) (pre : List Piece) (x : Piece) : Prop := cut (leftOf b pre) = some (x.h, x.r) ∧ Bs w0 x.v1 x.h ∧ Bs w0 x.v2 x.r
def lenAt (Bn : Nat) (W : World) : Nat := match W.cell? ⟨Bn, 0, none⟩ with
  | some (.slice _ n _) => n
  | _ => 0
theorem grown_below {w w' : World} (h : Below w.heap.size w w') : w.grownBy w' none := ⟨h.os, h.tape, h.output, h.size, fun k hk _ => h.block k hk⟩
set_option maxRecDepth 100000 in
set_option maxHeartbeats 1000000 in
theorem frames1_in (b : List UInt8) (hlen : b.length ≤ 1000000) (w0 w : World) (Bn n : Nat) (hBn : w0.heap.size ≤ Bn) (hw : Below w0.heap.size w0 w) (v0 : Value) (hc : Boxed w Bn 22 v0) (hv : Bs w0 v0 b) :
    SeqCell Fence.wide n Try.prog 103 #[.pointer (some ⟨Bn, 0, none⟩)] Piece.enc w0.heap.size Bn (IsPiece w0 b) (fun xs => cut (leftOf b xs) = none) w := by
  intro l J W hW hJ hY h0
  refine callsIn_of_wp Try.func103 rfl trivial ?_ rfl
  simp only [Try.ntmps103, List.size_toArray, List.length_cons, List.length_nil, Nat.reduceAdd, Nat.reduceSub, Array.replicate_succ, Array.replicate_zero, List.push_toArray, List.append_toArray, List.nil_append, List.cons_append]
  gi_wp2
  gi_loopw [3] (fun _ wr => ∃ (pre : List Piece) (v : Value), Boxed wr Bn 22 v ∧ Bs w0 v (leftOf b pre) ∧ (leftOf b pre).length ≤ 1000000 ∧ Below w0.heap.size w0 wr ∧ J pre wr)
    (fun _ wr => lenAt Bn wr)
  case atStart =>
    exact ⟨[], v0, hW.2.trans hc, hv, hlen, hw.trans hW.1, h0⟩
  case round =>
    obtain ⟨pre, v, hcell, hbs, hl, hbl, hJs⟩ := hrel
    obtain ⟨a, cap, rfl, hlc, hnc, hrb⟩ := hbs
    have hcl := hcell.cell
    have HL := Lib.hid (show lenAt Bn wr = (leftOf b pre).length by unfold lenAt; rw [hcl])
    have HB := Lib.hid hbl
    have HR := Lib.hid hrb
    clear hbl hrb
    gi_wp2_with fail
    refine ⟨trivial, fun h => (by cases h), (callsIn_wide.2 (cut_any (leftOf b pre) a cap wr hlc hl (HR.out.below HB.out))).mono ?_⟩
    rintro en w1 ⟨hb1, ⟨e, v1, v2, rfl⟩ | ⟨h, r, v1, v2, e, rfl, hpp⟩⟩
    · have E := Lib.hid e
      clear e
      have hJ1 := hJ _ _ _ none hJs (grown_below hb1) (fun r e => by cases e)
      gi_wp2
      refine ⟨fun _ h => (by cases h), ?_⟩
      gi_wp2
      refine bodyPost_ret (results_none rfl _ _ _) rfl ?_
      exact ⟨⟨_, rfl⟩, pre, E.out, hJ1⟩
    · obtain ⟨p1, p2⟩ := hpp w0 HR.out
      have hJ1 := hJ _ _ _ none hJs (grown_below hb1) (fun r e => by cases e)
      have hcs := Lib.hid (cut_some e).2.2
      obtain ⟨fn, tmps, assign, body, hy, hRd⟩ := hY pre ⟨h, r, v1, v2⟩ w1 hJ1 ⟨e, p1, p2⟩
      have hbx := hcell.kept (grown_below hb1) (by simp)
      have E := Lib.hid e
      have P2 := Lib.hid p2
      clear e
      obtain ⟨a2, cap2, rfl, q1, q2, q3⟩ := p2
      dsimp only [Piece.enc] at hy
      gi_wp2
      refine ⟨fun h => (by cases h), hRd.mono ?_⟩
      rintro e W' ⟨rfl, hJ3, hk3⟩
      have hbx3 : Boxed W' Bn 22 _ := hk3.2.trans hbx
      have hc3 := hbx3.cell
      have hf3 := hbx3.frozen
      gi_wp2
      go_roundw
      case rel =>
        refine ⟨pre ++ [⟨h, r, v1, .slice a2 r.length cap2⟩], _, hbx3.set _, by rw [leftOf_snoc]; exact P2.out, by rw [leftOf_snoc]; have := hcs.out; show r.length ≤ _; omega, ?_, ?_⟩
        · exact ((HB.out.trans (hb1.mono HB.out.size)).trans hk3.1).setCell (p := ⟨Bn, 0, none⟩) hBn _
        · exact hJ _ _ _ (some Bn) hJ3 (grownBy_setCell' _ _ _) (fun r e => by cases e; rfl)
      case measure =>
        have := hcs.out
        rw [HL.out]
        unfold lenAt
        rw [(hbx3.set _).cell]
        show r.length < _
        omega
end Go.Proofs.Ytopemjbakpahfaa
/-
  What one round of All leaves: the boxes, the row of rows. It speaks of no program's text. No condition.
-/
namespace Go.Proofs.Ytopemjbakpahfaa
open Go.RowKit Crc
/-- The row lies in a block of cells of this type. -/
def RowOf (A : World) (row : Option Nat) (t : TypeId) : Prop := ∀ r, row = some r → ∃ (cs : Array Value) (fr : Nat × Nat), A.heap[r]? = some (.cells cs t fr)
theorem rowOf_owns {A : World} {base n s : Nat} {t : TypeId} {v : Value} {xs : List Value} (h : A.ownsRow base t s v n xs) : RowOf A v.ownBlock t := by
  intro r hr
  rcases h.2 with ⟨rfl, _⟩ | ⟨g, cap, cur, rfl, _, hg, _⟩
  · simp [Value.ownBlock] at hr
  · obtain rfl : g = r := by simpa [Value.ownBlock] using hr
    exact ⟨cur, _, hg⟩
theorem rowOf_box {A : World} {B : Nat} {t : TypeId} {v : Value} (h : Boxed A B t v) : RowOf A (some B) t := fun r e => by cases e; exact ⟨_, _, h⟩
theorem owns_other {A B : World} {base e n s : Nat} {t : TypeId} {u : Value} {xs : List Value} {row : Option Nat} (h : A.ownsRow base e s u n xs) (hg : A.grownBy B row) (hr : RowOf A row t) (hne : t ≠ e) : B.ownsRow base e s u n xs := by
  refine h.kept hg ?_
  rcases h.2 with ⟨rfl, _⟩ | ⟨g, cap, cur, rfl, hb, hgb, _⟩
  · exact .inl rfl
  · refine .inr fun e' => ?_
    obtain ⟨cs, fr, h1⟩ := hr g (by rw [← e']; rfl)
    rw [hgb] at h1; cases h1; exact hne rfl
theorem box_other {A B : World} {k : Nat} {e t : TypeId} {v : Value} {row : Option Nat} (h : Boxed A k e v) (hg : A.grownBy B row) (hr : RowOf A row t) (hne : t ≠ e) : Boxed B k e v := by
  refine h.kept hg fun e' => ?_
  obtain ⟨cs, fr, h1⟩ := hr k e'.symm
  have h2 : A.heap[k]? = _ := h
  rw [h2] at h1; cases h1; exact hne rfl
theorem keepsOthers_row {A B : World} {t : TypeId} {row : Option Nat} (hg : A.grownBy B row) (hr : RowOf A row t) : KeepsOthers A B :=
  KeepsOthers.of_grownBy hg fun j o e hj => by
    obtain ⟨cs, fr, h1⟩ := hr j e
    rw [h1] at hj; cases hj; rfl
theorem box_at {A B : World} {k base : Nat} {e t : TypeId} {v u : Value} {n s : Nat} {xs : List Value} (h : Boxed A k e v) (hr : A.ownsRow base t s u n xs) (hg : A.grownBy B u.ownBlock) (hk : k < base) : Boxed B k e v :=
  h.kept hg fun e' => by have := (hr.lt k e'.symm).1; omega
theorem row_snoc {W : World} {base base' : Nat} {vs : List Value} {L : List (List UInt8)} {u : Value} {x : List UInt8} (hl : vs.length = L.length)
    (h : ∀ (i : Nat) (u : Value) (l : List UInt8), vs[i]? = some u → L[i]? = some l → W.ownsRow base' 5 1 u l.length (l.map byteV)) (hu : W.ownsRow base 5 1 u x.length (x.map byteV)) (hb : base' ≤ base) :
    ∀ (i : Nat) (u' : Value) (l : List UInt8), (vs ++ [u])[i]? = some u' → (L ++ [x])[i]? = some l → W.ownsRow base' 5 1 u' l.length (l.map byteV) := by
  intro i u' l h1 h2
  rcases Nat.lt_or_ge i vs.length with hi | hi
  · rw [List.getElem?_append_left hi] at h1
    rw [List.getElem?_append_left (by omega)] at h2
    exact h i u' l h1 h2
  · rw [List.getElem?_append_right hi] at h1
    rw [List.getElem?_append_right (by omega)] at h2
    have h3 : i - vs.length = 0 := by
      rcases Nat.eq_zero_or_pos (i - vs.length) with h3 | h3
      · exact h3
      · rw [List.getElem?_eq_none (by simp; omega)] at h1; cases h1
    rw [h3] at h1
    rw [← hl, h3] at h2
    simp at h1 h2
    subst h1 h2
    exact ownsRow_base hu hb
theorem RB.drew {w : World} {a : Option Addr} {l : List UInt8} (h : RB w a l) : RB w.drew a l := h.below ((Below.refl _ w).drew)
theorem allF_len : ∀ (k : Nat) (b : List UInt8), (allF k b).1.length ≤ b.length := by
  intro k
  induction k with
  | zero => intro b; simp [allF]
  | succ k ih =>
    intro b
    unfold allF
    split
    · simp
    · rename_i h r e
      have := (cut_some e).2.2
      have := ih r
      simp only [List.length_cons]
      omega
theorem all_len (b : List UInt8) : (all b).1.length ≤ b.length := allF_len _ b
/-- append to a row of the call's own, as one step of a region whose order is drawn. -/
theorem step_append_own {F : Fence} {n : Nat} {P : Program} (w : World) {o : Oper} {a : Act} {K : Act → World → Prop} {Q : Exit → Act → World → Prop}
    (s x : Operand) (t : TypeId) (hop : o.op = Op.call { callee := Callee.builtin Builtin.append, args := #[s, x], argTypes := #[t, t] })
    (base : Nat) (e : TypeId) (i : TypeInfo) (z : Value) (size bytes : Nat) (h1 : P.underlying t = some (.slice e)) (h2 : P.info? e = some i) (h3 : i.zero = some z) (h4 : i.size = size) (h5 : i.bytes = bytes) (h6 : z.cells.size = size) (h7 : 0 < size)
    (v : Value) (k : Nat) (xs : List Value) (hs : a.eval s = v) (hown : w.ownsRow base e size v k xs) (ad : Addr) (m c : Nat) (news : List Value) (hx : a.eval x = .slice (some ad) m c) (hn : news.length = m * size)
    (hc : ∀ j u, news[j]? = some u → w.cell? (ad.add j) = some u) (h1c : ∀ u ∈ news, u.oneCell' = true) (b1 : k + m ≤ maxLen) (b2 : (k + m) * bytes ≤ 140737488355328) (b3 : base ≤ w.heap.size)
    (hK : ∀ v' w', w'.ownsRow base e size v' (k + m) (xs ++ news) → w.grownBy w' v.ownBlock → (v' = .slice none 0 0 ↔ v = .slice none 0 0 ∧ m = 0) → K (a.put o.dst v') w') :
    o.wpIn F n P a w K Q := by
  obtain ⟨v', w', hrun, r1, r2, r3⟩ := run_append_own (P := P) w base t o.type e i z size bytes h1 h2 h3 h4 h5 h6 h7 v k xs hown ad m c news hn hc h1c b1 b2 b3
  unfold Oper.wpIn
  refine ⟨by simp [Oper.about, hop, resolve, Target.leads, Sem.run_pure], ?_⟩
  rw [Oper.semAt_plain F _ _ (by rw [hop]; intro c hc'; cases hc')]
  simp [execOp, hop, resolve, invoke, builtin, hs, hx, hrun, Result.andThen]
  exact hK v' w' r1 r2 r3
end Go.Proofs.Ytopemjbakpahfaa

/-
  The contracts of Frame, of the program and of the reference: for all bytes.
-/
import Derived.Test.YtopemjbakpahfaaC4
import Derived.Laws.AppendOwnNone
namespace Go.Proofs.Ytopemjbakpahfaa
open Go.RowKit Crc
/-- Bytes in new memory, and an error's number. -/
def Framed (l : List UInt8) (w : World) (en : Ending) (w' : World) : Prop :=
  ∃ v, en = .returned (.tuple #[v, .int .i64 0]) ∧ w'.ownsRow w.heap.size 5 1 v (frame l).length ((frame l).map byteV) ∧ Below w.heap.size w w'
theorem frame_long (l : List UInt8) (a : Option Addr) (cap : Nat) (w : World) (hl : 4096 < l.length) (hl2 : (l.length : Int) ≤ 9223372036854775807) :
    Calls Try.prog 24 #[.slice a l.length cap] w fun en w' => en = .returned (.tuple #[.slice none 0 0, .int .i64 1]) ∧ w = w' := by
  have hl' : (4096 : Int) < (l.length : Int) := by omega
  go_enter Try.func24, Try.ntmps24
  go_wp2
  go_ret2
  exact ⟨rfl, rfl⟩
set_option maxHeartbeats 1000000 in
theorem frame_some (l : List UInt8) (ad : Addr) (cap : Nat) (w : World) (hl : l.length ≤ 4096) (hr : RB w (some ad) l) :
    Calls Try.prog 24 #[.slice (some ad) l.length cap] w (Framed l w) := by
  have hl' : ¬ (4096 : Int) < (l.length : Int) := by omega
  obtain ⟨i0, hi, hz0, hz1, hz2⟩ := info_parts info5
  have HR := Lib.hid hr
  clear hr
  have hsum := (sum l).isLt
  go_enter Try.func24, Try.ntmps24
  go_wp2_with fail
  refine (put2 _ [] l.length w.heap.size _ (by omega) (by simp) (World.ownsRow_nil _ _ _ _) (Nat.le_refl _)).mono ?_
  rintro en w1 ⟨v1, rfl, o1, b1⟩
  go_wp2_with fail
  refine (sum_any l _ _ _ (by omega) (HR.out.below b1)).mono ?_
  rintro en w1' ⟨rfl, rfl⟩
  go_wp2_with fail
  refine (put4 _ (be 2 l.length) (sum l).toNat w.heap.size _ (by omega) (by simp [be_length]) (by simpa [be_length] using o1) b1.size).mono ?_
  rintro en w2 ⟨v2, rfl, o2, b2⟩
  have b12 := b1.trans b2
  have o2' : w2.ownsRow w.heap.size 5 1 v2 6 ((head l).map byteV) := by simpa [be_length, head] using o2
  clear o1 o2 b1 b2
  go_wp2_with (at_builtin; refine wpList_append_own _ rfl (.tmp 17) (.tmp 18) 22 rfl w.heap.size 5 i0 (.int .u8 0) 1 1 Try.underlying22 hi hz0 hz1 hz2 rfl (by decide) _ 6 _ rfl o2' ad l.length cap (l.map byteV) rfl (by simp) ((HR.out.below b12).news) (oneCell_bytes l) (by unfold maxLen; omega) (by omega) b12.size ?_; intro v3 w3 o3 g3 _)
  go_ret2
  refine ⟨v3, rfl, ?_, b12.grown g3 b12.size (fun k hk => (o2'.lt k hk).1)⟩
  have e : (frame l).map byteV = (head l).map byteV ++ l.map byteV := by simp [frame]
  rw [e, frame_length, Nat.add_comm]
  exact o3
set_option maxHeartbeats 1000000 in
theorem frame_none (w : World) :
    Calls Try.prog 24 #[.slice none 0 0] w (Framed [] w) := by
  obtain ⟨i0, hi, hz0, hz1, hz2⟩ := info_parts info5
  have hsum := (sum []).isLt
  go_enter Try.func24, Try.ntmps24
  go_wp2_with fail
  refine (put2 _ [] 0 w.heap.size _ (by omega) (by simp) (World.ownsRow_nil _ _ _ _) (Nat.le_refl _)).mono ?_
  rintro en w1 ⟨v1, rfl, o1, b1⟩
  go_wp2_with fail
  refine (sum_any [] none 0 _ (by simp) (RB.nil _ _)).mono ?_
  rintro en w1' ⟨rfl, rfl⟩
  go_wp2_with fail
  refine (put4 _ (be 2 0) (sum []).toNat w.heap.size _ (by omega) (by simp [be_length]) (by simpa [be_length] using o1) b1.size).mono ?_
  rintro en w2 ⟨v2, rfl, o2, b2⟩
  have b12 := b1.trans b2
  have o2' : w2.ownsRow w.heap.size 5 1 v2 6 ((head []).map byteV) := by simpa [be_length, head] using o2
  clear o1 o2 b1 b2
  go_wp2_with (at_builtin; refine wpList_append_own_none rfl (.tmp 17) (.tmp 18) 22 rfl w.heap.size 5 i0 1 Try.underlying22 hi _ 6 _ rfl o2' rfl ?_)
  go_ret2
  exact ⟨v2, rfl, by simpa [frame, head_length] using o2', b12⟩
theorem owns_lit (w : World) {base n : Nat} {xs : Array Value} {t : TypeId} (hb : base ≤ w.heap.size) (hn : xs.size = n) (hm : n ≤ maxLen) : (w.alloc (.cells xs t)).ownsRow base t 1 (.slice (some ⟨w.heap.size, 0, none⟩) n n) n xs.toList := by
  subst hn
  exact ⟨by simp, .inr ⟨w.heap.size, xs.size, xs, rfl, hb, heap_alloc_new w _, Nat.le_refl _, hm, by simp, by rw [Nat.mul_one, ← Array.length_toList, List.take_length]⟩⟩
theorem rframe_long (l : List UInt8) (a : Option Addr) (cap : Nat) (w : World) (hl : 4096 < l.length) (hl2 : (l.length : Int) ≤ 9223372036854775807) :
    Calls Try.prog 25 #[.slice a l.length cap] w fun en w' => en = .returned (.tuple #[.slice none 0 0, .int .i64 1]) ∧ w = w' := by
  have hl' : (4096 : Int) < (l.length : Int) := by omega
  go_enter Try.func25, Try.ntmps25
  go_wp2
  go_ret2
  exact ⟨rfl, rfl⟩
theorem head_cells (l : List UInt8) (h : l.length ≤ 4096) : (head l).map byteV = [.int .u8 ((l.length : Int) / 256), .int .u8 ((l.length : Int) % 256), .int .u8 (((sum l).toNat : Int) / 16777216), .int .u8 (((sum l).toNat : Int) / 65536 % 256), .int .u8 (((sum l).toNat : Int) / 256 % 256), .int .u8 (((sum l).toNat : Int) % 256)] := by
  have h1 := (sum l).isLt
  simp only [head, be, List.map_cons, List.map_nil, byteV, UInt8.toNat_ofNat', List.cons_append, List.nil_append, List.cons.injEq, Value.int.injEq, true_and, and_true]
  refine ⟨?_, ?_, ?_, ?_, ?_, ?_⟩ <;> omega
set_option maxHeartbeats 1000000 in
theorem rframe_some (l : List UInt8) (ad : Addr) (cap : Nat) (w : World) (hl : l.length ≤ 4096) (hr : RB w (some ad) l) :
    Calls Try.prog 25 #[.slice (some ad) l.length cap] w (Framed l w) := by
  have hl' : ¬ (4096 : Int) < (l.length : Int) := by omega
  have hl0 : (0 : Int) ≤ (l.length : Int) := by omega
  obtain ⟨i0, hi, hz0, hz1, hz2⟩ := info_parts info5
  have HR := Lib.hid hr
  clear hr
  have hsum := (sum l).isLt
  have hs1 : ((sum l).toNat : Int) < 4294967296 := by omega
  have hs0 : (0 : Int) ≤ ((sum l).toNat : Int) := by omega
  have hc := Lib.hid (head_cells l hl)
  go_enter Try.func25, Try.ntmps25
  go_wp2_with fail
  refine (rsum_any l _ _ _ (by omega) HR.out).mono ?_
  rintro en w1 ⟨rfl, rfl⟩
  go_wp2_with (at_builtin; refine wpList_append_own _ rfl (.tmp 30) (.tmp 31) 22 rfl w.heap.size 5 i0 (.int .u8 0) 1 1 Try.underlying22 hi hz0 hz1 hz2 rfl (by decide) _ 6 _ rfl (owns_lit w (Nat.le_refl _) rfl (by unfold maxLen; omega)) ad l.length cap (l.map byteV) rfl (by simp) ((HR.out.alloc _).news) (oneCell_bytes l) (by unfold maxLen; omega) (by omega) (by simp) ?_; intro v3 w3 o3 g3 _)
  go_ret2
  refine ⟨v3, rfl, ?_, (below_alloc w _).grown g3 (by simp) (fun k hk => by cases hk; exact Nat.le_refl _)⟩
  have e : (frame l).map byteV = (head l).map byteV ++ l.map byteV := by simp [frame]
  rw [e, frame_length, Nat.add_comm, hc.out]
  exact o3
set_option maxHeartbeats 1000000 in
theorem rframe_none (w : World) :
    Calls Try.prog 25 #[.slice none 0 0] w (Framed [] w) := by
  obtain ⟨i0, hi, hz0, hz1, hz2⟩ := info_parts info5
  have hc := Lib.hid (head_cells [] (by simp))
  go_enter Try.func25, Try.ntmps25
  go_wp2_with fail
  refine (rsum_any [] none 0 _ (by simp) (RB.nil _ _)).mono ?_
  rintro en w1 ⟨rfl, rfl⟩
  have hsum := (sum []).isLt
  have hs1 : ((sum []).toNat : Int) < 4294967296 := by omega
  have hs0 : (0 : Int) ≤ ((sum []).toNat : Int) := by omega
  go_wp2_with (at_builtin; refine wpList_append_own_none rfl (.tmp 30) (.tmp 31) 22 rfl w.heap.size 5 i0 1 Try.underlying22 hi _ 6 _ rfl (owns_lit w (Nat.le_refl _) rfl (by unfold maxLen; omega)) rfl ?_)
  go_ret2
  refine ⟨_, rfl, ?_, below_alloc w _⟩
  have e : (frame []).map byteV = (head []).map byteV := by simp [frame]
  rw [e, hc.out]
  exact owns_lit w (Nat.le_refl _) rfl (by unfold maxLen; omega)
end Go.Proofs.Ytopemjbakpahfaa

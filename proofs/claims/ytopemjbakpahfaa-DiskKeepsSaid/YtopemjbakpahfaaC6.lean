/-
  The contracts of Clone and cut: for all bytes.
-/
import Derived.Test.YtopemjbakpahfaaC5
import Derived.WalkSpells
import Derived.Lib.SliceRun
namespace Go.Proofs.Ytopemjbakpahfaa
open Go.RowKit Crc
/-- A slice value that reads as these bytes. -/
def Bs (w : World) (v : Value) (l : List UInt8) : Prop :=
  ∃ a cap, v = .slice a l.length cap ∧ l.length ≤ cap ∧ (a = none → cap = 0) ∧ RB w a l
theorem Bs.below {w w1 : World} {v : Value} {l : List UInt8} (h : Bs w v l) (hb : Below w.heap.size w w1) : Bs w1 v l := by
  obtain ⟨a, cap, e, h1, h2, h3⟩ := h
  exact ⟨a, cap, e, h1, h2, h3.below hb⟩
theorem frame_any (l : List UInt8) (a : Option Addr) (cap : Nat) (w : World) (hl : l.length ≤ 4096) (hc : l.length ≤ cap) (hn : a = none → cap = 0) (hr : RB w a l) :
    Calls Try.prog 24 #[.slice a l.length cap] w (Framed l w) := by
  cases a with
  | none =>
    have := hn rfl; subst this
    have : l = [] := List.eq_nil_of_length_eq_zero (by omega)
    subst this; exact frame_none w
  | some ad => exact frame_some l ad cap w hl hr
theorem rframe_any (l : List UInt8) (a : Option Addr) (cap : Nat) (w : World) (hl : l.length ≤ 4096) (hc : l.length ≤ cap) (hn : a = none → cap = 0) (hr : RB w a l) :
    Calls Try.prog 25 #[.slice a l.length cap] w (Framed l w) := by
  cases a with
  | none =>
    have := hn rfl; subst this
    have : l = [] := List.eq_nil_of_length_eq_zero (by omega)
    subst this; exact rframe_none w
  | some ad => exact rframe_some l ad cap w hl hr
@[go_sem ↓] theorem eq_nil22 (a : Option Addr) (n c : Nat) (w : World) : (binOp .eql 22 (.slice a n c) (.slice none 0 0)).run Try.prog w = .ok (.bool a.isNone) w :=
  Lib.run_eql_slice_nil w 22 5 a n c 0 0 Try.underlying22
/-- The same bytes in new memory. -/
def Cloned (l : List UInt8) (w : World) (en : Ending) (w' : World) : Prop :=
  ∃ v, en = .returned v ∧ w'.ownsRow w.heap.size 5 1 v l.length (l.map byteV) ∧ Below w.heap.size w w'
theorem clone_none (w : World) : Calls Try.prog 85 #[.slice none 0 0] w (Cloned [] w) := by
  go_enter Try.func85, Try.ntmps85
  go_wp2
  go_ret
  exact ⟨_, rfl, World.ownsRow_nil _ _ _ _, Below.refl _ _⟩
theorem clone_some (l : List UInt8) (ad : Addr) (cap : Nat) (w : World) (hl : l.length ≤ 1000000) (hr : RB w (some ad) l) :
    Calls Try.prog 85 #[.slice (some ad) l.length cap] w (Cloned l w) := by
  obtain ⟨i0, hi, hz0, hz1, hz2⟩ := info_parts info5
  have HR := Lib.hid hr
  clear hr
  go_enter Try.func85, Try.ntmps85
  go_wp2_with (at_builtin; refine wpList_append_own _ rfl (.tmp 5) (.tmp 6) 22 rfl w.heap.size 5 i0 (.int .u8 0) 1 1 Try.underlying22 hi hz0 hz1 hz2 rfl (by decide) _ 0 [] rfl (owns_lit w (xs := #[]) (Nat.le_refl _) rfl (by unfold maxLen; omega)) ad l.length cap (l.map byteV) rfl (by simp) ((HR.out.alloc _).news) (oneCell_bytes l) (by unfold maxLen; omega) (by omega) (by simp) ?_; intro v3 w3 o3 g3 _)
  go_ret
  exact ⟨v3, rfl, by simpa using o3, (below_alloc w _).grown g3 (by simp) (fun k hk => by cases hk; exact Nat.le_refl _)⟩
theorem clone_any (l : List UInt8) (a : Option Addr) (cap : Nat) (w : World) (hl : l.length ≤ 1000000) (hc : l.length ≤ cap) (hn : a = none → cap = 0) (hr : RB w a l) :
    Calls Try.prog 85 #[.slice a l.length cap] w (Cloned l w) := by
  cases a with
  | none =>
    have := hn rfl; subst this
    have : l = [] := List.eq_nil_of_length_eq_zero (by omega)
    subst this; exact clone_none w
  | some ad => exact clone_some l ad cap w hl hr
theorem number_at (l : List UInt8) (a : Option Addr) (len cap : Nat) (w : World) (hlen : l.length = len) (hl : l.length ≤ 4) (hr : RB w a l) :
    Calls Try.prog 101 #[.slice a len cap] w fun e w' => e = .returned (.int .u64 (num l : Int)) ∧ w = w' := by
  subst hlen; exact number_any l a cap w hl hr
theorem sum_at (l : List UInt8) (a : Option Addr) (len cap : Nat) (w : World) (hlen : l.length = len) (hl : (l.length : Int) ≤ 9223372036854775807) (hr : RB w a l) :
    Calls Try.prog 28 #[.slice a len cap] w fun e w' => e = .returned (.int .u32 ((sum l).toNat : Int)) ∧ w = w' := by
  subst hlen; exact sum_any l a cap w hl hr
def NoCut (w : World) (en : Ending) (w' : World) : Prop := ∃ v1 v2, en = .returned (.tuple #[v1, v2, .bool false]) ∧ Below w.heap.size w w'
theorem cut_short (b : List UInt8) (a : Option Addr) (cap : Nat) (w : World) (h : b.length < 6) : Calls Try.prog 84 #[.slice a b.length cap] w (NoCut w) := by
  have h' : (b.length : Int) < 6 := by omega
  go_enter Try.func84, Try.ntmps84
  go_wp2
  go_ret3
  exact ⟨_, _, rfl, Below.refl _ _⟩
theorem cut_far (b : List UInt8) (g off : Nat) (cap : Nat) (w : World) (h : 6 ≤ b.length) (hc : b.length ≤ cap) (hb : b.length ≤ 1000000) (hr : RB w (some ⟨g, off, none⟩) b) (hn : 4096 < num (b.take 2) ∨ b.length - 6 < num (b.take 2)) :
    Calls Try.prog 84 #[.slice (some ⟨g, off, none⟩) b.length cap] w (NoCut w) := by
  have h' : ¬ (b.length : Int) < 6 := by omega
  have hc2 : (2 : Int) ≤ (cap : Int) := by omega
  have hb' : (b.length : Int) ≤ 1000000 := by omega
  have HR := Lib.hid hr
  clear hr
  have HT : Hid ((b.take 2).length = 2) := by show _ = _; simp; omega
  have hlt := num_lt (b.take 2)
  rw [HT.out] at hlt
  have hn' : 4096 < ((num (b.take 2) : Nat) : Int) ∨ (b.length : Int) - 6 < ((num (b.take 2) : Nat) : Int) := by omega
  go_enter Try.func84, Try.ntmps84
  go_wp2_with fail
  refine (number_at (b.take 2) _ _ _ _ HT.out (by rw [HT.out]; omega) (HR.out.take 2)).mono ?_
  rintro en w1 ⟨rfl, rfl⟩
  generalize num (b.take 2) = n at hlt hn' hn
  have hnn : (n : Int) < 65536 := by omega
  by_cases h1 : 4096 < (n : Int)
  · go_wp2
    go_ret3
    exact ⟨_, _, rfl, Below.refl _ _⟩
  · have h2 : (b.length : Int) - 6 < (n : Int) := by omega
    go_wp2
    go_ret3
    exact ⟨_, _, rfl, Below.refl _ _⟩
end Go.Proofs.Ytopemjbakpahfaa

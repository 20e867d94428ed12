/-
  Contracts and plain laws, part 5 (texts: C6, C7, C8, OpenB, App, DSmall, Area, Range). No condition but what each states.
-/
import Derived.Test.YtopemjbakpahfaaJn04
import Derived.WalkSpells
import Derived.Lib.SliceRun
import Derived.ProofKit
import Derived.OpenShut
import Derived.Below
import Derived.Lib.SmallJoins
import Derived.Deep.Fields
import Derived.Laws.IdiomStrings
import Derived.Lib.BufferRead
import Derived.Lib.SlBytesConst
import Derived.RangeFuncNested
import Derived.RangeFuncCalls
import Derived.RangeFuncLeaves
import Derived.OwnWalkIn
import Derived.TacticsInMore
import Derived.LoopIn
/-
  The contracts of Clone and cut: for all bytes.
-/
namespace Go.Proofs.Ytopemjbakpahfaa
open Go.RowKit Crc
/-- A slice value that reads as these bytes. -/
def Bs (w : World) (v : Value) (l : List UInt8) : Prop :=
  ∃ a cap, v = .slice a l.length cap ∧ l.length ≤ cap ∧ (a = none → cap = 0) ∧ RB w a l
theorem Bs.below {w w1 : World} {v : Value} {l : List UInt8} (h : Bs w v l) (hb : Below w.heap.size w w1) : Bs w1 v l := by
  obtain ⟨a, cap, e, h1, h2, h3⟩ := h
  exact ⟨a, cap, e, h1, h2, h3.below hb⟩
theorem frame_any (l : List UInt8) (a : Option Addr) (cap : Nat) (w : World) (hl : l.length ≤ 4096) (hc : l.length ≤ cap) (hn : a = none → cap = 0) (hr : RB w a l) :
    Calls Try.prog 24 #[.slice a l.length cap] w (Framed l w) := by
  cases a with
  | none =>
    have := hn rfl; subst this
    have : l = [] := List.eq_nil_of_length_eq_zero (by omega)
    subst this; exact frame_none w
  | some ad => exact frame_some l ad cap w hl hr
theorem rframe_any (l : List UInt8) (a : Option Addr) (cap : Nat) (w : World) (hl : l.length ≤ 4096) (hc : l.length ≤ cap) (hn : a = none → cap = 0) (hr : RB w a l) :
    Calls Try.prog 25 #[.slice a l.length cap] w (Framed l w) := by
  cases a with
  | none =>
    have := hn rfl; subst this
    have : l = [] := List.eq_nil_of_length_eq_zero (by omega)
    subst this; exact rframe_none w
  | some ad => exact rframe_some l ad cap w hl hr
@[go_sem ↓] theorem eq_nil22 (a : Option Addr) (n c : Nat) (w : World) : (binOp .eql 22 (.slice a n c) (.slice none 0 0)).run Try.prog w = .ok (.bool a.isNone) w :=
  Lib.run_eql_slice_nil w 22 5 a n c 0 0 Try.underlying22
/-- The same bytes in new memory. -/
def Cloned (l : List UInt8) (w : World) (en : Ending) (w' : World) : Prop :=
  ∃ v, en = .returned v ∧ w'.ownsRow w.heap.size 5 1 v l.length (l.map byteV) ∧ Below w.heap.size w w'
theorem clone_none (w : World) : Calls Try.prog 85 #[.slice none 0 0] w (Cloned [] w) := by
  go_enter Try.func85, Try.ntmps85
  go_wp2
  go_ret
  exact ⟨_, rfl, World.ownsRow_nil _ _ _ _, Below.refl _ _⟩
theorem clone_some (l : List UInt8) (ad : Addr) (cap : Nat) (w : World) (hl : l.length ≤ 1000000) (hr : RB w (some ad) l) :
    Calls Try.prog 85 #[.slice (some ad) l.length cap] w (Cloned l w) := by
  obtain ⟨i0, hi, hz0, hz1, hz2⟩ := info_parts info5
  have HR := Lib.hid hr
  clear hr
  go_enter Try.func85, Try.ntmps85
  go_wp2_with (at_builtin; refine wpList_append_own _ rfl (.tmp 5) (.tmp 6) 22 rfl w.heap.size 5 i0 (.int .u8 0) 1 1 Try.underlying22 hi hz0 hz1 hz2 rfl (by decide) _ 0 [] rfl (owns_lit w (xs := #[]) (Nat.le_refl _) rfl (by unfold maxLen; omega)) ad l.length cap (l.map byteV) rfl (by simp) ((HR.out.alloc _).news) (oneCell_bytes l) (by unfold maxLen; omega) (by omega) (by simp) ?_; intro v3 w3 o3 g3 _)
  go_ret
  exact ⟨v3, rfl, by simpa using o3, (below_alloc w _).grown g3 (by simp) (fun k hk => by cases hk; exact Nat.le_refl _)⟩
theorem clone_any (l : List UInt8) (a : Option Addr) (cap : Nat) (w : World) (hl : l.length ≤ 1000000) (hc : l.length ≤ cap) (hn : a = none → cap = 0) (hr : RB w a l) :
    Calls Try.prog 85 #[.slice a l.length cap] w (Cloned l w) := by
  cases a with
  | none =>
    have := hn rfl; subst this
    have : l = [] := List.eq_nil_of_length_eq_zero (by omega)
    subst this; exact clone_none w
  | some ad => exact clone_some l ad cap w hl hr
theorem number_at (l : List UInt8) (a : Option Addr) (len cap : Nat) (w : World) (hlen : l.length = len) (hl : l.length ≤ 4) (hr : RB w a l) :
    Calls Try.prog 101 #[.slice a len cap] w fun e w' => e = .returned (.int .u64 (num l : Int)) ∧ w = w' := by
  subst hlen; exact number_any l a cap w hl hr
theorem sum_at (l : List UInt8) (a : Option Addr) (len cap : Nat) (w : World) (hlen : l.length = len) (hl : (l.length : Int) ≤ 9223372036854775807) (hr : RB w a l) :
    Calls Try.prog 28 #[.slice a len cap] w fun e w' => e = .returned (.int .u32 ((sum l).toNat : Int)) ∧ w = w' := by
  subst hlen; exact sum_any l a cap w hl hr
def NoCut (w : World) (en : Ending) (w' : World) : Prop := ∃ v1 v2, en = .returned (.tuple #[v1, v2, .bool false]) ∧ Below w.heap.size w w'
theorem cut_short (b : List UInt8) (a : Option Addr) (cap : Nat) (w : World) (h : b.length < 6) : Calls Try.prog 84 #[.slice a b.length cap] w (NoCut w) := by
  have h' : (b.length : Int) < 6 := by omega
  go_enter Try.func84, Try.ntmps84
  go_wp2
  go_ret3
  exact ⟨_, _, rfl, Below.refl _ _⟩
theorem cut_far (b : List UInt8) (g off : Nat) (cap : Nat) (w : World) (h : 6 ≤ b.length) (hc : b.length ≤ cap) (hb : b.length ≤ 1000000) (hr : RB w (some ⟨g, off, none⟩) b) (hn : 4096 < num (b.take 2) ∨ b.length - 6 < num (b.take 2)) :
    Calls Try.prog 84 #[.slice (some ⟨g, off, none⟩) b.length cap] w (NoCut w) := by
  have h' : ¬ (b.length : Int) < 6 := by omega
  have hc2 : (2 : Int) ≤ (cap : Int) := by omega
  have hb' : (b.length : Int) ≤ 1000000 := by omega
  have HR := Lib.hid hr
  clear hr
  have HT : Hid ((b.take 2).length = 2) := by show _ = _; simp; omega
  have hlt := num_lt (b.take 2)
  rw [HT.out] at hlt
  have hn' : 4096 < ((num (b.take 2) : Nat) : Int) ∨ (b.length : Int) - 6 < ((num (b.take 2) : Nat) : Int) := by omega
  go_enter Try.func84, Try.ntmps84
  go_wp2_with fail
  refine (number_at (b.take 2) _ _ _ _ HT.out (by rw [HT.out]; omega) (HR.out.take 2)).mono ?_
  rintro en w1 ⟨rfl, rfl⟩
  generalize num (b.take 2) = n at hlt hn' hn
  have hnn : (n : Int) < 65536 := by omega
  by_cases h1 : 4096 < (n : Int)
  · go_wp2
    go_ret3
    exact ⟨_, _, rfl, Below.refl _ _⟩
  · have h2 : (b.length : Int) - 6 < (n : Int) := by omega
    go_wp2
    go_ret3
    exact ⟨_, _, rfl, Below.refl _ _⟩
end Go.Proofs.Ytopemjbakpahfaa
/-
  The contract of cut: for all bytes.
-/
namespace Go.Proofs.Ytopemjbakpahfaa
open Go.RowKit Crc
/-- What cut hands back: two slices of the bytes that it was given, and whether there is a frame. -/
def CutOf (b : List UInt8) (a : Option Addr) (w : World) (en : Ending) (w' : World) : Prop :=
  Below w.heap.size w w' ∧ ((cut b = none ∧ ∃ v1 v2, en = .returned (.tuple #[v1, v2, .bool false])) ∨
    ∃ h r v1 v2, cut b = some (h, r) ∧ en = .returned (.tuple #[v1, v2, .bool true]) ∧ ∀ w0, RB w0 a b → Bs w0 v1 h ∧ Bs w0 v2 r)
theorem tuple3_eq {a b : Value} {x y : Bool} (h : x = y) : Ending.returned (.tuple #[a, b, .bool x]) = .returned (.tuple #[a, b, .bool y]) := by rw [h]
theorem wu (n : Nat) (h : n < 2 ^ 32) : IntKind.u64.wrap (n : Int) = (n : Int) := IntWalk.u64_in _ (by omega)
theorem RB.drop_take {w : World} {g off : Nat} {l : List UInt8} (h : RB w (some ⟨g, off, none⟩) l) (k n : Nat) : RB w (some ⟨g, off + k, none⟩) ((l.drop k).take n) := (h.drop k).take n
theorem RB.off {w : World} {g off off' : Nat} {l : List UInt8} (h : RB w (some ⟨g, off, none⟩) l) (e : off = off') : RB w (some ⟨g, off', none⟩) l := by subst e; exact h

set_option maxHeartbeats 1000000 in
theorem cut_main1 (b : List UInt8) (g off : Nat) (w : World) (h : 6 ≤ b.length) (hc : b.length ≤ 6) (hr : RB w (some ⟨g, off, none⟩) b) (hb6 : b.length = 6) (hn : num (b.take 2) = 0) (hn2 : 0 ≤ b.length - 6) :
    Calls Try.prog 84 #[.slice (some ⟨g, off, none⟩) b.length 6] w (CutOf b (some ⟨g, off, none⟩) w) := by
  have h' : ¬ (b.length : Int) < 6 := by omega
  have hb' : (b.length : Int) ≤ 1000000 := by omega
  have hbc : (b.length : Int) ≤ ((6 : Nat) : Int) := by omega
  have hc2 : (2 : Int) ≤ ((6 : Nat) : Int) := by omega
  have hc6 : (6 : Int) ≤ ((6 : Nat) : Int) := by omega
  have HR := Lib.hid hr
  have HN := Lib.hid hn
  clear hr hn
  have HT : Hid ((b.take 2).length = 2) := by show _ = _; simp; omega
  have HT4 : Hid (((b.drop 2).take 4).length = 4) := by show _ = _; simp; omega
  have HTn : Hid (([] : List UInt8).length = 0) := rfl
  have hn1' : ((0 : Nat) : Int) ≤ 4096 := by omega
  have hn2' : ¬ (b.length : Int) - 6 < ((0 : Nat) : Int) := by omega
  have hn3 : 6 + ((0 : Nat) : Int) ≤ (b.length : Int) := by omega
  have hn4 : 6 + ((0 : Nat) : Int) ≤ ((6 : Nat) : Int) := by omega
  have hn0 : (0 : Int) ≤ ((0 : Nat) : Int) := by omega
  have hsum := (sum ([] : List UInt8)).isLt
  have hnum := num_lt ((b.drop 2).take 4)
  rw [HT4.out] at hnum
  have hnum2 : (256 : Nat) ^ 4 = 4294967296 := by decide
  have HNI := Lib.hid hnum
  clear hnum hnum2
  have HB6 := Lib.hid hb6
  go_enter Try.func84, Try.ntmps84
  go_wp2_with fail
  refine (number_at (b.take 2) _ _ _ _ HT.out (by rw [HT.out]; omega) (HR.out.take 2)).mono ?_
  rintro en w1 ⟨rfl, rfl⟩
  rw [HN.out]
  go_wp2
  go_quiet (fail)
  go_wp2
  have RW := HR.out.drewN nq
  have BW := below_drewN (Below.refl w.heap.size w) nq
  generalize w.drewN nq = W at RW BW ⊢
  have HW := Lib.hid RW
  clear RW
  refine wp_region_keep (by kernel_rfl) (by kernel_rfl) ?_
  repeat (first
    | go_big_quiet_skip
    | (go_big_quiet_want
       apply quiet_mk
       · intro w' hw'
         go_simp
         first
           | rfl
           | (go_at_call 28; refine (sum_at ([] : List UInt8) _ _ _ _ HTn.out (by rw [HTn.out]; omega) (RB.nil _ _)).mono ?_; rintro e w'' ⟨rfl, rfl⟩; exact ⟨rfl, hw'⟩)
           | (go_at_call 101; refine (number_at ((b.drop 2).take 4) _ _ _ _ HT4.out (by rw [HT4.out]; omega) ((HW.out.below hw').drop_take 2 4)).mono ?_; rintro e w'' ⟨rfl, rfl⟩; exact ⟨rfl, hw'⟩)
       go_big_quiet_on
       simp only [Act.put, List.setIfInBounds_toArray, List.set_cons_succ, List.set_cons_zero]))
  refine wpQuiet_nil ?_
  intro w' hw'
  have hdec : (((((sum ([] : List UInt8)).toNat : Nat) : Int) == ((num ((b.drop 2).take 4) : Nat) : Int)) = true ∧ cut b = some (([] : List UInt8), [])) ∨ (((((sum ([] : List UInt8)).toNat : Nat) : Int) == ((num ((b.drop 2).take 4) : Nat) : Int)) = false ∧ cut b = none) := by
    have hn : num (b.take 2) = 0 := HN.out
    by_cases he : (sum ([] : List UInt8)).toNat = num ((b.drop 2).take 4)
    · refine .inl ⟨by simp [he], ?_⟩
      unfold cut
      rw [hn, if_neg (by omega), if_neg (by omega), List.take_zero, if_pos he]; simp; omega
    · refine .inr ⟨by rw [beq_eq_false_iff_ne]; omega, ?_⟩
      unfold cut
      rw [hn, if_neg (by omega), if_neg (by omega), List.take_zero, if_neg he]
  have HD := Lib.hid hdec
  clear hdec
  go_wp2
  go_ret3
  refine ⟨BW.trans (hw'.mono BW.size), ?_⟩
  rcases HD.out with ⟨e1, e2⟩ | ⟨e1, e2⟩
  · refine .inr ⟨_, _, _, _, e2, tuple3_eq (by rw [wu _ hsum]; exact e1), fun w0 RR => ⟨?_, ?_⟩⟩
    · exact ⟨_, _, rfl, by simp, fun h => (by cases h), RB.nil _ _⟩
    · exact ⟨_, _, rfl, by simp, fun h => (by cases h), RB.nil _ _⟩
  · exact .inl ⟨e2, _, _, tuple3_eq (by rw [wu _ hsum]; exact e1)⟩

set_option maxHeartbeats 1000000 in
theorem cut_main2 (b : List UInt8) (g off : Nat) (cap n : Nat) (w : World) (h : 6 ≤ b.length) (hc : b.length ≤ cap) (hb : b.length ≤ 1000000) (hr : RB w (some ⟨g, off, none⟩) b) (hn : num (b.take 2) = n) (hnp : 0 < n) (hcap : cap ≤ 6 + n) (hn1 : n ≤ 4096) (hn2 : n ≤ b.length - 6) :
    Calls Try.prog 84 #[.slice (some ⟨g, off, none⟩) b.length cap] w (CutOf b (some ⟨g, off, none⟩) w) := by
  have h' : ¬ (b.length : Int) < 6 := by omega
  have hb' : (b.length : Int) ≤ 1000000 := by omega
  have hbc : (b.length : Int) ≤ ((cap : Nat) : Int) := by omega
  have hc2 : (2 : Int) ≤ ((cap : Nat) : Int) := by omega
  have hc6 : (6 : Int) ≤ ((cap : Nat) : Int) := by omega
  have HR := Lib.hid hr
  have HN := Lib.hid hn
  clear hr hn
  have HT : Hid ((b.take 2).length = 2) := by show _ = _; simp; omega
  have HT4 : Hid (((b.drop 2).take 4).length = 4) := by show _ = _; simp; omega
  have HTn : Hid (((b.drop 6).take n).length = n) := by show _ = _; simp; omega
  have hn1' : ((n : Nat) : Int) ≤ 4096 := by omega
  have hn2' : ¬ (b.length : Int) - 6 < ((n : Nat) : Int) := by omega
  have hn3 : 6 + ((n : Nat) : Int) ≤ (b.length : Int) := by omega
  have hn4 : 6 + ((n : Nat) : Int) ≤ ((cap : Nat) : Int) := by omega
  have hn0 : (0 : Int) ≤ ((n : Nat) : Int) := by omega
  have hsum := (sum ((b.drop 6).take n)).isLt
  have hnum := num_lt ((b.drop 2).take 4)
  rw [HT4.out] at hnum
  have hnum2 : (256 : Nat) ^ 4 = 4294967296 := by decide
  have HNI := Lib.hid hnum
  clear hnum hnum2
  have hcap2 : ¬ cap = 2 := by omega
  have hn5 : ((cap : Nat) : Int) ≤ 6 + (n : Int) := by omega
  have hbl : b.length = 6 + n := by omega
  have HBL := Lib.hid hbl
  clear hbl
  go_enter Try.func84, Try.ntmps84
  go_wp2_with fail
  refine (number_at (b.take 2) _ _ _ _ HT.out (by rw [HT.out]; omega) (HR.out.take 2)).mono ?_
  rintro en w1 ⟨rfl, rfl⟩
  rw [HN.out]
  go_wp2
  go_quiet (fail)
  go_wp2
  have RW := HR.out.drewN nq
  have BW := below_drewN (Below.refl w.heap.size w) nq
  generalize w.drewN nq = W at RW BW ⊢
  have HW := Lib.hid RW
  clear RW
  refine wp_region_keep (by kernel_rfl) (by kernel_rfl) ?_
  repeat (first
    | go_big_quiet_skip
    | (go_big_quiet_want
       apply quiet_mk
       · intro w' hw'
         go_simp
         first
           | rfl
           | (go_at_call 28; refine (sum_at ((b.drop 6).take n) _ _ _ _ HTn.out (by rw [HTn.out]; omega) ((HW.out.below hw').drop_take 6 n)).mono ?_; rintro e w'' ⟨rfl, rfl⟩; exact ⟨rfl, hw'⟩)
           | (go_at_call 101; refine (number_at ((b.drop 2).take 4) _ _ _ _ HT4.out (by rw [HT4.out]; omega) ((HW.out.below hw').drop_take 2 4)).mono ?_; rintro e w'' ⟨rfl, rfl⟩; exact ⟨rfl, hw'⟩)
       go_big_quiet_on
       simp only [Act.put, List.setIfInBounds_toArray, List.set_cons_succ, List.set_cons_zero]))
  refine wpQuiet_nil ?_
  intro w' hw'
  have hdec : (((((sum ((b.drop 6).take n)).toNat : Nat) : Int) == ((num ((b.drop 2).take 4) : Nat) : Int)) = true ∧ cut b = some ((b.drop 6).take n, (b.drop 6).drop n)) ∨ (((((sum ((b.drop 6).take n)).toNat : Nat) : Int) == ((num ((b.drop 2).take 4) : Nat) : Int)) = false ∧ cut b = none) := by
    have hn : num (b.take 2) = n := HN.out
    by_cases he : (sum ((b.drop 6).take n)).toNat = num ((b.drop 2).take 4)
    · refine .inl ⟨by simp [he], ?_⟩
      unfold cut
      rw [hn, if_neg (by omega), if_neg (by omega), if_pos he]
    · refine .inr ⟨by rw [beq_eq_false_iff_ne]; omega, ?_⟩
      unfold cut
      rw [hn, if_neg (by omega), if_neg (by omega), if_neg he]
  have HD := Lib.hid hdec
  clear hdec
  go_wp2
  go_ret3
  refine ⟨BW.trans (hw'.mono BW.size), ?_⟩
  rcases HD.out with ⟨e1, e2⟩ | ⟨e1, e2⟩
  · refine .inr ⟨_, _, _, _, e2, tuple3_eq (by rw [wu _ hsum]; exact e1), fun w0 RR => ⟨?_, ?_⟩⟩
    · exact ⟨_, _, by rw [HTn.out]; rfl, by rw [HTn.out]; omega, fun h => (by cases h), RR.drop_take 6 n⟩
    · exact ⟨_, _, by rw [show ((b.drop 6).drop n).length = b.length - (6 + n) by simp <;> omega]; rfl, by simp; have := HBL.out; omega, fun h => (by cases h), by rw [show (b.drop 6).drop n = [] by simp; have := HBL.out; omega]; exact RB.nil _ _⟩
  · exact .inl ⟨e2, _, _, tuple3_eq (by rw [wu _ hsum]; exact e1)⟩

set_option maxHeartbeats 1000000 in
theorem cut_main3 (b : List UInt8) (g off : Nat) (cap n : Nat) (w : World) (h : 6 ≤ b.length) (hc : b.length ≤ cap) (hb : b.length ≤ 1000000) (hr : RB w (some ⟨g, off, none⟩) b) (hn : num (b.take 2) = n) (hcap : 6 + n < cap) (hn1 : n ≤ 4096) (hn2 : n ≤ b.length - 6) :
    Calls Try.prog 84 #[.slice (some ⟨g, off, none⟩) b.length cap] w (CutOf b (some ⟨g, off, none⟩) w) := by
  have h' : ¬ (b.length : Int) < 6 := by omega
  have hb' : (b.length : Int) ≤ 1000000 := by omega
  have hbc : (b.length : Int) ≤ ((cap : Nat) : Int) := by omega
  have hc2 : (2 : Int) ≤ ((cap : Nat) : Int) := by omega
  have hc6 : (6 : Int) ≤ ((cap : Nat) : Int) := by omega
  have HR := Lib.hid hr
  have HN := Lib.hid hn
  clear hr hn
  have HT : Hid ((b.take 2).length = 2) := by show _ = _; simp; omega
  have HT4 : Hid (((b.drop 2).take 4).length = 4) := by show _ = _; simp; omega
  have HTn : Hid (((b.drop 6).take n).length = n) := by show _ = _; simp; omega
  have hn1' : ((n : Nat) : Int) ≤ 4096 := by omega
  have hn2' : ¬ (b.length : Int) - 6 < ((n : Nat) : Int) := by omega
  have hn3 : 6 + ((n : Nat) : Int) ≤ (b.length : Int) := by omega
  have hn4 : 6 + ((n : Nat) : Int) ≤ ((cap : Nat) : Int) := by omega
  have hn0 : (0 : Int) ≤ ((n : Nat) : Int) := by omega
  have hsum := (sum ((b.drop 6).take n)).isLt
  have hnum := num_lt ((b.drop 2).take 4)
  rw [HT4.out] at hnum
  have hnum2 : (256 : Nat) ^ 4 = 4294967296 := by decide
  have HNI := Lib.hid hnum
  clear hnum hnum2
  have hcap2 : ¬ cap = 2 := by omega
  go_enter Try.func84, Try.ntmps84
  go_wp2_with fail
  refine (number_at (b.take 2) _ _ _ _ HT.out (by rw [HT.out]; omega) (HR.out.take 2)).mono ?_
  rintro en w1 ⟨rfl, rfl⟩
  rw [HN.out]
  go_wp2
  go_quiet (fail)
  go_wp2
  have RW := HR.out.drewN nq
  have BW := below_drewN (Below.refl w.heap.size w) nq
  generalize w.drewN nq = W at RW BW ⊢
  have HW := Lib.hid RW
  clear RW
  refine wp_region_keep (by kernel_rfl) (by kernel_rfl) ?_
  repeat (first
    | go_big_quiet_skip
    | (go_big_quiet_want
       apply quiet_mk
       · intro w' hw'
         go_simp
         first
           | rfl
           | (go_at_call 28; refine (sum_at ((b.drop 6).take n) _ _ _ _ HTn.out (by rw [HTn.out]; omega) ((HW.out.below hw').drop_take 6 n)).mono ?_; rintro e w'' ⟨rfl, rfl⟩; exact ⟨rfl, hw'⟩)
           | (go_at_call 101; refine (number_at ((b.drop 2).take 4) _ _ _ _ HT4.out (by rw [HT4.out]; omega) ((HW.out.below hw').drop_take 2 4)).mono ?_; rintro e w'' ⟨rfl, rfl⟩; exact ⟨rfl, hw'⟩)
       go_big_quiet_on
       simp only [Act.put, List.setIfInBounds_toArray, List.set_cons_succ, List.set_cons_zero]))
  refine wpQuiet_nil ?_
  intro w' hw'
  have hdec : (((((sum ((b.drop 6).take n)).toNat : Nat) : Int) == ((num ((b.drop 2).take 4) : Nat) : Int)) = true ∧ cut b = some ((b.drop 6).take n, (b.drop 6).drop n)) ∨ (((((sum ((b.drop 6).take n)).toNat : Nat) : Int) == ((num ((b.drop 2).take 4) : Nat) : Int)) = false ∧ cut b = none) := by
    have hn : num (b.take 2) = n := HN.out
    by_cases he : (sum ((b.drop 6).take n)).toNat = num ((b.drop 2).take 4)
    · refine .inl ⟨by simp [he], ?_⟩
      unfold cut
      rw [hn, if_neg (by omega), if_neg (by omega), if_pos he]
    · refine .inr ⟨by rw [beq_eq_false_iff_ne]; omega, ?_⟩
      unfold cut
      rw [hn, if_neg (by omega), if_neg (by omega), if_neg he]
  have HD := Lib.hid hdec
  clear hdec
  go_wp2
  go_ret3
  refine ⟨BW.trans (hw'.mono BW.size), ?_⟩
  rcases HD.out with ⟨e1, e2⟩ | ⟨e1, e2⟩
  · refine .inr ⟨_, _, _, _, e2, tuple3_eq (by rw [wu _ hsum]; exact e1), fun w0 RR => ⟨?_, ?_⟩⟩
    · exact ⟨_, _, by rw [HTn.out]; rfl, by rw [HTn.out]; omega, fun h => (by cases h), RR.drop_take 6 n⟩
    · exact ⟨_, _, by rw [show ((b.drop 6).drop n).length = b.length - (6 + n) by simp <;> omega]; rfl, by simp <;> omega, fun h => (by cases h), ((RR.drop 6).drop n).off (by omega)⟩
  · exact .inl ⟨e2, _, _, tuple3_eq (by rw [wu _ hsum]; exact e1)⟩
theorem cut_any (b : List UInt8) (a : Option Addr) (cap : Nat) (w : World) (hc : b.length ≤ cap) (hb : b.length ≤ 1000000) (hr : RB w a b) : Calls Try.prog 84 #[.slice a b.length cap] w (CutOf b a w) := by
  by_cases h6 : b.length < 6
  · refine (cut_short b a cap w h6).mono ?_
    rintro en w' ⟨v1, v2, e, hbl⟩
    exact ⟨hbl, .inl ⟨by unfold cut; rw [if_pos h6], v1, v2, e⟩⟩
  · obtain ⟨g, off, rfl, _, _⟩ := hr 0 (by omega)
    by_cases hn : 4096 < num (b.take 2) ∨ b.length - 6 < num (b.take 2)
    · refine (cut_far b g off cap w (by omega) hc hb hr hn).mono ?_
      rintro en w' ⟨v1, v2, e, hbl⟩
      exact ⟨hbl, .inl ⟨by unfold cut; rw [if_neg h6, if_pos hn], v1, v2, e⟩⟩
    · rcases Nat.lt_or_ge (6 + num (b.take 2)) cap with h1 | h1
      · exact cut_main3 b g off cap _ w (by omega) hc hb hr rfl h1 (by omega) (by omega)
      · by_cases h0 : num (b.take 2) = 0
        · have hc6 : cap = 6 := by omega
          subst hc6
          exact cut_main1 b g off w (by omega) hc hr (by omega) h0 (by omega)
        · exact cut_main2 b g off cap _ w (by omega) hc hb hr rfl (by omega) h1 (by omega) (by omega)
end Go.Proofs.Ytopemjbakpahfaa
/-
  The contract of Cut: for all bytes.
-/
namespace Go.Proofs.Ytopemjbakpahfaa
open Go.RowKit Crc
/-- What Cut hands back: bytes of new memory, or none. -/
def CutNew (b : List UInt8) (w : World) (en : Ending) (w' : World) : Prop :=
  Below w.heap.size w w' ∧ ((cut b = none ∧ en = .returned (.tuple #[.slice none 0 0, .slice none 0 0, .int .i64 4])) ∨
    ∃ h r v1 v2, cut b = some (h, r) ∧ en = .returned (.tuple #[v1, v2, .int .i64 0]) ∧ w'.ownsRow w.heap.size 5 1 v1 h.length (h.map byteV) ∧ w'.ownsRow w.heap.size 5 1 v2 r.length (r.map byteV))
theorem Cut_any (b : List UInt8) (a : Option Addr) (cap : Nat) (w : World) (hc : b.length ≤ cap) (hb : b.length ≤ 1000000) (hr : RB w a b) : Calls Try.prog 26 #[.slice a b.length cap] w (CutNew b w) := by
  go_enter Try.func26, Try.ntmps26
  go_wp2_with fail
  refine (cut_any b a cap w hc hb hr).mono ?_
  rintro en w1 ⟨hb1, ⟨e, v1, v2, rfl⟩ | ⟨h, r, v1, v2, e, rfl, hpp⟩⟩
  · go_wp2
    go_ret3
    exact ⟨hb1, .inl ⟨e, rfl⟩⟩
  · obtain ⟨⟨a1, c1, rfl, l1, n1, r1⟩, ⟨a2, c2, rfl, l2, n2, r2⟩⟩ := hpp w hr
    have hlen := (cut_some e).2.2
    replace r1 := r1.below hb1
    replace r2 := r2.below hb1
    have E := Lib.hid e
    have R1 := Lib.hid r1
    have R2 := Lib.hid r2
    clear e r1 r2
    go_wp2_with fail
    refine (clone_any h a1 c1 w1 (by omega) l1 n1 R1.out).mono ?_
    rintro en w2 ⟨v3, rfl, o3, hb2⟩
    go_wp2_with fail
    refine (clone_any r a2 c2 w2 (by omega) l2 n2 (R2.out.below hb2)).mono ?_
    rintro en w3 ⟨v4, rfl, o4, hb3⟩
    go_wp2
    go_ret3
    have s2 := hb1.size
    have s3 := hb2.size
    exact ⟨hb1.trans ((hb2.mono s2).trans (hb3.mono (by omega))), .inr ⟨h, r, v3, v4, E.out, rfl, ownsRow_base (owns_below o3 hb3) s2, ownsRow_base o4 (by omega)⟩⟩
end Go.Proofs.Ytopemjbakpahfaa
/-
  Opening an argument of a law: bytes, a word of 32 bits, a byte, as plain values. No condition.
-/
namespace Go.Proofs.Ytopemjbakpahfaa
open Go.ChangeShapes Go.WideShapes Go.ChangeAt Go.RowKit
section
variable {H : Type} {enc : TypeId × Value → H} {P : Program} {w : World} {base : Nat} {spare : Nat → Bool} {held : Bool}
theorem wf_u8 {n : Int} (h : (Lit.int .u8 n).wf = true) : 0 ≤ n ∧ n < 256 := by
  simp [Lit.wf, IntKind.min, IntKind.max, IntKind.signed, IntKind.bits] at h
  omega
theorem wf_u32 {n : Int} (h : (Lit.int .u32 n).wf = true) : 0 ≤ n ∧ n < 4294967296 := by
  simp [Lit.wf, IntKind.min, IntKind.max, IntKind.signed, IntKind.bits] at h
  omega
theorem u8_of {n : Int} (h : (Lit.int .u8 n).wf = true) : ∃ b : UInt8, n = (b.toNat : Int) := by
  have := wf_u8 h
  refine ⟨UInt8.ofNat n.toNat, ?_⟩
  simp only [UInt8.toNat_ofNat']
  omega
theorem u32_of {n : Int} (h : (Lit.int .u32 n).wf = true) : ∃ c : Crc.W32, n = (c.toNat : Int) := by
  have := wf_u32 h
  refine ⟨BitVec.ofNat 32 n.toNat, ?_⟩
  simp only [BitVec.toNat_ofNat]
  omega
theorem bytes_of_cells {a : Addr} {cap len : Nat} {zs : List Int} (hl : len ≤ cap) (hz : zs.length = cap) (hc : ∀ i, i < zs.length → w.cell? (a.add i) = some (.int .u8 (zs.getD i 0))) (hw : ∀ n ∈ zs, (Lit.int .u8 n).wf = true) :
    ∃ l : List UInt8, l.length = len ∧ RB w (some a) l := by
  refine ⟨(zs.take len).map (fun z => UInt8.ofNat z.toNat), by simp; omega, ?_⟩
  intro i hi
  have hi' : i < len := by simp at hi; omega
  have h0 := hc 0 (by omega)
  obtain ⟨g, off, spot⟩ := a
  have hspot : spot = none := by simpa [Addr.add] using World.cell?_spot h0
  subst hspot
  refine ⟨g, off, rfl, World.block_lt_of_cell? w _ h0, ?_⟩
  have h := hc i (by omega)
  have e : (⟨g, off, none⟩ : Addr).add i = ⟨g, off + i, none⟩ := by
    unfold Addr.add; split
    · rename_i h; subst h; rfl
    · rfl
  rw [e] at h
  rw [h]
  have hiz : i < zs.length := by omega
  have hb := wf_u8 (hw (zs[i]) (List.getElem_mem hiz))
  have hx : (((zs.take len).map (fun z => UInt8.ofNat z.toNat)).getD i 0) = UInt8.ofNat (zs[i]).toNat := by simp [List.getD, hi', hiz]
  unfold byteV
  rw [hx, UInt8.toNat_ofNat']
  have hy : zs.getD i 0 = zs[i] := by simp [List.getD, hiz]
  rw [hy]
  congr 2
  omega
theorem open_bytes {r : Reach} {b0 : Nat} {t e : TypeId} {v : Value} {d : DataW H} {p : List MemPlace} (ht : P.underlying t = some (.slice e)) (he : P.underlying e = some (.int .u8)) (hE : P.cellsOf e = 1)
    (hv : Value.okWide P w r b0 t v) (h : DataW.Trod enc P w 0 (fun _ => true) held t v d p) :
    ∃ (l : List UInt8) (a : Option Addr) (cap : Nat), v = .slice a l.length cap ∧ l.length ≤ cap ∧ cap ≤ maxLen ∧ (a = none → cap = 0) ∧ RB w a l := by
  obtain ⟨a0, len0, cap0, rfl⟩ := okWide_slice ht hv
  obtain ⟨fuel, hf⟩ := h
  rcases open_ints ht he hE hf with ⟨hcs, _⟩ | ⟨x, l, c, zs, hcs, _, hl, hm, hz, _, hcell, hwz⟩
  · simp [Value.cells] at hcs
    obtain ⟨rfl, rfl, rfl⟩ := hcs
    exact ⟨[], none, 0, rfl, Nat.le_refl _, Nat.zero_le _, fun _ => rfl, RB.nil _ _⟩
  · simp [Value.cells] at hcs
    obtain ⟨rfl, rfl, rfl⟩ := hcs
    obtain ⟨l, rfl, hr⟩ := bytes_of_cells hl (by simpa using hz) hcell hwz
    exact ⟨l, _, _, rfl, hl, hm, fun e => (by cases e), hr⟩
end
/-- A string value out of bytes. -/
def strV (l : List UInt8) : Value := .string ⟨l.toArray⟩
theorem conv_str (w : World) (a : Option Addr) (cap : Nat) (l : List UInt8) (hn : a = none → l.length = 0) (hr : RB w a l) : (convert 22 9 (.slice a l.length cap)).run Try.prog w = .ok (strV l) w := by
  cases a with
  | none =>
    have := hn rfl
    rw [List.eq_nil_of_length_eq_zero this]
    exact Lib.run_convert_nil_bytes w 22 9 5 cap Try.underlying22 Try.underlying5 Try.underlying9
  | some ad =>
    refine run_convert_bytes_back w 22 9 5 ad cap l Try.underlying22 Try.underlying5 Try.underlying9 fun j hj => ?_
    exact hr.news j _ (by simp [hj, byteV])
theorem conv_bs {w : World} {v : Value} {base n : Nat} {l : List UInt8} (h : w.ownsRow base 5 1 v n (l.map byteV)) : (convert 22 9 v).run Try.prog w = .ok (strV l) w := by
  obtain ⟨a, cap, rfl, h1, h2, h3⟩ := RB.of_owns h
  exact conv_str w a cap l (fun e => by have := h2 e; omega) h3
theorem strV_inj {l m : List UInt8} (h : (⟨l.toArray⟩ : ByteArray) = ⟨m.toArray⟩) : l = m := by
  have : (⟨l.toArray⟩ : ByteArray).data = (⟨m.toArray⟩ : ByteArray).data := by rw [h]
  simpa using this
end Go.Proofs.Ytopemjbakpahfaa
/-
  Appending bytes to bytes of the call's own, in one law for nil and for others; a literal's bytes. No condition but that the lengths are small.
-/
namespace Go.Proofs.Ytopemjbakpahfaa
open Go.RowKit Crc
theorem app_bytes {ops : Array Oper} {rest : List Oper} {o : Oper} {a : Act} {Q : Exit → Act → World → Prop} {w : World} (hgd : o.guard = none) (s x : Operand)
    (ho : o.op = .call { callee := .builtin .append, args := #[s, x], argTypes := #[22, 22] })
    (base : Nat) (v : Value) (l m : List UInt8) (c : Nat) (hs : a.eval s = v) (hown : w.ownsRow base 5 1 v l.length (l.map byteV)) (pa : Option Addr) (hx : a.eval x = .slice pa m.length c) (hn : pa = none → c = 0 ∧ m = [])
    (hr : RB w pa m) (hb : l.length + m.length ≤ 1000000000) (b3 : base ≤ w.heap.size)
    (hK : ∀ v' w', w'.ownsRow base 5 1 v' (l ++ m).length ((l ++ m).map byteV) → Below base w w' → w.grownBy w' v.ownBlock → wpList Try.prog ops Q rest (a.put o.dst v') w') : wpList Try.prog ops Q (o :: rest) a w := by
  obtain ⟨i0, hi, hz0, hz1, hz2⟩ := info_parts info5
  cases pa with
  | none =>
    obtain ⟨rfl, rfl⟩ := hn rfl
    refine wpList_append_own_none hgd s x 22 ho base 5 i0 1 Try.underlying22 hi _ l.length _ hs hown hx ?_
    exact hK _ _ (by simpa using hown) (Below.refl _ _) ⟨rfl, rfl, rfl, Nat.le_refl _, fun _ _ _ => rfl⟩
  | some ad =>
    refine wpList_append_own _ hgd s x 22 ho base 5 i0 (.int .u8 0) 1 1 Try.underlying22 hi hz0 hz1 hz2 rfl (by decide) _ l.length _ hs hown ad m.length c (m.map byteV) hx (by simp) hr.news (oneCell_bytes m) (by unfold maxLen; omega) (by omega) b3 ?_
    intro v' w' own' g' _
    exact hK v' w' (by simpa using own') ((Below.refl _ w).grown g' b3 (fun k hk => (hown.lt k hk).1)) g'
/-- A literal's bytes. -/
theorem RB.lit (w : World) (l : List UInt8) (xs : Array Value) (fr : Nat × Nat) (n : Nat) (hn : w.heap.size = n) (hx : xs = (l.map byteV).toArray) : RB (w.alloc (.cells xs 5 fr)) (some ⟨n, 0, none⟩) l := by
  subst hn hx
  intro i hi
  refine ⟨w.heap.size, 0, rfl, by simp, ?_⟩
  rw [Nat.zero_add, cell_of_row _ _ i _ 5 fr (heap_alloc_new w _)]
  simp [hi]
theorem owns_bytes (w : World) (l : List UInt8) (xs : Array Value) (base n : Nat) (hn : w.heap.size = n) (hb : base ≤ n) (hx : xs = (l.map byteV).toArray) (hm : l.length ≤ maxLen) : (w.alloc (.cells xs 5)).ownsRow base 5 1 (.slice (some ⟨n, 0, none⟩) l.length l.length) l.length (l.map byteV) := by
  subst hn hx
  have h := owns_lit w (xs := (l.map byteV).toArray) (t := 5) hb (n := l.length) (by simp) hm
  simpa using h
theorem conv_const (w : World) (C : Array Value) (n c g : Nat) (hg : w.heap.size = g) : (convert 22 22 (.slice (some ⟨g, 0, none⟩) n c)).run Try.prog (w.alloc (.cells C 5)) = .ok (.slice (some ⟨g, 0, none⟩) n c) (w.alloc (.cells C 5 (C.size, C.size + 1))) := by
  subst hg
  exact Lib.run_convert_bytes_const w 22 5 C n c Try.underlying22 Try.underlying5
end Go.Proofs.Ytopemjbakpahfaa
/-
  The small case of the statements on a device comes out right. No condition.
-/
namespace Go.Proofs.Ytopemjbakpahfaa
open Go.RowKit Disk
/-- Bytes in a block that is not the device's stay. -/
theorem RB.frm {F : Nat → Prop} {w w' : World} {g off : Nat} {l : List UInt8} (h : RB w (some ⟨g, off, none⟩) l) (hf : Frm F w w') (hg : ¬ F g) : RB w' (some ⟨g, off, none⟩) l := by
  intro i hi
  obtain ⟨g', off', e, hl, hc⟩ := h i hi
  cases e
  exact ⟨g, off, rfl, Nat.lt_of_lt_of_le hl hf.size, (World.cell?_of_block (hf.block g hl hg)).trans hc⟩
theorem grow_ge {F : Nat → Prop} {w w' : World} {n : Nat} (h : ∀ k, F k → n ≤ k) (hn : n ≤ w.heap.size) : ∀ k, Grow F w w' k → n ≤ k := fun k hk => hk.elim (h k) (fun h1 => Nat.le_trans hn h1.1)
theorem grow_not {F : Nat → Prop} {w w' : World} {g : Nat} (h : ¬ F g) (hg : g < w.heap.size) : ¬ Grow F w w' g := fun hk => hk.elim h (fun h1 => by omega)
theorem DevOf.out {F : Nat → Prop} {w w' : World} {B : Nat} {e : Dev} {v : Value} {en : Ending} (h : DevOf F w B e v en w') {n : Nat} (hF : ∀ k, F k → n ≤ k) (hn : n ≤ w.heap.size) :
    en = .returned v ∧ Frm F w w' ∧ Below n w w' ∧ ∃ F', IsDev F' w' B e ∧ (∀ k, F' k → n ≤ k) ∧ ∀ k, F' k → F k ∨ w.heap.size ≤ k :=
  ⟨h.1, h.2.1, h.2.1.below hF hn, _, h.2.2, grow_ge hF hn, fun _ hk => hk.imp_right (·.1)⟩
/-- A literal's bytes are written. -/
theorem write_lit {F : Nat → Prop} {w : World} {B : Nat} {d : Dev} (h : IsDev F w B d) (k : Int) (l : List UInt8) (xs : Array Value) (fr : Nat × Nat) (n c g : Nat) (hn : l.length = n) (hx : xs = (l.map byteV).toArray) (hg : w.heap.size = g) (hl : l.length ≤ 1000) (hp : d.pend.length ≤ 100000) (hw : d.writes ≤ 100000) :
    Calls Try.prog 34 #[.pointer (some ⟨B, 0, none⟩), .int .i64 k, .slice (some ⟨g, 0, none⟩) n c] (w.alloc (.cells xs 5 fr)) (DevOf F (w.alloc (.cells xs 5 fr)) B (d.write k l).1 (.int .i64 (d.write k l).2)) := by
  subst hn hg
  exact write_any (h.below (below_alloc w _)) k l _ c (by omega) (fun e => by cases e) (fun w' hf => RB.frm (RB.lit w l xs fr _ rfl hx) hf (fun hF => by have := h.lt _ hF; omega)) hp hw
def d0 : Dev := Dev.new 2
def d1 : Dev := (d0.write 0 [97]).1
def d2 : Dev := d1.sync.1
def d3 : Dev := (d2.write 0 [98]).1
def d4 : Dev := (d3.write 1 [99]).1
def d5 : Dev := (d4.restart [1]).1
def d6 : Dev := d5.arm 1
def d7 : Dev := (d6.write 0 []).1
theorem r1 : (d0.write 0 [97]).2 = 0 := by decide +kernel
theorem r2 : d1.sync.2 = 0 := by decide +kernel
theorem r3 : (d2.write 0 [98]).2 = 0 := by decide +kernel
theorem r4 : (d3.write 1 [99]).2 = 0 := by decide +kernel
theorem r5 : (d4.restart [1]).2 = 1 := by decide +kernel
theorem r6 : d5.read 0 = (97 :: List.replicate 31 0, 0) := by decide +kernel
theorem r7 : d5.read 1 = (99 :: List.replicate 31 0, 0) := by decide +kernel
theorem r8 : (d6.write 0 []).2 = 14 := by decide +kernel
theorem r9 : (d7.read 0).2 = 14 := by decide +kernel
theorem r10 : d7.down = true := by decide +kernel
theorem r11 : d7.kept.length = 2 := by decide +kernel
theorem sz2 : sizeOfDev 2 = 2 := by decide +kernel
set_option maxRecDepth 100000 in
set_option maxHeartbeats 4000000 in
theorem dsmall_any (w : World) : Calls Try.prog 32 #[] w fun en w' => en = .returned (.bool true) ∧ Below w.heap.size w w' := by
  have kc := conv_const
  go_enter Try.func32, Try.ntmps32
  go_wp2_with fail
  refine (new_any w 2).mono ?_
  rintro en w1 ⟨B, rfl, B1, hB, D1⟩
  rw [sz2] at D1
  obtain ⟨F1, hF1⟩ : ∃ F : Nat → Prop, (fun k => w.heap.size ≤ k ∧ k < w1.heap.size) = F := ⟨_, rfl⟩
  have g1 : ∀ k, F1 k → w.heap.size ≤ k := by rw [← hF1]; exact fun k hk => hk.1
  rw [hF1] at D1
  clear hF1
  have hD0 : IsDev F1 w1 B d0 := D1
  clear D1
  go_wp2_with fail
  refine (write_lit hD0 0 [97] _ _ _ _ _ rfl rfl rfl (by decide) (by decide +kernel) (by decide +kernel)).mono ?_
  intro en w2 h2
  obtain ⟨rfl, _, b2, F2, D2, g2, _⟩ := h2.out g1 (Nat.le_trans B1.size (by simp))
  replace b2 := (B1.alloc B1.size _).trans b2
  rw [r1]
  have D2 : IsDev F2 w2 B d1 := D2
  clear h2 hD0 g1 B1
  go_wp2_with fail
  refine (sync_any D2 (by decide +kernel) (by decide +kernel)).mono ?_
  intro en w3 h3
  obtain ⟨rfl, _, b3, F3, D3, g3, _⟩ := h3.out g2 b2.size
  replace b3 := b2.trans b3
  rw [r2]
  have D3 : IsDev F3 w3 B d2 := D3
  clear h3 D2 g2 b2
  go_wp2_with fail
  refine (write_lit D3 0 [98] _ _ _ _ _ rfl rfl rfl (by decide) (by decide +kernel) (by decide +kernel)).mono ?_
  intro en w4 h4
  obtain ⟨rfl, _, b4, F4, D4, g4, _⟩ := h4.out g3 (Nat.le_trans b3.size (by simp))
  replace b4 := (b3.alloc b3.size _).trans b4
  rw [r3]
  have D4 : IsDev F4 w4 B d3 := D4
  clear h4 D3 g3 b3
  go_wp2_with fail
  refine (write_lit D4 1 [99] _ _ _ _ _ rfl rfl rfl (by decide) (by decide +kernel) (by decide +kernel)).mono ?_
  intro en w5 h5
  obtain ⟨rfl, _, b5, F5, D5, g5, _⟩ := h5.out g4 (Nat.le_trans b4.size (by simp))
  replace b5 := (b4.alloc b4.size _).trans b5
  rw [r4]
  have D5 : IsDev F5 w5 B d4 := D5
  clear h5 D4 g4 b4
  go_wp2_with fail
  have hri : ∀ w', Frm F5 (w5.alloc (.cells #[.int .i64 1] 3)) w' → RI w' (some ⟨w5.heap.size, 0, none⟩) [1] := by
    intro w' hf i hi
    obtain rfl : i = 0 := by simpa using hi
    refine ⟨w5.heap.size, 0, rfl, Nat.lt_of_lt_of_le (by simp) hf.size, ?_⟩
    rw [World.cell?_of_block (hf.block w5.heap.size (by simp) (fun hF => by have := D5.lt _ hF; omega)), Joins.cell_of_block (heap_alloc_new w5 _)]
    rfl
  refine (restart_any (D5.below (below_alloc w5 (.cells #[.int .i64 1] 3))) (by decide +kernel) [1] _ 1 (by decide) hri).mono ?_
  intro en w6 h6
  obtain ⟨rfl, _, b6, F6, D6, g6, _⟩ := h6.out g5 (Nat.le_trans b5.size (by simp))
  replace b6 := (b5.alloc b5.size _).trans b6
  rw [r5]
  have D6 : IsDev F6 w6 B d5 := D6
  clear h6 D5 g5 b5 hri
  go_wp2_with fail
  refine (read_any D6 0 (by decide +kernel)).mono ?_
  rintro en w7 ⟨b7, v7, rfl, s7⟩
  rw [r6] at s7 ⊢
  rcases s7 with ⟨_, e⟩ | ⟨ga, rfl, _, ha1, ha2, ha3, _⟩
  · cases e
  have D7 := D6.below b7
  have n7 : ¬ F6 ga := fun hF => by have := D6.lt _ hF; omega
  have c7 : w7.cell? ⟨ga, 0, none⟩ = some (.int .u8 97) := ha3 0 _ rfl
  have B7 := b6.trans (b7.mono b6.size)
  clear D6 ha3 b6 b7
  go_wp2_with fail
  refine (read_any D7 1 (by decide +kernel)).mono ?_
  rintro en w8 ⟨b8, v8, rfl, s8⟩
  rw [r7] at s8 ⊢
  rcases s8 with ⟨_, e⟩ | ⟨gb, rfl, _, hb1, hb2, hb3, _⟩
  · cases e
  have D8 := D7.below b8
  have n8 : ¬ F6 gb := fun hF => by have := D7.lt _ hF; omega
  have c8 : w8.cell? ⟨gb, 0, none⟩ = some (.int .u8 99) := hb3 0 _ rfl
  have c7' : w8.cell? ⟨ga, 0, none⟩ = some (.int .u8 97) := (b8.cell (p := ⟨ga, 0, none⟩) ha2).trans c7
  have hga8 : ga < w8.heap.size := Nat.lt_of_lt_of_le ha2 b8.size
  have B8 := B7.trans (b8.mono B7.size)
  clear D7 hb3 c7 b8 B7
  go_wp2_with fail
  refine (arm_any D8 1 (by omega)).mono ?_
  rintro en w9 ⟨⟨v9, rfl⟩, f9, D9⟩
  have D9 : IsDev F6 w9 B d6 := D9
  have c9a : w9.cell? ⟨ga, 0, none⟩ = some (.int .u8 97) := (World.cell?_of_block (f9.block ga hga8 n7)).trans c7'
  have c9b : w9.cell? ⟨gb, 0, none⟩ = some (.int .u8 99) := (World.cell?_of_block (f9.block gb hb2 n8)).trans c8
  have B9 := B8.trans (f9.below g6 B8.size)
  have hga9 := Nat.lt_of_lt_of_le hga8 f9.size
  have hgb9 := Nat.lt_of_lt_of_le hb2 f9.size
  clear D8 c7' c8 B8 f9
  go_wp2_with fail
  refine (write_any D9 0 [] none 0 (by decide) (fun _ => rfl) (fun w' _ => RB.nil _ _) (by decide +kernel) (by decide +kernel)).mono ?_
  intro en w10 h10
  obtain ⟨rfl, f10, b10, F10, D10, g10, s10⟩ := h10.out g6 B9.size
  rw [r8]
  have D10 : IsDev F10 w10 B d7 := D10
  have c10a : w10.cell? ⟨ga, 0, none⟩ = some (.int .u8 97) := (World.cell?_of_block (f10.block ga hga9 n7)).trans c9a
  have c10b : w10.cell? ⟨gb, 0, none⟩ = some (.int .u8 99) := (World.cell?_of_block (f10.block gb hgb9 n8)).trans c9b
  have B10 := B9.trans b10
  have hga10 := Nat.lt_of_lt_of_le hga9 f10.size
  have hgb10 := Nat.lt_of_lt_of_le hgb9 f10.size
  clear h10 D9 c9a c9b B9 f10
  go_wp2_with fail
  refine (read_any D10 0 (by decide +kernel)).mono ?_
  rintro en w11 ⟨b11, v11, rfl, _⟩
  rw [r9]
  have D11 := D10.below b11
  have c11a : w11.cell? ⟨ga, 0, none⟩ = some (.int .u8 97) := (b11.cell (p := ⟨ga, 0, none⟩) hga10).trans c10a
  have c11b : w11.cell? ⟨gb, 0, none⟩ = some (.int .u8 99) := (b11.cell (p := ⟨gb, 0, none⟩) hgb10).trans c10b
  have B11 := B10.trans (b11.mono B10.size)
  clear D10 c10a c10b B10 b11
  go_wp2_with fail
  refine (down_any D11).mono ?_
  rintro en w12 ⟨rfl, rfl⟩
  rw [r10]
  go_wp2_with fail
  refine (sectors_any D11).mono ?_
  rintro en w12 ⟨rfl, rfl⟩
  rw [r11]
  go_wp2
  go_ret
  exact ⟨rfl, B11⟩
end Go.Proofs.Ytopemjbakpahfaa
/-
  An area of a device in memory; the contracts of what only asks it. No condition but that the device has no more sectors than it may have.
-/
namespace Go.Proofs.Ytopemjbakpahfaa
open Go.RowKit Disk
def acells (B first N : Nat) : Array Value := #[.pointer (some ⟨B, 0, none⟩), .int .i64 (first : Int), .int .i64 (N : Int)]
structure IsArea (w : World) (A B first N : Nat) : Prop where
  blk : w.heap[A]? = some (.cells (acells B first N) 122 (0, 0))
  n : N ≤ 1024
  first : first ≤ 9223372036854775807
theorem IsArea.lt {w : World} {A B first N : Nat} (h : IsArea w A B first N) : A < w.heap.size := (Array.getElem?_eq_some_iff.1 h.blk).1
theorem IsArea.same {w w' : World} {A B first N : Nat} (h : IsArea w A B first N) (e : w'.heap[A]? = w.heap[A]?) : IsArea w' A B first N := ⟨e.trans h.blk, h.n, h.first⟩
theorem IsArea.below {w w' : World} {A B first N : Nat} (h : IsArea w A B first N) (hb : Below w.heap.size w w') : IsArea w' A B first N := h.same (hb.block A h.lt)
theorem IsArea.frm {F : Nat → Prop} {w w' : World} {A B first N : Nat} (h : IsArea w A B first N) (hf : Frm F w w') (hA : ¬ F A) : IsArea w' A B first N := h.same (hf.block A h.lt hA)
/-- How many sectors an area has. -/
def asize (first sectors : Int) (k : Nat) : Nat := if first < 0 then 0 else (min sectors ((k : Int) - first)).toNat
def OfOf (w : World) (B first N : Nat) (en : Ending) (w' : World) : Prop := ∃ A, en = .returned (.pointer (some ⟨A, 0, none⟩)) ∧ Below w.heap.size w w' ∧ w.heap.size ≤ A ∧ IsArea w' A B first N
theorem of_fin (w : World) (B first N : Nat) (v : Value) (hv : v = .pointer (some ⟨w.heap.size, 0, none⟩)) (C : Array Value) (f x : Int) (hC : C = #[.pointer (some ⟨B, 0, none⟩), .int .i64 f, .int .i64 x]) (hff : f = (first : Int)) (hx : x = (N : Int)) (hN : N ≤ 1024) (hf : first ≤ 9223372036854775807) :
    OfOf w B first N (.returned v) (w.alloc (.cells C 122)) := by
  subst hv hC hff hx
  exact ⟨w.heap.size, rfl, below_alloc w _, Nat.le_refl _, ⟨heap_alloc_new w _, hN, hf⟩⟩
set_option maxHeartbeats 1000000 in
theorem of_any {F : Nat → Prop} {w : World} {B : Nat} {d : Dev} (h : IsDev F w B d) (hk : d.kept.length ≤ 1024) (first sectors : Int) (hf : first ≤ 9223372036854775807) :
    Calls Try.prog 52 #[.pointer (some ⟨B, 0, none⟩), .int .i64 first, .int .i64 sectors] w (OfOf w B first.toNat (asize first sectors d.kept.length)) := by
  have FN := Lib.hid (of_fin w B)
  obtain ⟨N, hN⟩ : ∃ N, asize first sectors d.kept.length = N := ⟨_, rfl⟩
  have H2 : Hid (N = if first < 0 then 0 else (min sectors ((d.kept.length : Int) - first)).toNat) := by show _ = _; rw [← hN]; rfl
  have HF : Hid (first.toNat = first.toNat) := Lib.hid rfl
  rw [hN]
  generalize hfn : first.toNat = f at HF ⊢
  have H3 := Lib.hid hfn
  clear hN HF hfn
  have hki : (d.kept.length : Int) ≤ 1024 := by omega
  by_cases h0 : first < 0
  · go_enter Try.func52, Try.ntmps52
    go_wp2
    go_ret
    exact FN.out f N _ rfl _ 0 0 rfl (by have := H3.out; omega) (by have := H2.out; rw [if_pos h0] at this; omega) (by have := H2.out; rw [if_pos h0] at this; omega) (by have := H3.out; omega)
  · have hf0 : 0 ≤ first := by omega
    go_enter Try.func52, Try.ntmps52
    go_wp2_with (go_at_call 43; refine (sectors_any h).mono ?_; rintro en w1 ⟨rfl, rfl⟩)
    all_goals
      go_ret
      exact FN.out f N _ rfl _ _ _ rfl (by have := H3.out; omega) (by have := H2.out; rw [if_neg (by omega)] at this; omega) (by have := H2.out; rw [if_neg (by omega)] at this; omega) (by have := H3.out; omega)
theorem size_any {w : World} {A B first N : Nat} (h : IsArea w A B first N) : Calls Try.prog 56 #[.pointer (some ⟨A, 0, none⟩)] w fun en w' => en = .returned (.int .i64 (32 * (N : Int))) ∧ w = w' := by
  have c2 : w.cell? ⟨A, 2, none⟩ = some (.int .i64 (N : Int)) := Joins.cell_of_block h.blk 2
  have hn := h.n
  have hi : (N : Int) ≤ 1024 := by omega
  go_enter Try.func56, Try.ntmps56
  go_wp2
  go_ret
  exact ⟨rfl, rfl⟩
/-- Is there room for so many bytes at a place? -/
def roomB (N : Nat) (p m : Int) : Bool := decide (0 ≤ p) && (decide (p ≤ 32 * (N : Int)) && decide (m ≤ 32 * (N : Int) - p))
theorem room_any {w : World} {A B first N : Nat} (h : IsArea w A B first N) (p m : Int) : Calls Try.prog 92 #[.pointer (some ⟨A, 0, none⟩), .int .i64 p, .int .i64 m] w fun en w' => en = .returned (.bool (roomB N p m)) ∧ w = w' := by
  have hn := h.n
  have hi : (N : Int) ≤ 1024 := by omega
  have HR : Hid (roomB N p m = (decide (0 ≤ p) && (decide (p ≤ 32 * (N : Int)) && decide (m ≤ 32 * (N : Int) - p)))) := rfl
  generalize roomB N p m = r at HR
  by_cases h0 : 0 ≤ p
  · by_cases h1 : p ≤ 32 * (N : Int)
    · go_enter Try.func92, Try.ntmps92
      go_wp2_with (go_at_call 56; refine (size_any h).mono ?_; rintro en w1 ⟨rfl, rfl⟩)
      all_goals
        go_ret
        exact ⟨ret_bool (by rw [HR.out, decide_eq_true h0, decide_eq_true h1]; simp), rfl⟩
    · go_enter Try.func92, Try.ntmps92
      go_wp2_with (go_at_call 56; refine (size_any h).mono ?_; rintro en w1 ⟨rfl, rfl⟩)
      all_goals
        go_ret
        exact ⟨ret_bool (by rw [HR.out, decide_eq_true h0, decide_eq_false (p := p ≤ 32 * (N : Int)) (by omega)]; simp; try omega), rfl⟩
  · go_enter Try.func92, Try.ntmps92
    go_wp2_with (go_at_call 56; refine (size_any h).mono ?_; rintro en w1 ⟨rfl, rfl⟩)
    all_goals
      go_ret
      exact ⟨ret_bool (by rw [HR.out, decide_eq_false (p := 0 ≤ p) (by omega)]; simp; try omega), rfl⟩
theorem fits_any {w : World} {A B first N : Nat} (h : IsArea w A B first N) (p : Int) (l : List UInt8) (a : Option Addr) (cap : Nat) :
    Calls Try.prog 53 #[.pointer (some ⟨A, 0, none⟩), .int .i64 p, .slice a l.length cap] w fun en w' => en = .returned (.bool (roomB N p l.length)) ∧ w = w' := by
  go_enter Try.func53, Try.ntmps53
  go_wp2_with (go_at_call 92; refine (room_any h p l.length).mono ?_; rintro en w1 ⟨rfl, rfl⟩)
  go_ret
  exact ⟨rfl, rfl⟩
/-- The world behind the making of the parts' iterator. -/
def partsW (w : World) (A : Nat) (p m : Int) : World := ((w.alloc (.cells #[.pointer (some ⟨A, 0, none⟩)] 69)).alloc (.cells #[.int .i64 p] 3)).alloc (.cells #[.int .i64 m] 3)
theorem parts_any (w : World) (A : Nat) (p m : Int) : Calls Try.prog 93 #[.pointer (some ⟨A, 0, none⟩), .int .i64 p, .int .i64 m] w fun en w' =>
    en = .returned (.func (.func 104) #[] #[.pointer (some ⟨w.heap.size + 2, 0, none⟩), .pointer (some ⟨w.heap.size + 1, 0, none⟩), .pointer (some ⟨w.heap.size, 0, none⟩)]) ∧ partsW w A p m = w' := by
  go_enter Try.func93, Try.ntmps93
  go_wp2
  go_ret
  exact ⟨by simp [Nat.add_assoc], rfl⟩
end Go.Proofs.Ytopemjbakpahfaa
/-
  A range over a function whose iterator keeps its state in one captured cell (block Bn): the contract of the iterator, and the law for its caller.
-/
namespace Go.Proofs.Ytopemjbakpahfaa
open Go.RowKit
/-- What a round keeps: what lay below n₀, and the captured cell's block. -/
def Keep (n₀ Bn : Nat) (W W' : World) : Prop := Below n₀ W W' ∧ W'.heap[Bn]? = W.heap[Bn]?
theorem Keep.trans {n₀ Bn : Nat} {A B C : World} (h : Keep n₀ Bn A B) (k : Keep n₀ Bn B C) : Keep n₀ Bn A C := ⟨h.1.trans k.1, k.2.trans h.2⟩
/-- The iterator's contract: between two rounds it changes no old block but Bn; a round keeps what lay below n₀, and Bn. -/
def SeqCell {α : Type} (F : Fence) (n : Nat) (P : Program) (g : Nat) (lb : Array Value) (encs : α → Array Value) (n₀ Bn : Nat) (G : List α → α → Prop) (S : List α → Prop) (w : World) : Prop :=
  ∀ (l : Nat) (J : List α → World → Prop) (W : World), Keep n₀ Bn w W →
    (∀ s A B row, J s A → A.grownBy B row → (∀ r, row = some r → r = Bn) → J s B) →
    (∀ pre x W1, J pre W1 → G pre x → YieldAt F (n - 1) P l (encs x) W1 fun e W' => e = .returned (.bool true) ∧ J (pre ++ [x]) W' ∧ Keep n₀ Bn W1 W') →
    J [] W →
    CallsIn F n P g (#[.func (.yield l) #[] #[]] ++ lb) W fun e W' => (∃ v, e = .returned v) ∧ ∃ xs, S xs ∧ J xs W'
/-- How a round may end. -/
def roundCell {α : Type} (B n₀ Bn : Nat) (I : List α → World → Prop) (xs : List α) (W : World) : Exit → Act → World → Prop
  | .normal, _, W' => KeepsFrom B W W' ∧ Keep n₀ Bn W W' ∧ I xs W'
  | _, _, _ => False
theorem below_put {n₀ : Nat} {W : World} {l : Nat} {o : Obj} (o' : Obj) (hl : n₀ ≤ l) (h : W.heap[l]? = some o) : Below n₀ W (W.putObj l o') :=
  (Below.refl n₀ W).grown (grownBy_putObj' W l o') (by have := (Array.getElem?_eq_some_iff.1 h).1; omega) (fun k e => by cases e; omega)
theorem keep_put {n₀ Bn : Nat} {W : World} {l : Nat} {o : Obj} (o' : Obj) (hl : n₀ ≤ l) (hB : Bn ≠ l) (h : W.heap[l]? = some o) : Keep n₀ Bn W (W.putObj l o') :=
  ⟨below_put o' hl h, World.putObj_heap_other hB⟩
variable {F : Fence} {n : Nat} {P : Program}
theorem range_cell {α : Type} {g : Operand} {ps : Array Tmp} {assign body : Code} {Q : Exit → Act → World → Prop} {a : Act} {w : World}
    (hro : F.round = none) (h1 : 1 ≤ n) {gf : Nat} {lb : Array Value} (hg : a.eval g = .func (.func gf) #[] lb) (hFg : F.fn gf) (eg : ∀ args w, (callFunc gf args).run P w = .ok (.enter gf args) w)
    {encs : α → Array Value} {n₀ Bn : Nat} (hn : n₀ ≤ w.heap.size) (hB : Bn < w.heap.size) {G : List α → α → Prop} {S : List α → Prop} (hseq : SeqCell F (n - 1) P gf lb encs n₀ Bn G S w)
    (hps : ∀ x, (encs x).size = ps.size)
    (I : List α → World → Prop) (hI : ∀ s A B row, I s A → A.grownBy B row → (∀ r, row = some r → r = Bn ∨ (w.heap.size ≤ r ∧ ∃ o : Obj, A.heap[r]? = some o ∧ o.isCells = false)) → I s B) (h0 : I [] w) (a₁ : α → Act)
    (hassign : ∀ (l : Nat) (x : α) (W : World) (K : Act → World → Prop), K (a₁ x) W →
      assign.wpIn (F.inRound l) (n - 1 - 1) P (Exit.then K (fun _ _ _ => False)) { tmps := (ps.zip (encs x)).foldl (fun t (p, v) => t.setIfInBounds p v) a.tmps, defers := [] } W)
    (hbody : ∀ (l : Nat) (pre : List α) (x : α) (W : World), I pre W → G pre x → w.heap.size ≤ W.heap.size → body.wpIn (F.inRound l) (n - 1 - 1) P (roundCell w.heap.size n₀ Bn I (pre ++ [x]) W) (a₁ x) W)
    (hdone : ∀ (xs : List α) (W : World), S xs → I xs W → W.heap[w.heap.size]? = some (.deferred (some [])) → Q .normal { a with defers := { target := .collected w.heap.size, args := #[] } :: a.defers } W) :
    (Code.rangeFunc g ps assign body).wpIn F n P Q a w := by
  refine wpIn_rangeFunc fun fn hfn => ?_
  rw [hro]
  obtain ⟨rec, hrec⟩ : ∃ rec : LoopState → Loop, rec = fun st => { state := st, pending := none, fn, tmps := a.tmps, params := ps, assign, body, defers := w.heap.size } := ⟨_, rfl⟩
  obtain ⟨W1, hW1⟩ : ∃ W1, (w.alloc (.deferred (some []))).alloc (.loop (rec .ready)) = W1 := ⟨_, rfl⟩
  have hL1 : W1.heap[w.heap.size + 1]? = some (.loop (rec .ready)) := by
    rw [← hW1]; have := World.alloc_heap_new (w.alloc (.deferred (some []))) (.loop (rec .ready)); rwa [World.size_alloc] at this
  have hK1 : W1.heap[w.heap.size]? = some (.deferred (some [])) := by
    rw [← hW1]; exact (Below.heap_alloc _ _ _ (by simp)).trans (World.alloc_heap_new w _)
  have nil : ∀ {A : World}, (∀ r, (none : Option Nat) = some r → r = Bn ∨ (w.heap.size ≤ r ∧ ∃ o : Obj, A.heap[r]? = some o ∧ o.isCells = false)) := fun _ e => by cases e
  have hI1 : I [] W1 := by rw [← hW1]; exact hI _ _ _ none (hI _ _ _ none h0 (World.grownBy_alloc _ _ none) nil) (World.grownBy_alloc _ _ none) nil
  have hb1 : Keep n₀ Bn w W1 := by
    rw [← hW1]; exact ⟨((Below.refl _ w).alloc hn _).alloc (by simp; omega) _, (Below.heap_alloc _ _ _ (by simp; omega)).trans (Below.heap_alloc _ _ _ hB)⟩
  have put : ∀ {s : List α} {W : World} {l : Nat} {o : Obj} (o' : Obj), w.heap.size ≤ l → W.heap[l]? = some o → o.isCells = false → I s W → I s (W.putObj l o') := fun o' hl hW ho h =>
    hI _ _ _ (some _) h (grownBy_putObj' _ _ o') (fun r e => by cases e; exact .inr ⟨hl, _, hW, ho⟩)
  refine ⟨w.heap.size + 1, [{ target := .collected w.heap.size, args := #[] }], W1, { target := .fn (.func gf) lb, args := #[.func (.yield (w.heap.size + 1)) #[] #[]] }, W1, gf,
    #[.func (.yield (w.heap.size + 1)) #[] #[]] ++ lb, W1, ?_, ?_, ?_, ?_, fun _ => h1, ?_⟩
  · rw [← hW1, hrec]; exact run_enterLoop_outer _ _ _ _ _
  · simp only [resolve, hg]
    simp [go_sem]
  · intro f' hf'; simp [Target.leads] at hf'; subst hf'; exact hFg
  · simp [invoke, go_sem, eg]
  · refine (hseq (w.heap.size + 1)
      (fun pre W => I pre W ∧ W.heap[w.heap.size + 1]? = some (.loop (rec .ready)) ∧ W.heap[w.heap.size]? = some (.deferred (some [])))
      W1 hb1 ?_ ?_ ⟨hI1, hL1, hK1⟩).mono ?_
    · rintro s A B row ⟨hi, hl, hk⟩ hg' hr
      have ne : ∀ k, w.heap.size ≤ k → some k ≠ row := fun k hk e => by have := hr k e.symm; omega
      refine ⟨hI _ _ _ row hi hg' (fun r e => .inl (hr r e)), ?_, ?_⟩
      · exact (hg'.block _ (Array.getElem?_eq_some_iff.1 hl).1 (ne _ (by omega))).trans hl
      · exact (hg'.block _ (Array.getElem?_eq_some_iff.1 hk).1 (ne _ (Nat.le_refl _))).trans hk
    · rintro pre x W ⟨hi, hl, hk⟩ hx
      have hlt : w.heap.size + 1 < W.heap.size := (Array.getElem?_eq_some_iff.1 hl).1
      have hy := run_yield (P := P) (args := encs x) hl (by rw [hrec]; exact hps x)
      rw [hrec] at hy
      refine ⟨fn, _, assign, body, hy, roundIn_of_wpIn hfn (hassign _ x W _ ⟨_, run_beginRound hl (by rw [hrec]), ?_⟩)⟩
      have hl2 : (W.putObj (w.heap.size + 1) (.loop { rec .ready with state := .busy })).heap[w.heap.size + 1]? = some (.loop { rec .ready with state := .busy }) := World.putObj_heap_same hlt
      have hk2 : (W.putObj (w.heap.size + 1) (.loop { rec .ready with state := .busy })).heap[w.heap.size]? = some (.deferred (some [])) := (World.putObj_heap_other (by omega)).trans hk
      have hw2 : Keep n₀ Bn W (W.putObj (w.heap.size + 1) (.loop { rec .ready with state := .busy })) := keep_put _ (by omega) (by omega) hl
      refine wpIn_mono (hbody _ pre x _ (put _ (by omega) hl rfl hi) hx (by rw [World.putObj_size]; omega)) ?_
      rintro e a3 W3 hp
      cases e with
      | normal =>
        obtain ⟨hk3, hkp3, hi3⟩ := hp
        have hl3 := hk3.same _ _ (by omega) hl2 rfl
        have hr := run_endRound (P := P) none hl3
        have hd3 := hk3.same _ _ (Nat.le_refl _) hk2 rfl
        rw [hrec] at hr hl3 ⊢
        exact ⟨_, _, hr, rfl, ⟨put _ (by omega) hl3 rfl hi3, World.putObj_heap_same (Array.getElem?_eq_some_iff.1 hl3).1, (World.putObj_heap_other (by omega)).trans hd3⟩, (hw2.trans hkp3).trans (keep_put _ (by omega) (by omega) hl3)⟩
      | _ => exact hp.elim
    · rintro e W2 ⟨⟨v, rfl⟩, xs, hS, hi, hl, hk⟩
      exact ⟨none, _, by have := run_endLoop (P := P) hl (by rw [hrec]; simp); rw [hrec] at this; exact this, hdone xs _ hS (put _ (by omega) hl rfl hi) ((World.putObj_heap_other (by omega)).trans hk)⟩
end Go.Proofs.Ytopemjbakpahfaa

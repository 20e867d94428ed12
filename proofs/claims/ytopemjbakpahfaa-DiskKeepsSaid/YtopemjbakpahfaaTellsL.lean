/-
  CrcTells: the walk, for all bytes. No condition.
-/
import Derived.Test.YtopemjbakpahfaaRCut
namespace Go.Proofs.Ytopemjbakpahfaa
open Go.RowKit Crc
/-- The value reads as this text, in this world and in all that come of it. -/
def Texts (w : World) (v : Value) (l : List UInt8) : Prop := ∀ w'', Below w.heap.size w w'' → (convert 22 9 v).run Try.prog w'' = .ok (.string ⟨l.toArray⟩) w''
theorem texts_nil (w : World) : Texts w (.slice none 0 0) [] := fun w'' _ => conv_str w'' none 0 [] (fun _ => rfl) (RB.nil _ _)
theorem texts_own {w : World} {base n : Nat} {v : Value} {l : List UInt8} (h : w.ownsRow base 5 1 v n (l.map byteV)) : Texts w v l := fun _ hb => conv_bs (owns_below h hb)
theorem texts_rb {w : World} {a : Option Addr} {cap : Nat} {l : List UInt8} (hn : a = none → l.length = 0) (h : RB w a l) : Texts w (.slice a l.length cap) l := fun _ hb => conv_str _ a cap l hn (h.below hb)
theorem Texts.on {w w1 : World} {v : Value} {l : List UInt8} (h : Texts w v l) (hb : Below w.heap.size w w1) : Texts w1 v l := fun w'' h2 => h w'' (hb.trans (h2.mono hb.size))
theorem Texts.now {w : World} {v : Value} {l : List UInt8} (h : Texts w v l) : (convert 22 9 v).run Try.prog w = .ok (.string ⟨l.toArray⟩) w := h w (Below.refl _ _)
def FrameR (l : List UInt8) (w : World) (en : Ending) (w' : World) : Prop :=
  ∃ v k, en = .returned (.tuple #[v, .int .i64 k]) ∧ Below w.heap.size w w' ∧ (k = if 4096 < l.length then 1 else 0) ∧ Texts w' v (if 4096 < l.length then [] else frame l)
theorem frame_R (l : List UInt8) (a : Option Addr) (cap : Nat) (w : World) (hc : l.length ≤ cap) (hm : (l.length : Int) ≤ 9223372036854775807) (hn : a = none → cap = 0) (hr : RB w a l) : Calls Try.prog 24 #[.slice a l.length cap] w (FrameR l w) := by
  by_cases hl : 4096 < l.length
  · refine (frame_long l a cap w hl hm).mono ?_
    rintro en w' ⟨rfl, rfl⟩
    exact ⟨_, _, rfl, Below.refl _ _, by rw [if_pos hl], by rw [if_pos hl]; exact texts_nil _⟩
  · refine (frame_any l a cap w (by omega) hc hn hr).mono ?_
    rintro en w' ⟨v, rfl, ho, hb⟩
    exact ⟨_, _, rfl, hb, by rw [if_neg hl], by rw [if_neg hl]; exact texts_own ho⟩
theorem rframe_R (l : List UInt8) (a : Option Addr) (cap : Nat) (w : World) (hc : l.length ≤ cap) (hm : (l.length : Int) ≤ 9223372036854775807) (hn : a = none → cap = 0) (hr : RB w a l) : Calls Try.prog 25 #[.slice a l.length cap] w (FrameR l w) := by
  by_cases hl : 4096 < l.length
  · refine (rframe_long l a cap w hl hm).mono ?_
    rintro en w' ⟨rfl, rfl⟩
    exact ⟨_, _, rfl, Below.refl _ _, by rw [if_pos hl], by rw [if_pos hl]; exact texts_nil _⟩
  · refine (rframe_any l a cap w (by omega) hc hn hr).mono ?_
    rintro en w' ⟨v, rfl, ho, hb⟩
    exact ⟨_, _, rfl, hb, by rw [if_neg hl], by rw [if_neg hl]; exact texts_own ho⟩
def CutR (b : List UInt8) (w : World) (en : Ending) (w' : World) : Prop :=
  ∃ v1 v2 k, en = .returned (.tuple #[v1, v2, .int .i64 k]) ∧ Below w.heap.size w w' ∧ (k = if (cut b).isNone then 4 else 0) ∧ Texts w' v1 (((cut b).map Prod.fst).getD []) ∧ Texts w' v2 (((cut b).map Prod.snd).getD [])
theorem cut_R {b : List UInt8} {w : World} {en : Ending} {w' : World} (h : CutNew b w en w') : CutR b w en w' := by
  obtain ⟨hb, ⟨e, rfl⟩ | ⟨h, r, v1, v2, e, rfl, o1, o2⟩⟩ := h
  · exact ⟨_, _, _, rfl, hb, by rw [e]; rfl, by rw [e]; exact texts_nil _, by rw [e]; exact texts_nil _⟩
  · exact ⟨_, _, _, rfl, hb, by rw [e]; rfl, by rw [e]; exact texts_own o1, by rw [e]; exact texts_own o2⟩
set_option maxRecDepth 100000 in
set_option maxHeartbeats 2000000 in
theorem tells_law (b : List UInt8) (a : Option Addr) (cap : Nat) (c : W32) (x : UInt8) (W : World) (hc : b.length ≤ cap) (hm : cap ≤ maxLen) (hn : a = none → cap = 0) (hr : RB W a b) :
    Calls Try.prog 3 #[.slice a b.length cap, .int .u32 (c.toNat : Int), .int .u8 (x.toNat : Int)] W (Yes W) := by
  have HR := Lib.hid hr
  clear hr
  have HM := Lib.hid hm
  unfold maxLen at hm
  have hb : (b.length : Int) ≤ 9223372036854775807 := by omega
  go_enter Try.func3, Try.ntmps3
  go_wp2_with fail
  refine (small_any _).mono ?_
  rintro en w1 ⟨rfl, B1⟩
  have R1 := Lib.hid (HR.out.below B1)
  clear HR
  by_cases hl : 5000 < (b.length : Int)
  · go_wp2
    go_ret
    exact ⟨rfl, B1⟩
  go_wp2_with fail
  refine (frame_R b a cap _ hc hb hn R1.out).mono ?_
  rintro en w2 ⟨v2, k2, rfl, b2, e2, t2⟩
  have B2 := below_on B1 b2
  have R2 := Lib.hid (R1.out.below b2)
  have E2 := Lib.hid e2
  clear e2
  go_wp2_with fail
  refine (rframe_R b a cap _ hc hb hn R2.out).mono ?_
  rintro en w3 ⟨v3, k3, rfl, b3, e3, t3⟩
  obtain rfl : k2 = k3 := by rw [E2.out, e3]
  have B3 := below_on B2 b3
  have R3 := Lib.hid (R2.out.below b3)
  replace t2 := t2.on b3
  clear e3 b2 b3 R1 R2 B1 B2
  go_wp2_with fail
  refine (Cut_any b a cap _ hc (by omega) R3.out).mono ?_
  intro en w4 h4
  obtain ⟨v4, u4, k4, rfl, b4, e4, t4, s4⟩ := cut_R h4
  have B4 := below_on B3 b4
  have R4 := Lib.hid (R3.out.below b4)
  replace t2 := t2.on b4
  replace t3 := t3.on b4
  have E4 := Lib.hid e4
  clear h4 b4 R3 B3 e4
  go_wp2_with fail
  refine (rcut_any b a cap _ hc HM.out (by omega) R4.out).mono ?_
  intro en w5 h5
  obtain ⟨v5, u5, k5, rfl, b5, e5, t5, s5⟩ := cut_R h5
  obtain rfl : k4 = k5 := by rw [E4.out, e5]
  have B5 := below_on B4 b5
  have R5 := Lib.hid (R4.out.below b5)
  have q2 := (t2.on b5).now
  have q3 := (t3.on b5).now
  have q4 := (t4.on b5).now
  have r4 := (s4.on b5).now
  have q5 := t5.now
  have r5 := s5.now
  clear h5 b5 R4 B4 t2 t3 t4 t5 s4 s5 e5
  generalize (if 4096 < b.length then [] else frame b) = f at q2 q3
  generalize ((cut b).map Prod.fst).getD [] = p at q4 q5
  generalize ((cut b).map Prod.snd).getD [] = q at r4 r5
  go_wp2_with fail
  refine (sum_any b a cap _ hb R5.out).mono ?_
  rintro en w6 ⟨rfl, rfl⟩
  go_wp2_with fail
  refine (rsum_any b a cap _ hb R5.out).mono ?_
  rintro en w6 ⟨rfl, rfl⟩
  go_wp2_with (first | (go_at_call 30; refine (next_any _ _ _).mono ?_; rintro e w' ⟨rfl, rfl⟩) | (go_at_call 31; refine (rnext_any _ _ _).mono ?_; rintro e w' ⟨rfl, rfl⟩))
  go_ret
  exact ⟨rfl, B5⟩
end Go.Proofs.Ytopemjbakpahfaa

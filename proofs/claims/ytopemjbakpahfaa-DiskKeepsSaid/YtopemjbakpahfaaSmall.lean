/-
  The small case of the statements on sums comes out right. No condition.
-/
import Derived.Test.YtopemjbakpahfaaApp
import Derived.Test.YtopemjbakpahfaaAll
namespace Go.Proofs.Ytopemjbakpahfaa
open Go.RowKit Crc
theorem Bs.of_owns {w : World} {base n : Nat} {v : Value} {l : List UInt8} (h : w.ownsRow base 5 1 v n (l.map byteV)) : ∃ a cap, v = .slice a l.length cap ∧ l.length ≤ cap ∧ (a = none → cap = 0 ∧ l = []) ∧ RB w a l := by
  obtain ⟨a, cap, e, h1, h2, h3⟩ := RB.of_owns h
  exact ⟨a, cap, e, h1, fun e => ⟨h2 e, List.eq_nil_of_length_eq_zero (by have := h2 e; omega)⟩, h3⟩
def abc : List UInt8 := [97, 98, 99]
def nine : List UInt8 := [49, 50, 51, 52, 53, 54, 55, 56, 57]
theorem sum_nine : (sum nine).toNat = 3421780262 := by decide +kernel
theorem sum_nil : (sum []).toNat = 0 := by decide +kernel
theorem cut_bad : cut [0, 0, 1, 2, 3, 4] = none := by decide +kernel
theorem cut_abc : cut (frame abc ++ [7]) = some (abc, [7]) := cut_frame [7] (by decide)
theorem all_abc : all (frame abc ++ frame abc) = ([abc, abc], 18) := by
  have h := all_join [abc, abc] (frame abc ++ frame abc) [] (by simp [join, abc])
  have h0 : all [] = ([], 0) := all_none (by decide +kernel)
  rw [List.append_nil, h0] at h
  rw [h]
  rfl
theorem str_lit (l : List UInt8) (w : World) (base n : Nat) (v : Value) (h : w.ownsRow base 5 1 v n (l.map byteV)) : (convert 22 9 v).run Try.prog w = .ok (.string ⟨l.toArray⟩) w := conv_bs h
theorem Cut_at (b : List UInt8) (a : Option Addr) (len cap : Nat) (w : World) (hl : b.length = len) (hc : b.length ≤ cap) (hb : b.length ≤ 1000000) (hr : RB w a b) : Calls Try.prog 26 #[.slice a len cap] w (CutNew b w) := by
  subst hl; exact Cut_any b a cap w hc hb hr
theorem All_at (b : List UInt8) (a : Option Addr) (len cap : Nat) (w : World) (hl : b.length = len) (hc : b.length ≤ cap) (hb : b.length ≤ 1000000) (hn : a = none → cap = 0) (hr : RB w a b) : Calls Try.prog 46 #[.slice a len cap] w (AllOf b w) := by
  subst hl; exact All_any b a cap w hc hb hn hr
theorem frame_at (l : List UInt8) (a : Option Addr) (len cap : Nat) (w : World) (hlen : l.length = len) (hl : l.length ≤ 4096) (hc : l.length ≤ cap) (hn : a = none → cap = 0) (hr : RB w a l) : Calls Try.prog 24 #[.slice a len cap] w (Framed l w) := by
  subst hlen; exact frame_any l a cap w hl hc hn hr
set_option maxRecDepth 100000 in
set_option maxHeartbeats 2000000 in
theorem small_any (w : World) : Calls Try.prog 23 #[] w fun en w' => en = .returned (.bool true) ∧ Below w.heap.size w w' := by
  have kc := conv_const
  go_enter Try.func23, Try.ntmps23
  go_wp2_with fail
  refine (frame_any abc _ _ _ (by decide) (by decide) (fun e => by cases e) (RB.lit w abc _ _ _ rfl rfl)).mono ?_
  rintro en w1 ⟨v1, rfl, o1, b1⟩
  have B1 : Below w.heap.size w w1 := below_on (below_alloc w _) b1
  obtain ⟨a1, c1, rfl, l1, n1, r1⟩ := Bs.of_owns o1
  have R1 := Lib.hid r1
  clear b1 r1
  have S1 := B1.size
  go_wp2_with (first
    | (at_builtin; refine app_bytes rfl (.tmp 18) (.tmp 19) rfl w1.heap.size _ [] (frame abc) _ rfl (owns_bytes w1 [] _ _ _ rfl (Nat.le_refl _) rfl (by decide)) _ rfl n1 (R1.out.alloc _) (by decide) (by simp) ?_; intro v2 w2 o2 b2 _; have B2 := (below_alloc w1 _).trans b2; clear b2)
    | (at_builtin; refine app_bytes rfl (.tmp 20) (.tmp 21) rfl w1.heap.size _ (frame abc) [7] _ rfl (o2.alloc _) _ rfl (fun e => by cases e) (RB.lit w2 [7] _ _ _ rfl rfl) (by decide) (Nat.le_trans B2.size (by simp)) ?_; intro v3 w3 o3 b3 _; have B3 := (B2.alloc B2.size _).trans b3; obtain ⟨a3, c3, rfl, l3, n3, r3⟩ := Bs.of_owns o3; clear o3 b3 o2 B2))
  refine (Cut_at (frame abc ++ [7]) _ _ _ _ (by simp) l3 (by decide) r3).mono ?_
  rintro en w4 ⟨b4, ⟨e, _⟩ | ⟨h, r, v4, v5, e, rfl, o4, o5⟩⟩
  · rw [cut_abc] at e; cases e
  rw [cut_abc] at e
  obtain ⟨rfl, rfl⟩ : abc = h ∧ [7] = r := by simpa using e
  have B4 := below_on B3 b4
  have R4 := Lib.hid (R1.out.below B4)
  have S4 := B4.size
  clear e l3 n3 r3 b4 B3 R1
  go_wp2_with (first
    | (at_builtin; refine app_bytes rfl (.tmp 28) (.tmp 29) rfl w4.heap.size _ [] (frame abc) _ rfl (owns_bytes w4 [] _ _ _ rfl (Nat.le_refl _) rfl (by decide)) _ rfl n1 (R4.out.alloc _) (by decide) (by simp) ?_; intro v6 w6 o6 b6 _; have B6 := (below_alloc w4 _).trans b6; clear b6)
    | (at_builtin; refine app_bytes rfl (.tmp 30) (.tmp 31) rfl w4.heap.size _ (frame abc) (frame abc) _ rfl o6 _ rfl n1 (R4.out.below B6) (by decide) B6.size ?_; intro v7 w7 o7 b7 _; have B7 := B6.trans b7; obtain ⟨a7, c7, rfl, l7, n7, r7⟩ := Bs.of_owns o7; clear o6 b7 B6))
  refine (All_at (frame abc ++ frame abc) _ _ _ _ (by simp) l7 (by decide) (fun e => (n7 e).1) r7).mono ?_
  rintro en w8 ⟨b8, v8, rfl, vs, o8, hvl, _⟩
  rw [all_abc] at hvl ⊢
  have hv2 : vs.length = 2 := hvl
  rw [hv2] at o8
  obtain ⟨g8, c8, rfl⟩ := ownsRow_succ (k := 1) o8
  have B8 := below_on B7 b8
  have O4 := owns_below o4 B8
  have O5 := owns_below o5 B8
  have S8 := B8.size
  clear l7 n7 r7 b8 B7 hvl hv2 o8 o4 o5 R4
  go_wp2_with fail
  refine (Cut_at [0, 0, 1, 2, 3, 4] _ _ _ _ rfl (by decide) (by decide) (RB.lit w8 _ _ _ _ rfl rfl)).mono ?_
  rintro en w9 ⟨b9, ⟨_, rfl⟩ | ⟨h, r, v4, v5, e, _⟩⟩
  rotate_left
  · rw [cut_bad] at e; cases e
  have B9 := below_on (below_alloc w8 _) b9
  have P4 := owns_below O4 B9
  have P5 := owns_below O5 B9
  have S9 := B9.size
  clear O4 O5 b9
  go_wp2_with fail
  refine (sum_at nine _ _ _ _ rfl (by decide) (RB.lit w9 nine _ _ _ rfl rfl)).mono ?_
  rintro en w10 ⟨rfl, rfl⟩
  rw [sum_nine]
  have kA : (convert 22 9 v4).run Try.prog (w9.alloc (.cells (List.map byteV nine).toArray 5 (9, 10))) = .ok (.string ⟨#[97, 98, 99]⟩) _ := conv_bs (P4.alloc _)
  have kB : (convert 22 9 v5).run Try.prog (w9.alloc (.cells (List.map byteV nine).toArray 5 (9, 10))) = .ok (.string ⟨#[7]⟩) _ := conv_bs (P5.alloc _)
  have hfl : ((frame abc).length : Int) = 9 := by decide
  go_wp2_with fail
  refine (sum_at [] none 0 0 _ rfl (by decide) (RB.nil _ _)).mono ?_
  rintro en w10 ⟨rfl, rfl⟩
  rw [sum_nil]
  go_wp2
  go_ret
  exact ⟨rfl, (below_on (below_on (below_on B1 B4) B8) B9).alloc (by omega) _⟩
end Go.Proofs.Ytopemjbakpahfaa

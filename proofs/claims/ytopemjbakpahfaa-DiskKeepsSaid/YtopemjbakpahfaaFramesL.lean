/-
  CrcFrames: the walk, for all bytes. No condition.
-/
import Derived.Test.YtopemjbakpahfaaNext
import Derived.Test.YtopemjbakpahfaaFramesP
namespace Go.Proofs.Ytopemjbakpahfaa
open Go.RowKit Crc
/-- One byte of a row is stored: how the row reads then. -/
theorem RB.store {w : World} {g : Nat} {l : List UInt8} (h : RB w (some ⟨g, 0, none⟩) l) (i : Nat) (z : UInt8) : RB (w.setCell ⟨g, i, none⟩ (.int .u8 (z.toNat : Int))) (some ⟨g, 0, none⟩) (l.set i z) := by
  intro j hj
  rw [List.length_set] at hj
  obtain ⟨g', off, e, hg, hc⟩ := h j hj
  simp at e
  obtain ⟨rfl, rfl⟩ := e
  refine ⟨g, 0, rfl, by simpa using hg, ?_⟩
  rw [Nat.zero_add] at hc ⊢
  by_cases hij : i = j
  · subst hij
    rw [World.cell?_setCell_same' _ _ _ (by rw [hc]; rfl)]
    simp [byteV, List.getD, hj]
  · rw [World.cell?_setCell_other _ _ _ _ (by simp)]
    rw [hc]
    simp [List.getD, hij]
theorem own_form {w : World} {base n : Nat} {t : TypeId} {v : Value} {xs : List Value} (h : w.ownsRow base t 1 v n xs) (h0 : 0 < n) : ∃ g cap, v = .slice (some ⟨g, 0, none⟩) n cap ∧ n ≤ cap ∧ cap ≤ maxLen ∧ base ≤ g ∧ g < w.heap.size ∧ ∀ o, w.frozen? ⟨g, o, none⟩ = false := by
  rcases h.2 with ⟨_, h1⟩ | ⟨g, cap, cur, rfl, hb, hg, h1, h2, _⟩
  · omega
  · exact ⟨g, cap, rfl, h1, h2, hb, lt_of_block hg, fun o => by simp [World.frozen?, hg]⟩
theorem frame_app_nil (l : List UInt8) : (frame l).take (frame l).length = frame l := List.take_length
set_option maxRecDepth 100000 in
set_option maxHeartbeats 2000000 in
theorem frames_law (b : List UInt8) (a : Option Addr) (cap : Nat) (n : Int) (y : UInt8) (W : World) (hc : b.length ≤ cap) (hm : cap ≤ maxLen) (hn : a = none → cap = 0) (hr : RB W a b) (hw : (Lit.int .i64 n).wf = true) :
    Calls Try.prog 6 #[.slice a b.length cap, .int .i64 n, .int .u8 (y.toNat : Int)] W (Yes W) := by
  have HR := Lib.hid hr
  clear hr
  unfold maxLen at hm
  have hb : (b.length : Int) ≤ 9223372036854775807 := by omega
  go_enter Try.func6, Try.ntmps6
  go_wp2_with fail
  refine (small_any _).mono ?_
  rintro en w1 ⟨rfl, B1⟩
  have R1 := Lib.hid (HR.out.below B1)
  clear HR
  by_cases hl : 1000 < (b.length : Int)
  · go_wp2
    go_ret
    exact ⟨rfl, B1⟩
  have hl4 : b.length ≤ 4096 := by omega
  go_wp2_with fail
  refine (frame_any b a cap _ hl4 hc hn R1.out).mono ?_
  rintro en w2 ⟨v2, rfl, o2, b2⟩
  have B2 := below_on B1 b2
  have hfl := frame_length b
  have hfi : ((frame b).length : Int) = (b.length : Int) + 6 := by omega
  obtain ⟨g2, c2, rfl, hc2, hm2, hg2, hgl, hfr⟩ := own_form o2 (by omega)
  obtain ⟨_, _, e, _, _, r2⟩ := RB.of_owns o2
  cases e
  unfold maxLen at hm2
  have R2 := Lib.hid r2
  have FL := Lib.hid hfl
  clear r2 hfl
  go_wp2_with fail
  refine (Cut_at ((frame b).take (b.length + 5)) _ _ _ _ (by rw [List.length_take, FL.out]; omega) (by rw [List.length_take, FL.out]; omega) (by rw [List.length_take, FL.out]; omega) (R2.out.take _)).mono ?_
  rintro en w3 ⟨b3, ⟨_, rfl⟩ | ⟨h, r, v4, v5, e, _⟩⟩
  rotate_left
  · rw [cut_less hl4] at e; cases e
  have B3 := below_on B2 b3
  have R3 := Lib.hid (R2.out.below b3)
  have hfr3 := below_free hfr b3 hgl
  have hgl3 := Nat.lt_of_lt_of_le hgl b3.size
  clear R2 hfr o2 b3 b2
  by_cases h2 : n < 2
  · go_wp2
    go_ret
    exact ⟨rfl, B3⟩
  by_cases hnL : (b.length : Int) + 6 ≤ n
  · go_wp2
    go_ret
    exact ⟨rfl, B3⟩
  by_cases hy : y = 0
  · subst hy
    have hy0 : ((0 : UInt8).toNat : Int) = 0 := rfl
    go_wp2
    go_ret
    exact ⟨rfl, B3⟩
  have hyn : ((y.toNat : Int) == 0) = false := by
    rw [beq_eq_false_iff_ne]
    intro e
    exact hy (UInt8.toNat_inj.1 (by simpa using e))
  obtain ⟨i, rfl⟩ : ∃ i : Nat, n = (i : Int) := ⟨n.toNat, by omega⟩
  have hi2 : 2 ≤ i := by omega
  have hiL : i < b.length + 6 := by omega
  obtain ⟨g', off', e, hg', hcell⟩ := R3.out i (by rw [FL.out]; omega)
  simp only [Option.some.injEq, Addr.mk.injEq, and_true] at e
  obtain ⟨rfl, rfl⟩ := e
  have CH := Lib.hid (cut_changed hl4 hi2 hiL hy)
  have LZ : Hid (((frame b).set i ((frame b).getD i 0 ^^^ y)).length = b.length + 6) := by show _ = _; rw [List.length_set]; exact FL.out
  have HX := Lib.hid (xor8 ((frame b).getD i 0) y)
  have RS := Lib.hid (R3.out.store i ((frame b).getD i 0 ^^^ y))
  unfold byteV at hcell
  generalize (frame b).getD i 0 = z at hcell CH LZ HX RS
  have hff := hfr3 i
  rw [Nat.zero_add] at hcell
  go_wp2_with fail
  rw [HX.out]
  refine (Cut_at _ _ _ _ _ (by rw [LZ.out]; omega) (by rw [LZ.out]; omega) (by rw [LZ.out]; omega) RS.out).mono ?_
  rintro en w4 ⟨b4, ⟨_, rfl⟩ | ⟨h, r, v4, v5, e, _⟩⟩
  rotate_left
  · rw [CH.out] at e; cases e
  have B4 := below_on (B3.setCell (p := ⟨g2, i, none⟩) (by have := B1.size; simp; omega) (.int .u8 ((z ^^^ y).toNat : Int))) b4
  go_wp2
  go_ret
  exact ⟨rfl, B4⟩
end Go.Proofs.Ytopemjbakpahfaa

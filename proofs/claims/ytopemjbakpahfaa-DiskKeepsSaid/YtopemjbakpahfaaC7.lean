/-
  The contract of cut: for all bytes.
-/
import Derived.Test.YtopemjbakpahfaaC6
namespace Go.Proofs.Ytopemjbakpahfaa
open Go.RowKit Crc
/-- What cut hands back: two slices of the bytes that it was given, and whether there is a frame. -/
def CutOf (b : List UInt8) (a : Option Addr) (w : World) (en : Ending) (w' : World) : Prop :=
  Below w.heap.size w w' ∧ ((cut b = none ∧ ∃ v1 v2, en = .returned (.tuple #[v1, v2, .bool false])) ∨
    ∃ h r v1 v2, cut b = some (h, r) ∧ en = .returned (.tuple #[v1, v2, .bool true]) ∧ ∀ w0, RB w0 a b → Bs w0 v1 h ∧ Bs w0 v2 r)
theorem tuple3_eq {a b : Value} {x y : Bool} (h : x = y) : Ending.returned (.tuple #[a, b, .bool x]) = .returned (.tuple #[a, b, .bool y]) := by rw [h]
theorem wu (n : Nat) (h : n < 2 ^ 32) : IntKind.u64.wrap (n : Int) = (n : Int) := IntWalk.u64_in _ (by omega)
theorem RB.drop_take {w : World} {g off : Nat} {l : List UInt8} (h : RB w (some ⟨g, off, none⟩) l) (k n : Nat) : RB w (some ⟨g, off + k, none⟩) ((l.drop k).take n) := (h.drop k).take n
theorem RB.off {w : World} {g off off' : Nat} {l : List UInt8} (h : RB w (some ⟨g, off, none⟩) l) (e : off = off') : RB w (some ⟨g, off', none⟩) l := by subst e; exact h

set_option maxHeartbeats 1000000 in
theorem cut_main1 (b : List UInt8) (g off : Nat) (w : World) (h : 6 ≤ b.length) (hc : b.length ≤ 6) (hr : RB w (some ⟨g, off, none⟩) b) (hb6 : b.length = 6) (hn : num (b.take 2) = 0) (hn2 : 0 ≤ b.length - 6) :
    Calls Try.prog 84 #[.slice (some ⟨g, off, none⟩) b.length 6] w (CutOf b (some ⟨g, off, none⟩) w) := by
  have h' : ¬ (b.length : Int) < 6 := by omega
  have hb' : (b.length : Int) ≤ 1000000 := by omega
  have hbc : (b.length : Int) ≤ ((6 : Nat) : Int) := by omega
  have hc2 : (2 : Int) ≤ ((6 : Nat) : Int) := by omega
  have hc6 : (6 : Int) ≤ ((6 : Nat) : Int) := by omega
  have HR := Lib.hid hr
  have HN := Lib.hid hn
  clear hr hn
  have HT : Hid ((b.take 2).length = 2) := by show _ = _; simp; omega
  have HT4 : Hid (((b.drop 2).take 4).length = 4) := by show _ = _; simp; omega
  have HTn : Hid (([] : List UInt8).length = 0) := rfl
  have hn1' : ((0 : Nat) : Int) ≤ 4096 := by omega
  have hn2' : ¬ (b.length : Int) - 6 < ((0 : Nat) : Int) := by omega
  have hn3 : 6 + ((0 : Nat) : Int) ≤ (b.length : Int) := by omega
  have hn4 : 6 + ((0 : Nat) : Int) ≤ ((6 : Nat) : Int) := by omega
  have hn0 : (0 : Int) ≤ ((0 : Nat) : Int) := by omega
  have hsum := (sum ([] : List UInt8)).isLt
  have hnum := num_lt ((b.drop 2).take 4)
  rw [HT4.out] at hnum
  have hnum2 : (256 : Nat) ^ 4 = 4294967296 := by decide
  have HNI := Lib.hid hnum
  clear hnum hnum2
  have HB6 := Lib.hid hb6
  go_enter Try.func84, Try.ntmps84
  go_wp2_with fail
  refine (number_at (b.take 2) _ _ _ _ HT.out (by rw [HT.out]; omega) (HR.out.take 2)).mono ?_
  rintro en w1 ⟨rfl, rfl⟩
  rw [HN.out]
  go_wp2
  go_quiet (fail)
  go_wp2
  have RW := HR.out.drewN nq
  have BW := below_drewN (Below.refl w.heap.size w) nq
  generalize w.drewN nq = W at RW BW ⊢
  have HW := Lib.hid RW
  clear RW
  refine wp_region_keep (by kernel_rfl) (by kernel_rfl) ?_
  repeat (first
    | go_big_quiet_skip
    | (go_big_quiet_want
       apply quiet_mk
       · intro w' hw'
         go_simp
         first
           | rfl
           | (go_at_call 28; refine (sum_at ([] : List UInt8) _ _ _ _ HTn.out (by rw [HTn.out]; omega) (RB.nil _ _)).mono ?_; rintro e w'' ⟨rfl, rfl⟩; exact ⟨rfl, hw'⟩)
           | (go_at_call 101; refine (number_at ((b.drop 2).take 4) _ _ _ _ HT4.out (by rw [HT4.out]; omega) ((HW.out.below hw').drop_take 2 4)).mono ?_; rintro e w'' ⟨rfl, rfl⟩; exact ⟨rfl, hw'⟩)
       go_big_quiet_on
       simp only [Act.put, List.setIfInBounds_toArray, List.set_cons_succ, List.set_cons_zero]))
  refine wpQuiet_nil ?_
  intro w' hw'
  have hdec : (((((sum ([] : List UInt8)).toNat : Nat) : Int) == ((num ((b.drop 2).take 4) : Nat) : Int)) = true ∧ cut b = some (([] : List UInt8), [])) ∨ (((((sum ([] : List UInt8)).toNat : Nat) : Int) == ((num ((b.drop 2).take 4) : Nat) : Int)) = false ∧ cut b = none) := by
    have hn : num (b.take 2) = 0 := HN.out
    by_cases he : (sum ([] : List UInt8)).toNat = num ((b.drop 2).take 4)
    · refine .inl ⟨by simp [he], ?_⟩
      unfold cut
      rw [hn, if_neg (by omega), if_neg (by omega), List.take_zero, if_pos he]; simp; omega
    · refine .inr ⟨by rw [beq_eq_false_iff_ne]; omega, ?_⟩
      unfold cut
      rw [hn, if_neg (by omega), if_neg (by omega), List.take_zero, if_neg he]
  have HD := Lib.hid hdec
  clear hdec
  go_wp2
  go_ret3
  refine ⟨BW.trans (hw'.mono BW.size), ?_⟩
  rcases HD.out with ⟨e1, e2⟩ | ⟨e1, e2⟩
  · refine .inr ⟨_, _, _, _, e2, tuple3_eq (by rw [wu _ hsum]; exact e1), fun w0 RR => ⟨?_, ?_⟩⟩
    · exact ⟨_, _, rfl, by simp, fun h => (by cases h), RB.nil _ _⟩
    · exact ⟨_, _, rfl, by simp, fun h => (by cases h), RB.nil _ _⟩
  · exact .inl ⟨e2, _, _, tuple3_eq (by rw [wu _ hsum]; exact e1)⟩

set_option maxHeartbeats 1000000 in
theorem cut_main2 (b : List UInt8) (g off : Nat) (cap n : Nat) (w : World) (h : 6 ≤ b.length) (hc : b.length ≤ cap) (hb : b.length ≤ 1000000) (hr : RB w (some ⟨g, off, none⟩) b) (hn : num (b.take 2) = n) (hnp : 0 < n) (hcap : cap ≤ 6 + n) (hn1 : n ≤ 4096) (hn2 : n ≤ b.length - 6) :
    Calls Try.prog 84 #[.slice (some ⟨g, off, none⟩) b.length cap] w (CutOf b (some ⟨g, off, none⟩) w) := by
  have h' : ¬ (b.length : Int) < 6 := by omega
  have hb' : (b.length : Int) ≤ 1000000 := by omega
  have hbc : (b.length : Int) ≤ ((cap : Nat) : Int) := by omega
  have hc2 : (2 : Int) ≤ ((cap : Nat) : Int) := by omega
  have hc6 : (6 : Int) ≤ ((cap : Nat) : Int) := by omega
  have HR := Lib.hid hr
  have HN := Lib.hid hn
  clear hr hn
  have HT : Hid ((b.take 2).length = 2) := by show _ = _; simp; omega
  have HT4 : Hid (((b.drop 2).take 4).length = 4) := by show _ = _; simp; omega
  have HTn : Hid (((b.drop 6).take n).length = n) := by show _ = _; simp; omega
  have hn1' : ((n : Nat) : Int) ≤ 4096 := by omega
  have hn2' : ¬ (b.length : Int) - 6 < ((n : Nat) : Int) := by omega
  have hn3 : 6 + ((n : Nat) : Int) ≤ (b.length : Int) := by omega
  have hn4 : 6 + ((n : Nat) : Int) ≤ ((cap : Nat) : Int) := by omega
  have hn0 : (0 : Int) ≤ ((n : Nat) : Int) := by omega
  have hsum := (sum ((b.drop 6).take n)).isLt
  have hnum := num_lt ((b.drop 2).take 4)
  rw [HT4.out] at hnum
  have hnum2 : (256 : Nat) ^ 4 = 4294967296 := by decide
  have HNI := Lib.hid hnum
  clear hnum hnum2
  have hcap2 : ¬ cap = 2 := by omega
  have hn5 : ((cap : Nat) : Int) ≤ 6 + (n : Int) := by omega
  have hbl : b.length = 6 + n := by omega
  have HBL := Lib.hid hbl
  clear hbl
  go_enter Try.func84, Try.ntmps84
  go_wp2_with fail
  refine (number_at (b.take 2) _ _ _ _ HT.out (by rw [HT.out]; omega) (HR.out.take 2)).mono ?_
  rintro en w1 ⟨rfl, rfl⟩
  rw [HN.out]
  go_wp2
  go_quiet (fail)
  go_wp2
  have RW := HR.out.drewN nq
  have BW := below_drewN (Below.refl w.heap.size w) nq
  generalize w.drewN nq = W at RW BW ⊢
  have HW := Lib.hid RW
  clear RW
  refine wp_region_keep (by kernel_rfl) (by kernel_rfl) ?_
  repeat (first
    | go_big_quiet_skip
    | (go_big_quiet_want
       apply quiet_mk
       · intro w' hw'
         go_simp
         first
           | rfl
           | (go_at_call 28; refine (sum_at ((b.drop 6).take n) _ _ _ _ HTn.out (by rw [HTn.out]; omega) ((HW.out.below hw').drop_take 6 n)).mono ?_; rintro e w'' ⟨rfl, rfl⟩; exact ⟨rfl, hw'⟩)
           | (go_at_call 101; refine (number_at ((b.drop 2).take 4) _ _ _ _ HT4.out (by rw [HT4.out]; omega) ((HW.out.below hw').drop_take 2 4)).mono ?_; rintro e w'' ⟨rfl, rfl⟩; exact ⟨rfl, hw'⟩)
       go_big_quiet_on
       simp only [Act.put, List.setIfInBounds_toArray, List.set_cons_succ, List.set_cons_zero]))
  refine wpQuiet_nil ?_
  intro w' hw'
  have hdec : (((((sum ((b.drop 6).take n)).toNat : Nat) : Int) == ((num ((b.drop 2).take 4) : Nat) : Int)) = true ∧ cut b = some ((b.drop 6).take n, (b.drop 6).drop n)) ∨ (((((sum ((b.drop 6).take n)).toNat : Nat) : Int) == ((num ((b.drop 2).take 4) : Nat) : Int)) = false ∧ cut b = none) := by
    have hn : num (b.take 2) = n := HN.out
    by_cases he : (sum ((b.drop 6).take n)).toNat = num ((b.drop 2).take 4)
    · refine .inl ⟨by simp [he], ?_⟩
      unfold cut
      rw [hn, if_neg (by omega), if_neg (by omega), if_pos he]
    · refine .inr ⟨by rw [beq_eq_false_iff_ne]; omega, ?_⟩
      unfold cut
      rw [hn, if_neg (by omega), if_neg (by omega), if_neg he]
  have HD := Lib.hid hdec
  clear hdec
  go_wp2
  go_ret3
  refine ⟨BW.trans (hw'.mono BW.size), ?_⟩
  rcases HD.out with ⟨e1, e2⟩ | ⟨e1, e2⟩
  · refine .inr ⟨_, _, _, _, e2, tuple3_eq (by rw [wu _ hsum]; exact e1), fun w0 RR => ⟨?_, ?_⟩⟩
    · exact ⟨_, _, by rw [HTn.out]; rfl, by rw [HTn.out]; omega, fun h => (by cases h), RR.drop_take 6 n⟩
    · exact ⟨_, _, by rw [show ((b.drop 6).drop n).length = b.length - (6 + n) by simp <;> omega]; rfl, by simp; have := HBL.out; omega, fun h => (by cases h), by rw [show (b.drop 6).drop n = [] by simp; have := HBL.out; omega]; exact RB.nil _ _⟩
  · exact .inl ⟨e2, _, _, tuple3_eq (by rw [wu _ hsum]; exact e1)⟩

set_option maxHeartbeats 1000000 in
theorem cut_main3 (b : List UInt8) (g off : Nat) (cap n : Nat) (w : World) (h : 6 ≤ b.length) (hc : b.length ≤ cap) (hb : b.length ≤ 1000000) (hr : RB w (some ⟨g, off, none⟩) b) (hn : num (b.take 2) = n) (hcap : 6 + n < cap) (hn1 : n ≤ 4096) (hn2 : n ≤ b.length - 6) :
    Calls Try.prog 84 #[.slice (some ⟨g, off, none⟩) b.length cap] w (CutOf b (some ⟨g, off, none⟩) w) := by
  have h' : ¬ (b.length : Int) < 6 := by omega
  have hb' : (b.length : Int) ≤ 1000000 := by omega
  have hbc : (b.length : Int) ≤ ((cap : Nat) : Int) := by omega
  have hc2 : (2 : Int) ≤ ((cap : Nat) : Int) := by omega
  have hc6 : (6 : Int) ≤ ((cap : Nat) : Int) := by omega
  have HR := Lib.hid hr
  have HN := Lib.hid hn
  clear hr hn
  have HT : Hid ((b.take 2).length = 2) := by show _ = _; simp; omega
  have HT4 : Hid (((b.drop 2).take 4).length = 4) := by show _ = _; simp; omega
  have HTn : Hid (((b.drop 6).take n).length = n) := by show _ = _; simp; omega
  have hn1' : ((n : Nat) : Int) ≤ 4096 := by omega
  have hn2' : ¬ (b.length : Int) - 6 < ((n : Nat) : Int) := by omega
  have hn3 : 6 + ((n : Nat) : Int) ≤ (b.length : Int) := by omega
  have hn4 : 6 + ((n : Nat) : Int) ≤ ((cap : Nat) : Int) := by omega
  have hn0 : (0 : Int) ≤ ((n : Nat) : Int) := by omega
  have hsum := (sum ((b.drop 6).take n)).isLt
  have hnum := num_lt ((b.drop 2).take 4)
  rw [HT4.out] at hnum
  have hnum2 : (256 : Nat) ^ 4 = 4294967296 := by decide
  have HNI := Lib.hid hnum
  clear hnum hnum2
  have hcap2 : ¬ cap = 2 := by omega
  go_enter Try.func84, Try.ntmps84
  go_wp2_with fail
  refine (number_at (b.take 2) _ _ _ _ HT.out (by rw [HT.out]; omega) (HR.out.take 2)).mono ?_
  rintro en w1 ⟨rfl, rfl⟩
  rw [HN.out]
  go_wp2
  go_quiet (fail)
  go_wp2
  have RW := HR.out.drewN nq
  have BW := below_drewN (Below.refl w.heap.size w) nq
  generalize w.drewN nq = W at RW BW ⊢
  have HW := Lib.hid RW
  clear RW
  refine wp_region_keep (by kernel_rfl) (by kernel_rfl) ?_
  repeat (first
    | go_big_quiet_skip
    | (go_big_quiet_want
       apply quiet_mk
       · intro w' hw'
         go_simp
         first
           | rfl
           | (go_at_call 28; refine (sum_at ((b.drop 6).take n) _ _ _ _ HTn.out (by rw [HTn.out]; omega) ((HW.out.below hw').drop_take 6 n)).mono ?_; rintro e w'' ⟨rfl, rfl⟩; exact ⟨rfl, hw'⟩)
           | (go_at_call 101; refine (number_at ((b.drop 2).take 4) _ _ _ _ HT4.out (by rw [HT4.out]; omega) ((HW.out.below hw').drop_take 2 4)).mono ?_; rintro e w'' ⟨rfl, rfl⟩; exact ⟨rfl, hw'⟩)
       go_big_quiet_on
       simp only [Act.put, List.setIfInBounds_toArray, List.set_cons_succ, List.set_cons_zero]))
  refine wpQuiet_nil ?_
  intro w' hw'
  have hdec : (((((sum ((b.drop 6).take n)).toNat : Nat) : Int) == ((num ((b.drop 2).take 4) : Nat) : Int)) = true ∧ cut b = some ((b.drop 6).take n, (b.drop 6).drop n)) ∨ (((((sum ((b.drop 6).take n)).toNat : Nat) : Int) == ((num ((b.drop 2).take 4) : Nat) : Int)) = false ∧ cut b = none) := by
    have hn : num (b.take 2) = n := HN.out
    by_cases he : (sum ((b.drop 6).take n)).toNat = num ((b.drop 2).take 4)
    · refine .inl ⟨by simp [he], ?_⟩
      unfold cut
      rw [hn, if_neg (by omega), if_neg (by omega), if_pos he]
    · refine .inr ⟨by rw [beq_eq_false_iff_ne]; omega, ?_⟩
      unfold cut
      rw [hn, if_neg (by omega), if_neg (by omega), if_neg he]
  have HD := Lib.hid hdec
  clear hdec
  go_wp2
  go_ret3
  refine ⟨BW.trans (hw'.mono BW.size), ?_⟩
  rcases HD.out with ⟨e1, e2⟩ | ⟨e1, e2⟩
  · refine .inr ⟨_, _, _, _, e2, tuple3_eq (by rw [wu _ hsum]; exact e1), fun w0 RR => ⟨?_, ?_⟩⟩
    · exact ⟨_, _, by rw [HTn.out]; rfl, by rw [HTn.out]; omega, fun h => (by cases h), RR.drop_take 6 n⟩
    · exact ⟨_, _, by rw [show ((b.drop 6).drop n).length = b.length - (6 + n) by simp <;> omega]; rfl, by simp <;> omega, fun h => (by cases h), ((RR.drop 6).drop n).off (by omega)⟩
  · exact .inl ⟨e2, _, _, tuple3_eq (by rw [wu _ hsum]; exact e1)⟩
theorem cut_any (b : List UInt8) (a : Option Addr) (cap : Nat) (w : World) (hc : b.length ≤ cap) (hb : b.length ≤ 1000000) (hr : RB w a b) : Calls Try.prog 84 #[.slice a b.length cap] w (CutOf b a w) := by
  by_cases h6 : b.length < 6
  · refine (cut_short b a cap w h6).mono ?_
    rintro en w' ⟨v1, v2, e, hbl⟩
    exact ⟨hbl, .inl ⟨by unfold cut; rw [if_pos h6], v1, v2, e⟩⟩
  · obtain ⟨g, off, rfl, _, _⟩ := hr 0 (by omega)
    by_cases hn : 4096 < num (b.take 2) ∨ b.length - 6 < num (b.take 2)
    · refine (cut_far b g off cap w (by omega) hc hb hr hn).mono ?_
      rintro en w' ⟨v1, v2, e, hbl⟩
      exact ⟨hbl, .inl ⟨by unfold cut; rw [if_neg h6, if_pos hn], v1, v2, e⟩⟩
    · rcases Nat.lt_or_ge (6 + num (b.take 2)) cap with h1 | h1
      · exact cut_main3 b g off cap _ w (by omega) hc hb hr rfl h1 (by omega) (by omega)
      · by_cases h0 : num (b.take 2) = 0
        · have hc6 : cap = 6 := by omega
          subst hc6
          exact cut_main1 b g off w (by omega) hc hr (by omega) h0 (by omega)
        · exact cut_main2 b g off cap _ w (by omega) hc hb hr rfl (by omega) h1 (by omega) (by omega)
end Go.Proofs.Ytopemjbakpahfaa

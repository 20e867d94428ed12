/-
  CrcBack: the walk, for all rows and all bytes. No condition.
-/
import Derived.Test.YtopemjbakpahfaaJoinK
import Derived.Test.YtopemjbakpahfaaRowsC
namespace Go.Proofs.Ytopemjbakpahfaa
open Go.RowKit Crc
theorem join_some : ∀ (L : List (List UInt8)) (m : Nat), m ≤ 4096 → (∀ i, i < L.length → (L.getD i []).length ≤ m) → ∃ x, join L = some x ∧ x.length ≤ L.length * (m + 6) := by
  intro L
  induction L with
  | nil => intro m _ _; exact ⟨[], rfl, by simp⟩
  | cons l L ih =>
    intro m hm h
    have h0 : l.length ≤ m := by simpa using h 0 (by simp)
    obtain ⟨x, h1, h2⟩ := ih m hm (fun i hi => by simpa using h (i + 1) (by simpa using hi))
    refine ⟨frame l ++ x, by rw [join_cons, if_neg (by omega), h1]; rfl, ?_⟩
    rw [List.length_append, frame_length, List.length_cons, Nat.add_mul]
    omega
theorem all_nil : all [] = ([], 0) := all_none (by decide +kernel)
theorem all_joined {L : List (List UInt8)} {x : List UInt8} (h : join L = some x) : all x = (L, x.length) := by
  have := all_join L x [] h
  rw [List.append_nil, all_nil] at this
  rw [this]; simp
theorem rows_at (A B : List (List UInt8)) (a b : Option Addr) (na nb ca cb : Nat) (w : World) (ha : A.length = na) (hb : B.length = nb) (hA : (A.length : Int) ≤ 9223372036854775807) (hRA : RR w a A) (hRB : RR w b B) :
    Calls Try.prog 50 #[.slice a na ca, .slice b nb cb] w fun en w' => en = .returned (.bool (decide (A = B))) ∧ Below w.heap.size w w' := by
  subst ha hb; exact rows_any A B a b ca cb w hA hRA hRB
set_option maxRecDepth 100000 in
set_option maxHeartbeats 4000000 in
theorem back_law (L : List (List UInt8)) (al : Option Addr) (capl : Nat) (b : List UInt8) (ab : Option Addr) (capb : Nat) (W : World) (hlL : L.length ≤ capl) (hml : capl ≤ maxLen) (hRL : RR W al L) (hLm : ∀ i, i < L.length → (L.getD i []).length ≤ maxLen)
    (hbl : b.length ≤ capb) (hbn : ab = none → capb = 0) (hRb : RB W ab b) :
    Calls Try.prog 13 #[.slice al L.length capl, .slice ab b.length capb] W (Yes W) := by
  have HL := Lib.hid hRL
  have HB := Lib.hid hRb
  have HM := Lib.hid hLm
  clear hRL hRb hLm
  unfold maxLen at hml
  have hLi : (L.length : Int) ≤ 9223372036854775807 := by omega
  go_enter Try.func13, Try.ntmps13
  go_wp2_with fail
  refine (small_any _).mono ?_
  rintro en w1 ⟨rfl, B1⟩
  by_cases h30 : 30 < (L.length : Int)
  · go_wp2
    go_ret
    exact ⟨rfl, B1⟩
  by_cases h500 : 500 < (b.length : Int)
  · go_wp2
    go_ret
    exact ⟨rfl, B1⟩
  have L1 := Lib.hid (HL.out.below B1)
  have R1 := Lib.hid (HB.out.below B1)
  clear HL HB
  go_wp2_with fail
  go_loop [6] (fun iv => ∃ k : Nat, iv = .int .i64 k ∧ k ≤ L.length ∧ ∀ j, j < k → (L.getD j []).length ≤ 300) (fun iv => L.length - (intOf iv).toNat)
  case atStart => exact ⟨0, rfl, Nat.zero_le _, fun j hj => absurd hj (Nat.not_lt_zero j)⟩
  case round =>
    obtain ⟨k, rfl, hk, hall⟩ := hrel
    have HA := Lib.hid hall
    clear hall
    by_cases hlt : k < L.length
    · have hk0 : (0 : Int) ≤ (k : Int) := by omega
      have hki : (k : Int) < (L.length : Int) := by omega
      obtain ⟨g, off, u, rfl, hg, hcell, hu⟩ := L1.out k hlt
      have hm := HM.out k hlt
      unfold maxLen at hm
      have hnext : Hid ((L.getD k []).length ≤ 300 → ∀ j, j < k + 1 → (L.getD j []).length ≤ 300) := fun hx j hj => by
        rcases Nat.lt_or_ge j k with h1 | h1
        · exact HA.out j h1
        · obtain rfl : j = k := by omega
          exact hx
      generalize L.getD k [] = l at hu hm hnext
      obtain ⟨a1, c1, rfl, q1, _, _⟩ := hu
      by_cases h3 : 300 < (l.length : Int)
      · go_wp2_with fail
        go_ret
        exact ⟨rfl, B1⟩
      · go_wp2_with fail
        go_round
        case rel => exact ⟨k + 1, rfl, hlt, hnext.out (by omega)⟩
        case measure => simp only [intOf]; omega
    · have hki : ¬ (k : Int) < (L.length : Int) := by omega
      obtain rfl : k = L.length := by omega
      obtain ⟨x, hjx, hxl⟩ := join_some L 300 (by omega) HA.out
      have hx2 : x.length ≤ 10000 := by omega
      have HJ := Lib.hid hjx
      clear hjx hxl
      go_wp2_with fail
      refine (join_any L al capl _ (by omega) L1.out (fun i hi => Nat.le_trans (HA.out i hi) (by omega))).mono ?_
      rintro en w2 ⟨b2, ⟨e, _⟩ | ⟨y, v2, e, rfl, o2⟩⟩
      · rw [HJ.out] at e; cases e
      obtain rfl : x = y := by rw [HJ.out] at e; simpa using e
      obtain ⟨a2, c2, rfl, l2, n2, r2⟩ := Bs.of_owns o2
      have R2 := Lib.hid r2
      have B2 := below_on B1 b2
      have L2 := Lib.hid (L1.out.below b2)
      have Rb2 := Lib.hid (R1.out.below b2)
      clear e r2 b2 o2 L1 R1 B1
      go_wp2_with fail
      refine (All_any x a2 c2 _ l2 (by omega) (fun e => (n2 e).1) R2.out).mono ?_
      rintro en w3 ⟨b3, v3, rfl, o3⟩
      rw [all_joined HJ.out] at o3 ⊢
      have B3 := below_on B2 b3
      have L3 := Lib.hid (L2.out.below b3)
      have Rb3 := Lib.hid (Rb2.out.below b3)
      have R3 := Lib.hid (R2.out.below b3)
      obtain ⟨a3, c3, rfl, _, _, r3⟩ := RR.of_rows o3
      have O3 := Lib.hid r3
      clear b3 o3 r3 L2 Rb2 R2 B2
      go_wp2_with (first
        | (at_builtin; refine app_bytes rfl (.tmp 49) (.tmp 50) rfl w3.heap.size _ [] x _ rfl (owns_bytes w3 [] _ _ _ rfl (Nat.le_refl _) rfl (by decide)) _ rfl n2 (R3.out.alloc _) (by simp; omega) (by simp) ?_; intro v4 w4 o4 b4 _; have B4 := (below_alloc w3 _).trans b4; clear b4)
        | (at_builtin; refine app_bytes rfl (.tmp 51) (.tmp 52) rfl w3.heap.size _ x b _ rfl o4 _ rfl (fun e => ⟨hbn e, List.eq_nil_of_length_eq_zero (by have := hbn e; omega)⟩) (Rb3.out.below B4) (by omega) B4.size ?_; intro v5 w5 o5 b5 _; have B5 := B4.trans b5; obtain ⟨a5, c5, rfl, l5, n5, r5⟩ := Bs.of_owns o5; clear o4 b5 B4))
      refine (All_at (x ++ b) _ _ _ _ (by simp) l5 (by simp; omega) (fun e => (n5 e).1) r5).mono ?_
      rintro en w6 ⟨b6, v6, rfl, o6⟩
      rw [all_join L x b HJ.out] at o6 ⊢
      generalize (all b).1 = M at o6
      generalize (all b).2 = m2
      have B6 := below_on B5 b6
      have BB := below_on B3 B6
      have L6 := Lib.hid (L3.out.below B6)
      have O6 := Lib.hid (O3.out.below B6)
      obtain ⟨a6, c6, rfl, l6, _, r6⟩ := RR.of_rows o6
      have r6' := r6.take L.length
      rw [List.take_left] at r6'
      have R6 := Lib.hid r6'
      rw [List.length_append] at l6
      have hc6 : (L.length : Int) ≤ (c6 : Int) := by omega
      clear b6 o6 r6 r6' l5 n5 r5 B5 B3 L3 O3 R3 Rb3 l2 n2 HJ HM HA
      go_wp2_with fail
      refine (rows_at L L a3 al _ _ _ _ _ rfl rfl hLi O6.out L6.out).mono ?_
      rintro en w7 ⟨rfl, b7⟩
      rw [decide_eq_true rfl]
      have BB7 := below_on BB b7
      have L7 := Lib.hid (L6.out.below b7)
      have R7 := Lib.hid (R6.out.below b7)
      clear b7 L6 O6 R6 BB B6
      go_wp2_with fail
      refine (rows_at L L _ al _ _ _ _ _ (by first | rfl | simp) rfl hLi R7.out L7.out).mono ?_
      rintro en w8 ⟨rfl, b8⟩
      rw [decide_eq_true rfl]
      go_wp2
      go_ret
      exact ⟨rfl, below_on BB7 b8⟩
end Go.Proofs.Ytopemjbakpahfaa

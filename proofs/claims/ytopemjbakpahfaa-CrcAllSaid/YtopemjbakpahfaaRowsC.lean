/-
  The contract of Rows: two rows of rows are alike. No condition but that the machine's numbers hold the lengths.
-/
import Derived.Test.YtopemjbakpahfaaRowsK
namespace Go.Proofs.Ytopemjbakpahfaa
open Go.RowKit Crc
theorem same_ext {A B : List (List UInt8)} (hl : A.length = B.length) (h : ∀ j, j < A.length → A.getD j [] = B.getD j []) : A = B := by
  apply List.ext_getElem hl
  intro i h1 h2
  have := h i h1
  simpa [List.getD, h1, h2] using this
set_option maxRecDepth 100000 in
set_option maxHeartbeats 4000000 in
theorem rows_any (A B : List (List UInt8)) (a b : Option Addr) (ca cb : Nat) (w : World) (hA : (A.length : Int) ≤ 9223372036854775807) (hRA : RR w a A) (hRB : RR w b B) :
    Calls Try.prog 50 #[.slice a A.length ca, .slice b B.length cb] w fun en w' => en = .returned (.bool (decide (A = B))) ∧ Below w.heap.size w w' := by
  have HA := Lib.hid hRA
  have HB := Lib.hid hRB
  clear hRA hRB
  go_enter Try.func50, Try.ntmps50
  by_cases hl : A.length = B.length
  rotate_left
  · have hli : ((A.length : Int) != (B.length : Int)) = true := by rw [bne_iff_ne]; omega
    have hd : decide (A = B) = false := by simp; intro e; exact hl (by rw [e])
    go_wp2
    go_ret
    exact ⟨ret_bool hd.symm, Below.refl _ _⟩
  have hli : ((A.length : Int) != (B.length : Int)) = false := by rw [bne_eq_false_iff_eq]; omega
  have HL := Lib.hid hl
  clear hl
  go_wp2_with fail
  go_loopw [5] (fun iv wr => ∃ k : Nat, iv = .int .i64 k ∧ k ≤ A.length ∧ (∀ j, j < k → A.getD j [] = B.getD j []) ∧ Below w.heap.size w wr) (fun iv _ => A.length - (intOf iv).toNat)
  case atStart => exact ⟨0, rfl, Nat.zero_le _, fun j hj => absurd hj (Nat.not_lt_zero j), Below.refl _ _⟩
  case round =>
    obtain ⟨k, rfl, hk, heq, hbl⟩ := hrel
    have EQ := Lib.hid heq
    have BL := Lib.hid hbl
    clear heq hbl
    by_cases hlt : k < A.length
    · have hk0 : (0 : Int) ≤ (k : Int) := by omega
      have hki : (k : Int) < (A.length : Int) := by omega
      have hkb : (k : Int) < (B.length : Int) := by have := HL.out; omega
      obtain ⟨g1, f1, u1, rfl, hg1, hc1, hu1⟩ := HA.out k hlt
      obtain ⟨g2, f2, u2, rfl, hg2, hc2, hu2⟩ := HB.out k (by have := HL.out; omega)
      have hw1 : wr.cell? ⟨g1, f1 + k, none⟩ = some u1 := (BL.out.cell (p := ⟨g1, f1 + k, none⟩) hg1).trans hc1
      have hw2 : wr.cell? ⟨g2, f2 + k, none⟩ = some u2 := (BL.out.cell (p := ⟨g2, f2 + k, none⟩) hg2).trans hc2
      have hnext : Hid (A.getD k [] = B.getD k [] → ∀ j, j < k + 1 → A.getD j [] = B.getD j []) := fun hx j hj => by
        rcases Nat.lt_or_ge j k with h1 | h1
        · exact EQ.out j h1
        · obtain rfl : j = k := by omega
          exact hx
      have hmiss : Hid (A.getD k [] ≠ B.getD k [] → decide (A = B) = false) := fun hx => by simp; intro e; exact hx (by rw [e])
      generalize A.getD k [] = l at hu1 hnext hmiss
      generalize B.getD k [] = m at hu2 hnext hmiss
      obtain ⟨a1, c1, rfl, q1, q2, q3⟩ := hu1
      obtain ⟨a2, c2, rfl, q4, q5, q6⟩ := hu2
      have k1 : ∀ w', Below wr.heap.size wr w' → (convert 22 9 (.slice a1 l.length c1)).run Try.prog w' = .ok (.string ⟨l.toArray⟩) w' := fun w' hw => conv_str w' a1 c1 l (fun e => by have := q2 e; omega) ((q3.below BL.out).below hw)
      have k2 : ∀ w', Below wr.heap.size wr w' → (convert 22 9 (.slice a2 m.length c2)).run Try.prog w' = .ok (.string ⟨m.toArray⟩) w' := fun w' hw => conv_str w' a2 c2 m (fun e => by have := q5 e; omega) ((q6.below BL.out).below hw)
      have K1 : ∀ n, (convert 22 9 (.slice a1 l.length c1)).run Try.prog (wr.drewN n) = .ok (.string ⟨l.toArray⟩) (wr.drewN n) := fun n => k1 _ (below_drewN (Below.refl _ _) n)
      have K2 : ∀ n, (convert 22 9 (.slice a2 m.length c2)).run Try.prog (wr.drewN n) = .ok (.string ⟨m.toArray⟩) (wr.drewN n) := fun n => k2 _ (below_drewN (Below.refl _ _) n)
      clear k1 k2 q3 q6 hc1 hc2
      cases hlm : (l == m)
      · go_wp2_with fail
        go_quiet (fail)
        go_wp2
        go_ret
        exact ⟨ret_bool (hmiss.out (by simpa using hlm)).symm, below_drewN BL.out _⟩
      · go_wp2_with fail
        go_quiet (fail)
        go_wp2
        go_roundw
        case rel => exact ⟨k + 1, rfl, hlt, hnext.out (by simpa using hlm), below_drewN BL.out _⟩
        case measure => simp only [intOf]; omega
    · have hki : ¬ (k : Int) < (A.length : Int) := by omega
      have hd : decide (A = B) = true := by simp; exact same_ext HL.out (fun j hj => EQ.out j (by omega))
      have HD := Lib.hid hd
      clear hd
      go_wp2
      go_ret
      exact ⟨ret_bool HD.out.symm, BL.out⟩
end Go.Proofs.Ytopemjbakpahfaa

/-
  CrcApart: the walk, for all bytes. No condition.
-/
import Derived.Test.YtopemjbakpahfaaFramesL
import Derived.Test.YtopemjbakpahfaaApartP
namespace Go.Proofs.Ytopemjbakpahfaa
open Go.RowKit Crc
/-- A row of the call's own in one block: how it reads, and that it may be written. -/
def OwnB (w : World) (g : Nat) (l : List UInt8) : Prop := RB w (some ⟨g, 0, none⟩) l ∧ (∀ o, w.frozen? ⟨g, o, none⟩ = false) ∧ g < w.heap.size
theorem bne8 (y : UInt8) : (((y.toNat : Int) != 0) = (y != 0)) := by
  cases h : y != 0 with
  | false =>
    have : y = 0 := by simpa using h
    subst this; rfl
  | true =>
    rw [bne_iff_ne] at h ⊢
    intro e
    exact h (UInt8.toNat_inj.1 (by simpa using e))
theorem OwnB.put {w : World} {g : Nat} {l m : List UInt8} (h : OwnB w g l) (i : Nat) (z : UInt8) (v : Value) (hv : v = .int .u8 (z.toNat : Int)) (hm : l.set i z = m) : OwnB (w.setCell ⟨g, i, none⟩ v).drew g m := by
  subst hv hm
  exact ⟨(h.1.store i z).below (Below.refl _ _).drew, fun o => (World.frozen?_setCell _ _ _ _).trans (h.2.1 o), by simpa [World.drew] using h.2.2⟩
structure ApartI (w1 : World) (g : Nat) (b ys : List UInt8) (p : Nat) (ch iv : Value) (wr : World) : Prop where
  ex : ∃ k : Nat, iv = .int .i64 k ∧ ch = .bool (chg ys k) ∧ k ≤ 4 ∧ p + k ≤ b.length ∧ OwnB wr g (mix b p ys k)
  bl : Below w1.heap.size w1 wr
set_option maxRecDepth 100000 in
set_option maxHeartbeats 2000000 in
theorem apart_law (b : List UInt8) (a : Option Addr) (cap : Nat) (n : Int) (y0 y1 y2 y3 : UInt8) (W : World) (hc : b.length ≤ cap) (hm : cap ≤ maxLen) (hn : a = none → cap = 0) (hr : RB W a b) (hw : (Lit.int .i64 n).wf = true) :
    Calls Try.prog 4 #[.slice a b.length cap, .int .i64 n, .agg #[.int .u8 (y0.toNat : Int), .int .u8 (y1.toNat : Int), .int .u8 (y2.toNat : Int), .int .u8 (y3.toNat : Int)]] W (Yes W) := by
  have HR := Lib.hid hr
  clear hr
  unfold maxLen at hm
  have hb : (b.length : Int) ≤ 9223372036854775807 := by omega
  go_enter Try.func4, Try.ntmps4
  go_wp2_with fail
  refine (small_any _).mono ?_
  rintro en w1 ⟨rfl, b1⟩
  have bx : ∀ j, j < 4 → w1.cell? ⟨W.heap.size, j, none⟩ = some (byteV ([y0, y1, y2, y3].getD j 0)) := by
    intro j hj
    rw [b1.cell (p := ⟨W.heap.size, j, none⟩) (by simp), new_blk]
    match j, hj with
    | 0, _ => rfl
    | 1, _ => rfl
    | 2, _ => rfl
    | 3, _ => rfl
  have B1 := below_on (below_alloc W _) b1
  have R1 := Lib.hid (HR.out.below B1)
  have L1 := b1.size
  rw [World.size_alloc] at L1
  clear HR b1
  by_cases hl : 2000 < (b.length : Int)
  · go_wp2
    go_ret
    exact ⟨rfl, B1⟩
  by_cases h0 : n < 0
  · go_wp2
    go_ret
    exact ⟨rfl, B1⟩
  by_cases hnL : (b.length : Int) ≤ n
  · go_wp2
    go_ret
    exact ⟨rfl, B1⟩
  obtain ⟨p, rfl⟩ : ∃ p : Nat, n = (p : Int) := ⟨n.toNat, by omega⟩
  have hp : p < b.length := by omega
  have hbe : b ≠ [] := by intro e; rw [e] at hp; simp at hp
  go_wp2_with (at_builtin; refine app_bytes rfl (.tmp 26) (.tmp 27) rfl w1.heap.size _ [] b _ rfl (owns_bytes w1 [] _ _ _ rfl (Nat.le_refl _) rfl (by decide)) _ rfl (fun e => absurd (List.eq_nil_of_length_eq_zero (by have := hn e; omega)) hbe) (R1.out.alloc _) (by simp; omega) (by simp) ?_; intro v2 w2 o2 b2 _; rw [List.nil_append] at o2; obtain ⟨g2, c2, rfl, hc2, hm2, hg2, hgl, hfr⟩ := own_form o2 (by omega); have B2 := (below_alloc w1 _).trans b2; clear b2)
  obtain ⟨_, _, e, _, _, r2⟩ := RB.of_owns o2
  cases e
  have RR := Lib.hid r2
  clear r2 o2
  generalize hys : [y0, y1, y2, y3] = ys at bx
  have hyl : ys.length = 4 := by rw [← hys]; rfl
  have hgW : W.heap.size < g2 := by omega
  have hW1 : W.heap.size < w1.heap.size := by omega
  unfold maxLen at hm2
  go_loopw [9, 10] (fun ch iv wr => ApartI w1 g2 b ys p ch iv wr) (fun _ iv _ => 4 - (intOf iv).toNat)
  case atStart => exact ⟨⟨0, rfl, rfl, by omega, by omega, by rw [mix_zero]; exact ⟨RR.out, hfr, hgl⟩⟩, B2⟩
  case round =>
    obtain ⟨⟨k, rfl, rfl, hk, hpk, hown⟩, hbl⟩ := hrel
    clear RR hfr hgl B2
    have HB := Lib.hid hbl
    have HO := Lib.hid hown
    have hML := mix_len hpk (show k ≤ ys.length by omega)
    have ML := Lib.hid hML
    clear hbl hown
    by_cases hk4 : k < 4
    · by_cases hpl : p + k < b.length
      · have hk0 : (0 : Int) ≤ (k : Int) := by omega
        have hki : (k : Int) < 4 := by omega
        have hpi : (p : Int) + (k : Int) < (b.length : Int) := by omega
        have e1 : wr.cell? ⟨W.heap.size, k, none⟩ = some (byteV (ys.getD k 0)) := (HB.out.cell (p := ⟨W.heap.size, k, none⟩) hW1).trans (bx k hk4)
        obtain ⟨g', off', e, hg', e2⟩ := HO.out.1 (p + k) (by rw [ML.out]; exact hpl)
        simp only [Option.some.injEq, Addr.mk.injEq, and_true] at e
        obtain ⟨rfl, rfl⟩ := e
        rw [mix_get hpl (by omega), Nat.zero_add] at e2
        have e3 := HO.out.2.1 (p + k)
        have HS := Lib.hid (mix_succ hpl (show k < ys.length by omega))
        have HC := Lib.hid (chg_succ (show k < ys.length by omega))
        have HX := Lib.hid (xor8 (b.getD (p + k) 0) (ys.getD k 0))
        have HST := Lib.hid (HO.out.1.store (p + k) (b.getD (p + k) 0 ^^^ ys.getD k 0))
        generalize b.getD (p + k) 0 = z at e2 HS HX HST
        generalize ys.getD k 0 = y at e1 HS HC HX HST
        unfold byteV at e1 e2
        have e1d : wr.drew.cell? ⟨W.heap.size, k, none⟩ = some (.int .u8 (y.toNat : Int)) := e1
        have e2d : wr.drew.cell? ⟨g2, p + k, none⟩ = some (.int .u8 (z.toNat : Int)) := e2
        have e3d : wr.drew.frozen? ⟨g2, p + k, none⟩ = false := e3
        have e4 : (wr.drew.setCell ⟨g2, p + k, none⟩ (.int .u8 (bits .xor .u8 (z.toNat : Int) (y.toNat : Int)))).cell? ⟨W.heap.size, k, none⟩ = some (.int .u8 (y.toNat : Int)) := by
          rw [World.cell?_setCell_other _ _ _ _ (by simp <;> omega)]; exact e1
        go_wp2_with fail
        go_region
        all_goals go_wp2_with fail
        all_goals refine ⟨⟨⟨k + 1, rfl, ?_, by omega, by omega, HO.out.put _ (z ^^^ y) _ (by rw [HX.out]) HS.out⟩, (HB.out.setCell (p := ⟨g2, p + k, none⟩) (by simpa using hg2) _).drew⟩, by simp only [intOf]; omega⟩
        all_goals rw [HC.out, ← bne8]
        all_goals simp_all
      · have hk0 : (0 : Int) ≤ (k : Int) := by omega
        have hki : (k : Int) < 4 := by omega
        have hpi : ¬ (p : Int) + (k : Int) < (b.length : Int) := by omega
        have hq := mix_beq hpk (show k ≤ ys.length by omega) hk
        have Q := Lib.hid hq
        clear hq
        go_wp2_with fail
        refine (sum_any b a cap _ hb (R1.out.below HB.out)).mono ?_
        rintro en w5 ⟨rfl, rfl⟩
        go_wp2_with fail
        refine (sum_at (mix b p ys k) _ _ _ _ ML.out (by rw [ML.out]; exact hb) HO.out.1).mono ?_
        rintro en w5 ⟨rfl, rfl⟩
        have hq := Q.out
        cases hch : chg ys k
        · rw [hch] at hq
          simp only [Bool.not_false] at hq
          go_wp2_with fail
          go_ret
          exact ⟨rfl, below_on B1 HB.out⟩
        · rw [hch] at hq
          simp only [Bool.not_true] at hq
          go_wp2_with fail
          go_ret
          exact ⟨rfl, below_on B1 HB.out⟩
    · have hk0 : (0 : Int) ≤ (k : Int) := by omega
      have hki : ¬ (k : Int) < 4 := by omega
      have hq := mix_beq hpk (show k ≤ ys.length by omega) hk
      have Q := Lib.hid hq
      clear hq
      go_wp2_with fail
      refine (sum_any b a cap _ hb (R1.out.below HB.out)).mono ?_
      rintro en w5 ⟨rfl, rfl⟩
      go_wp2_with fail
      refine (sum_at (mix b p ys k) _ _ _ _ ML.out (by rw [ML.out]; exact hb) HO.out.1).mono ?_
      rintro en w5 ⟨rfl, rfl⟩
      have hq := Q.out
      cases hch : chg ys k
      · rw [hch] at hq
        simp only [Bool.not_false] at hq
        go_wp2_with fail
        go_ret
        exact ⟨rfl, below_on B1 HB.out⟩
      · rw [hch] at hq
        simp only [Bool.not_true] at hq
        go_wp2_with fail
        go_ret
        exact ⟨rfl, below_on B1 HB.out⟩
end Go.Proofs.Ytopemjbakpahfaa
